/- A part of a proof of a given law of this program: lemmas, printed forms of its functions, contracts. It has no conditions of its own. -/
import Derived.Test.YtlphgbgfnjhhcaaMH
import Derived.Test.YtlphgbgfnjhhcaaML03
import Derived.Test.YtlphgbgfnjhhcaaML06
import Derived.Test.YtlphgbgfnjhhcaaMSh3

section
namespace Go.Sh
open Go Go.Fw Go.Proofs
set_option maxRecDepth 100000
set_option linter.unusedVariables false

theorem _root_.Go.Fw.Fr.at {a b c : World} {k : Nat} (h : Fr [] a b) (f : Fr [k] b c) (hk : a.heap.size ≤ k) : Fr [] a c := h.trans f (fun z hz => .inr (by simp at hz; omega))
def okL (l : Nat) (ps : List Int) : Prop := 2 ≤ l ∧ l ≤ 28 ∧ ∀ p ∈ ps, 0 ≤ p ∧ p ≤ 255
section
variable {c lo hi : Nat} {key : List UInt8} {d : Int}
theorem PassesAny_c {w : World} (hC : Cip w c key d lo hi) (hd0 : 0 ≤ d) (hd : d < 100000000) (hhi : hi ≤ w.heap.size) {p1 p2 : Option Addr} {l1 c1 l2 c2 : Nat} {xs : List UInt8} {ps : List Int} (hX : Row w p1 (xs.map vb)) (hl1 : l1 = xs.length) (hc1 : l1 ≤ c1) (hb1 : l1 < 1000000) (hS : Row w p2 (ps.map vi)) (hl2 : l2 = ps.length) (hb2 : l2 < 1000000) (hp2 : 0 < ps.length → c ∉ blks p2) {K : Value → World → Prop}
    (h : ∀ q e er out d' w', Fr [c] w w' → Cip w' c key d' lo hi → d ≤ d' → d' ≤ d + ps.length → OB w' q out.length e out w.heap.size → outIs (okL l1 ps) (passesL key xs (ps.map Int.toNat)) er out → K (.tuple #[.slice q out.length e, .int .i64 er]) w') :
    callF Try.prog F_feist_Passes #[.pointer (some ⟨c, 0, none⟩), .slice p1 l1 c1, .slice p2 l2 c2] w K := by
  refine Passes_c hC hd0 hd hhi hX hl1 hc1 hb1 hS hl2 hb2 hp2 (fun hb d' w' f hC' h1 h2 => ?_) fun hO q e w' f hC' hO' => ?_
  · exact h none 0 11 [] d' w' f hC' h1 h2 (OB.nil _ _) (.inr ⟨hb, rfl, rfl⟩)
  · have hlen := hO'.2.1
    have := h q e 0 _ _ w' f hC' (by omega) (by omega) (by rw [← hlen]; exact hO') (.inl ⟨hO, rfl, rfl⟩)
    rw [← hlen] at this
    exact this
theorem MixAny_c {w : World} (hC : Cip w c key d lo hi) (hd0 : 0 ≤ d) (hd : d < 100000000) (hhi : hi ≤ w.heap.size) {p1 : Option Addr} {l1 c1 : Nat} {xs : List UInt8} (hX : Row w p1 (xs.map vb)) (hl1 : l1 = xs.length) (hc1 : l1 ≤ c1) (hb1 : l1 < 1000000) {K : Value → World → Prop}
    (h : ∀ q e er out d' w', Fr [c] w w' → Cip w' c key d' lo hi → d ≤ d' → d' ≤ d + 4 → OB w' q out.length e out w.heap.size → outIs (okT l1) (passesL key xs [1, 2, 3, 4]) er out → K (.tuple #[.slice q out.length e, .int .i64 er]) w') :
    callF Try.prog F_feist_Mix #[.pointer (some ⟨c, 0, none⟩), .slice p1 l1 c1] w K := by
  refine Mix_c hC hd0 hd hhi hX hl1 hc1 hb1 (fun hb d' w' f hC' h1 h2 => ?_) fun hO q e w' f hC' hO' => ?_
  · exact h none 0 11 [] d' w' f hC' h1 h2 (OB.nil _ _) (.inr ⟨hb, rfl, rfl⟩)
  · have hlen := hO'.2.1
    have := h q e 0 _ _ w' f hC' (by omega) (by omega) (by rw [← hlen]; exact hO') (.inl ⟨hO, rfl, rfl⟩)
    rw [← hlen] at this
    exact this
theorem UnmixAny_c {w : World} (hC : Cip w c key d lo hi) (hd0 : 0 ≤ d) (hd : d < 100000000) (hhi : hi ≤ w.heap.size) {p1 : Option Addr} {l1 c1 : Nat} {xs : List UInt8} (hX : Row w p1 (xs.map vb)) (hl1 : l1 = xs.length) (hc1 : l1 ≤ c1) (hb1 : l1 < 1000000) {K : Value → World → Prop}
    (h : ∀ q e er out d' w', Fr [c] w w' → Cip w' c key d' lo hi → d ≤ d' → d' ≤ d + 4 → OB w' q out.length e out w.heap.size → outIs (okT l1) (passesL key xs [4, 3, 2, 1]) er out → K (.tuple #[.slice q out.length e, .int .i64 er]) w') :
    callF Try.prog F_feist_Unmix #[.pointer (some ⟨c, 0, none⟩), .slice p1 l1 c1] w K := by
  refine Unmix_c hC hd0 hd hhi hX hl1 hc1 hb1 (fun hb d' w' f hC' h1 h2 => ?_) fun hO q e w' f hC' hO' => ?_
  · exact h none 0 11 [] d' w' f hC' h1 h2 (OB.nil _ _) (.inr ⟨hb, rfl, rfl⟩)
  · have hlen := hO'.2.1
    have := h q e 0 _ _ w' f hC' (by omega) (by omega) (by rw [← hlen]; exact hO') (.inl ⟨hO, rfl, rfl⟩)
    rw [← hlen] at this
    exact this
theorem refPassesAny_c {w : World} {pk p1 p2 : Option Addr} {lk ck l1 c1 l2 c2 : Nat} {xs : List UInt8} {ps : List Int} (hK : Row w pk (key.map vb)) (hlk : lk = key.length) (hk16 : key.length = 16) (hck : lk ≤ ck)
    (hX : Row w p1 (xs.map vb)) (hl1 : l1 = xs.length) (hb1 : l1 < 1000000) (hS : Row w p2 (ps.map vi)) (hl2 : l2 = ps.length) (hb2 : l2 < 1000000) {K : Value → World → Prop}
    (h : ∀ q e er out w', Fr [] w w' → OB w' q out.length e out w.heap.size → outIs (okL l1 ps) (passesL key xs (ps.map Int.toNat)) er out → K (.tuple #[.slice q out.length e, .int .i64 er]) w') :
    callF Try.prog F_ref15_Passes #[.slice pk lk ck, .slice p1 l1 c1, .slice p2 l2 c2] w K := by
  refine refPasses_c hK hlk hk16 hck hX hl1 hb1 hS hl2 hb2 (fun hb w' f => ?_) fun hO q e w' f hO' => ?_
  · exact h none 0 11 [] w' f (OB.nil _ _) (.inr ⟨hb, rfl, rfl⟩)
  · have hlen := hO'.2.1
    have := h q e 0 _ w' f (by rw [← hlen]; exact hO') (.inl ⟨hO, rfl, rfl⟩)
    rw [← hlen] at this
    exact this
def outs (ok : Prop) (s : List UInt8 × List UInt8) (er : Int) (a b : List UInt8) : Prop := (ok ∧ er = 0 ∧ (a, b) = s) ∨ (¬ ok ∧ er = 11 ∧ (a, b) = ([], []))
theorem outs.eq {ok : Prop} {s : List UInt8 × List UInt8} {e1 e2 : Int} {a1 b1 a2 b2 : List UInt8} (h : outs ok s e1 a1 b1) (k : outs ok s e2 a2 b2) : e1 = e2 ∧ a1 = a2 ∧ b1 = b2 := by
  have fin : ∀ t : List UInt8 × List UInt8, (a1, b1) = t → (a2, b2) = t → a1 = a2 ∧ b1 = b2 := by
    rintro t rfl h; injection h with h1 h2; exact ⟨h1.symm, h2.symm⟩
  rcases h with ⟨a, b, c⟩ | ⟨a, b, c⟩ <;> rcases k with ⟨a', b', c'⟩ | ⟨a', b', c'⟩
  · exact ⟨by rw [b, b'], fin _ c c'⟩
  · exact absurd a a'
  · exact absurd a' a
  · exact ⟨by rw [b, b'], fin _ c c'⟩
/-- A row, and what may be turned behind it. -/
def OR (w : World) (q : Option Addr) (l c : Nat) (xs : List UInt8) (lo : Nat) : Prop := Row w q (xs.map vb) ∧ l = xs.length ∧ l ≤ c ∧ ∀ z ∈ blks q, lo ≤ z
theorem OR.fr {w w' : World} {q : Option Addr} {l c : Nat} {xs : List UInt8} {lo k : Nat} (h : OR w q l c xs lo) (f : Fr [k] w w') (hk : k < lo) : OR w' q l c xs lo := ⟨Row.cells_fr h.1 f (fun z hz => by have := h.2.2.2 z hz; simp; omega), h.2⟩
theorem OR.fr0 {w w' : World} {q : Option Addr} {l c : Nat} {xs : List UInt8} {lo : Nat} (h : OR w q l c xs lo) (f : Fr [] w w') : OR w' q l c xs lo := ⟨Row.cells_fr h.1 f (fun z hz => by simp), h.2⟩
theorem OR.nil (w : World) (lo : Nat) : OR w none 0 0 [] lo := ⟨Row.nil _ _, rfl, Nat.le_refl _, by simp [blks]⟩
theorem OB.or {w : World} {q : Option Addr} {l c : Nat} {xs : List UInt8} {lo : Nat} (h : OB w q l c xs lo) : OR w q l c xs lo := ⟨h.row, h.2.1, h.cap, h.2.2⟩
theorem PassAny_c {w : World} (hC : Cip w c key d lo hi) (hd0 : 0 ≤ d) (hd : d < 1000000000) (hhi : hi ≤ w.heap.size) {p1 p2 : Option Addr} {l1 c1 l2 c2 : Nat} {ls rs : List UInt8} (hL : Row w p1 (ls.map vb)) (hl1 : l1 = ls.length) (hb1 : l1 < 1000000) (hR : Row w p2 (rs.map vb)) (hl2 : l2 = rs.length) (hb2 : l2 < 1000000) (n pass : Int) {K : Value → World → Prop}
    (h : ∀ q1 e1 q2 e2 er a b d' w', Fr [c] w w' → Cip w' c key d' lo hi → d ≤ d' → d' ≤ d + 1 → OR w' q1 a.length e1 a w.heap.size → OR w' q2 b.length e2 b w.heap.size → outs (okP (ls, rs) n pass) (passL key n.toNat pass.toNat (ls, rs)) er a b → K (.tuple #[.slice q1 a.length e1, .slice q2 b.length e2, .int .i64 er]) w') :
    callF Try.prog F_feist_Pass #[.pointer (some ⟨c, 0, none⟩), .slice p1 l1 c1, .slice p2 l2 c2, .int .i64 n, .int .i64 pass] w K := by
  refine Pass_c hC hd0 hd hhi hL hl1 hb1 hR hl2 hb2 n pass (fun hb w' f => ?_) fun hO q1 e1 q2 e2 w' f hC' h1 k1 h2 k2 g1 g2 => ?_
  · exact h none 0 none 0 11 [] [] d w' (f.mono (by simp)) (hC.fr0 f) (by omega) (by omega) (OR.nil _ _) (OR.nil _ _) (.inr ⟨hb, rfl, rfl⟩)
  · exact h q1 e1 q2 e2 0 _ _ _ w' f hC' (by omega) (by omega) ⟨h1, rfl, k1, g1⟩ ⟨h2, rfl, k2, g2⟩ (.inl ⟨hO, rfl, rfl⟩)
theorem refPassAny_c {w : World} {pk p1 p2 : Option Addr} {lk ck l1 c1 l2 c2 : Nat} {ls rs : List UInt8} (hK : Row w pk (key.map vb)) (hlk : lk = key.length) (hk16 : key.length = 16) (hck : lk ≤ ck)
    (hL : Row w p1 (ls.map vb)) (hl1 : l1 = ls.length) (hb1 : l1 < 1000000) (hR : Row w p2 (rs.map vb)) (hl2 : l2 = rs.length) (hb2 : l2 < 1000000) (n pass : Int) {K : Value → World → Prop}
    (h : ∀ q1 e1 q2 e2 er a b w', Fr [] w w' → OR w' q1 a.length e1 a w.heap.size → OR w' q2 b.length e2 b w.heap.size → outs (okP (ls, rs) n pass) (passL key n.toNat pass.toNat (ls, rs)) er a b → K (.tuple #[.slice q1 a.length e1, .slice q2 b.length e2, .int .i64 er]) w') :
    callF Try.prog F_ref15_Pass #[.slice pk lk ck, .slice p1 l1 c1, .slice p2 l2 c2, .int .i64 n, .int .i64 pass] w K := by
  refine refPass_c hK hlk hk16 hck hL hl1 hb1 hR hl2 hb2 n pass (fun hb w' f => ?_) fun hO q1 e1 q2 e2 w' f h1 h2 => ?_
  · exact h none 0 none 0 11 [] [] w' f (OR.nil _ _) (OR.nil _ _) (.inr ⟨hb, rfl, rfl⟩)
  · exact h q1 e1 q2 e2 0 _ _ w' f h1.or h2.or (.inl ⟨hO, rfl, rfl⟩)
end
/-! ### alive -/
def t15 : List UInt8 := [1, 2, 3, 4, 5]
theorem cut15 : cutL t15 = ([1, 2, 0], [3, 4, 5]) := by decide +kernel
theorem on1 : ontoL z16 [1, 2, 0] [3, 4, 5] 5 1 false = [5, 2, 30] := by unfold ontoL; rw [aencL_eval]; kernel_rfl
theorem on2 : ontoL z16 [5, 2, 30] [1, 2, 0] 5 2 true = [137, 75, 160] := by unfold ontoL; rw [aencL_eval]; kernel_rfl
theorem on3 : ontoL z16 [137, 75, 160] [5, 2, 30] 5 3 false = [5, 130, 214] := by unfold ontoL; rw [aencL_eval]; kernel_rfl
theorem on4 : ontoL z16 [5, 130, 214] [137, 75, 160] 5 4 true = [94, 195, 128] := by unfold ontoL; rw [aencL_eval]; kernel_rfl
theorem run15 : runL z16 5 [1, 2, 3, 4] ([1, 2, 0], [3, 4, 5]) = ([94, 195, 128], [5, 130, 214]) := by
  show passL z16 5 4 (passL z16 5 3 (passL z16 5 2 (passL z16 5 1 ([1, 2, 0], [3, 4, 5])))) = _
  have e1 : passL z16 5 1 ([1, 2, 0], [3, 4, 5]) = ([1, 2, 0], [5, 2, 30]) := by unfold passL; rw [if_neg (by decide)]; show ([1, 2, 0], ontoL z16 [1, 2, 0] [3, 4, 5] 5 1 false) = _; rw [on1]
  have e2 : passL z16 5 2 ([1, 2, 0], [5, 2, 30]) = ([137, 75, 160], [5, 2, 30]) := by unfold passL; rw [if_pos (by decide)]; show (ontoL z16 [5, 2, 30] [1, 2, 0] 5 2 true, [5, 2, 30]) = _; rw [on2]
  have e3 : passL z16 5 3 ([137, 75, 160], [5, 2, 30]) = ([137, 75, 160], [5, 130, 214]) := by unfold passL; rw [if_neg (by decide)]; show ([137, 75, 160], ontoL z16 [137, 75, 160] [5, 2, 30] 5 3 false) = _; rw [on3]
  have e4 : passL z16 5 4 ([137, 75, 160], [5, 130, 214]) = ([94, 195, 128], [5, 130, 214]) := by unfold passL; rw [if_pos (by decide)]; show (ontoL z16 [5, 130, 214] [137, 75, 160] 5 4 true, [5, 130, 214]) = _; rw [on4]
  rw [e1, e2, e3, e4]
theorem mix15 : passesL z16 t15 [1, 2, 3, 4] = [94, 195, 133, 130, 214] := by
  unfold passesL
  rw [cut15]
  show joinL (runL z16 5 [1, 2, 3, 4] ([1, 2, 0], [3, 4, 5])).1 (runL z16 5 [1, 2, 3, 4] ([1, 2, 0], [3, 4, 5])).2 5 = _
  rw [run15]
  decide +kernel
end Go.Sh
end

section
namespace Go.Sh
open Go Go.Fw Go.Proofs
set_option maxRecDepth 100000
set_option linter.unusedVariables false

theorem MixShort_c {w : World} {c : Option Addr} {p1 : Option Addr} {l1 c1 : Nat} {xs : List UInt8} (hX : Row w p1 (xs.map vb)) (hl1 : l1 = xs.length) (hc1 : l1 ≤ c1) (hb1 : l1 < 1000000) (hbd : ¬ okT l1) {K : Value → World → Prop}
    (h : ∀ w', Fr [] w w' → K (.tuple #[.slice none 0 0, .int .i64 11]) w') :
    callF Try.prog F_feist_Mix #[.pointer c, .slice p1 l1 c1] w K := by
  apply feist_Mix_call
  unfold feist_Mix
  refine ⟨_, _, _, Ef.new (v := .slice (some ⟨w.heap.size, 0, none⟩) 4 4) (cs := (([1, 2, 3, 4] : List Int).map vi).toArray) (e := 3) (by kernel_rfl) fun w1 f1 hB1 s1 => ?_⟩
  apply feist_Passes_call
  unfold feist_Passes
  refine Cut_c (hX.fr0 f1) hl1 hc1 hb1 (fun hb w2 f2 => ⟨_, _, _, _, _, _, _, rfl, cond_t ⟨_, _, _, _, rfl, h w2 (f1.then f2)⟩⟩) fun hl => absurd hl hbd
theorem pass15 : passL z16 (3 : Int).toNat (2 : Int).toNat ([0, 0], [0, 0]) = ([226, 128], [0, 0]) := by
  unfold passL
  rw [if_pos (by decide)]
  show (ontoL z16 [0, 0] [0, 0] 3 2 true, _) = _
  have : ontoL z16 [0, 0] [0, 0] 3 2 true = [226, 128] := by unfold ontoL; rw [aencL_eval]; kernel_rfl
  rw [this]
set_option maxHeartbeats 2000000 in
theorem alive15_c {w : World} {K : Value → World → Prop} (h : ∀ w', Fr [] w w' → K (.bool true) w') : callF Try.prog F_law15_alive #[] w K := by
  apply law15_alive_call
  unfold law15_alive
  refine mkNz fun pz w1 f1 hz => ?_
  refine newCip_c hz.row rfl rfl (by decide) fun c w2 f2 hC => ⟨_, _, rfl, ?_⟩
  refine ⟨_, _, ptrNil (by kernel_rfl), cond_f (cond_f ?_)⟩
  unfold law15_alive_j1
  have n1 := f1.size; have n2 := f2.size
  have hcl := hC.lt
  have f02 := f1.then f2
  refine mkL (n := 5) (xs := t15) rfl rfl (by kernel_rfl) fun pt w3 f3 ht s3 => ?_
  have f03 := f02.then f3
  have n3 := f3.size
  refine Mix_c (hC.fr0 f3) (by omega) (by omega) (by omega) ht.row rfl (by decide) (by decide) (fun hb => absurd ⟨by decide, by decide⟩ hb) fun _ pa ca w4 f4 hC4 ha => ⟨_, _, _, _, rfl, ?_⟩
  have f04 := f03.at f4 (by omega)
  have n4 := f4.size
  have ht4 := ht.fr_sep f4 (by omega)
  rw [mix15] at ha
  refine Unmix_c hC4 (by omega) (by omega) (by omega) ha.row rfl ha.cap (by decide) (fun hb => absurd ⟨by decide, by decide⟩ hb) fun _ pb cb w5 f5 hC5 hb => ⟨_, _, _, _, rfl, ?_⟩
  have f05 := f04.at f5 (by omega)
  have n5 := f5.size
  have ht5 := ht4.fr_sep f5 (by omega)
  have ha5 := ha.fr_sep f5 (by omega)
  have eb : passesL z16 [94, 195, 133, 130, 214] [4, 3, 2, 1] = t15 := by
    rw [← mix15]
    exact passesL_rev z16 t15 [1, 2, 3, 4] (by decide) (by decide)
  rw [eb] at hb
  refine slTo (n := 1) ht5.row rfl (by decide) (by decide) fun pq dq hq lq cq bq => ?_
  refine MixShort_c hq lq cq (by decide) (by unfold okT; omega) fun w6 f6 => ⟨_, _, _, _, rfl, ?_⟩
  have f06 := f05.then f6
  refine mkL (n := 2) (xs := [0, 0]) rfl rfl (by kernel_rfl) fun px w7 f7 hx s7 => ?_
  refine mkL (n := 2) (xs := [0, 0]) rfl rfl (by kernel_rfl) fun py w8 f8 hy s8 => ?_
  have f68 := (f6.then f7).then f8
  have n8 := f68.size
  have f08 := f05.then f68
  refine Pass_c (hC5.fr0 f68) (by omega) (by omega) (by omega) (hx.row.fr0 f8) rfl (by decide) hy.row rfl (by decide) 3 2 (fun hb => hb.elim ?_) fun _ p1 e1 p2 e2 w9 f9 hC9 => ?_
  · unfold okP okO okB
    rw [if_pos (by decide)]
    exact ⟨⟨fit1.2 ⟨by decide, by decide, by decide⟩, by decide, by decide⟩, rfl⟩
  rw [pass15]
  intro h1 k1 h2 k2 g1 g2
  refine ⟨_, _, _, _, _, _, _, rfl, cond_t (cond_t (cond_t (cond_t ?_)))⟩
  have f09 := f08.at f9 (by omega)
  have hb8 := hb.fr0 f68
  have hb9 := hb8.fr_sep f9 (by omega)
  have ht9 := (ht5.fr0 f68).fr_sep f9 (by omega)
  have ha9 := (ha5.fr0 f68).fr_sep f9 (by omega)
  refine SameBytes_c hb9.row rfl ht9.row rfl (by decide) fun w10 f10 => ⟨_, rfl, ?_⟩
  rw [decide_eq_true rfl]
  refine cond_t (SameBytes_c (ha9.row.fr0 f10) rfl (ht9.row.fr0 f10) rfl (by decide) fun w11 f11 => ⟨_, rfl, ?_⟩)
  have ff := f10.then f11
  rw [show decide (([94, 195, 133, 130, 214] : List UInt8) = t15) = false by decide]
  refine cond_t (doneCip_c (hC9.fr0 ff) ⟨_, rfl, ?_⟩)
  refine cond_t (cond_t ?_)
  obtain ⟨a, ha', hca⟩ := row_get (t := 50) (by kernel_rfl) (h1.fr0 ff) (l := 2) (c := e1) rfl (i := 1) (by omega) (k := .i64)
  refine ⟨a, ha', _, Ld.cell (by kernel_rfl) hca, cond_t ?_⟩
  refine mkL (n := 2) (xs := [0, 0]) rfl rfl (by kernel_rfl) fun pv w12 f12 hv s12 => ?_
  refine SameBytes_c ((h2.fr0 ff).fr0 f12) rfl hv.row rfl (by decide) fun w13 f13 => ⟨_, rfl, ?_⟩
  rw [decide_eq_true rfl]
  exact h w13 ((f09.then ff).then (f12.then f13))
end Go.Sh
end

section
namespace Go.Sh
open Go Go.Fw Go.Proofs
set_option maxRecDepth 100000
set_option linter.unusedVariables false

theorem outIs.cg {ok ok' : Prop} {o : List UInt8} {e : Int} {x : List UInt8} (h : outIs ok o e x) (hk : ok ↔ ok') : outIs ok' o e x := by
  rcases h with ⟨a, b⟩ | ⟨a, b⟩
  · exact .inl ⟨hk.1 a, b⟩
  · exact .inr ⟨fun h => a (hk.2 h), b⟩
theorem okL_up {l : Nat} : okL l [1, 2, 3, 4] ↔ okT l := ⟨fun h => ⟨h.1, h.2.1⟩, fun h => ⟨h.1, h.2, by decide⟩⟩
theorem okL_dn {l : Nat} : okL l [4, 3, 2, 1] ↔ okT l := ⟨fun h => ⟨h.1, h.2.1⟩, fun h => ⟨h.1, h.2, by decide⟩⟩
theorem outIs.short {ok : Prop} {o : List UInt8} {e : Int} {x : List UInt8} (h : outIs ok o e x) {n : Nat} (hn : ok → o.length ≤ n) : x.length ≤ n := by
  rcases h with ⟨a, _, rfl⟩ | ⟨_, _, rfl⟩
  · exact hn a
  · simp
theorem passes_short {key xs : List UInt8} {ps : List Nat} {l : Nat} (hl : l = xs.length) : okT l → (passesL key xs ps).length ≤ 28 := fun h => by rw [passesL_len _ _ _ (by have := h.1; omega) (by have := h.2; omega)]; have := h.2; omega
theorem decide_same {xs ys : List UInt8} (h : xs = ys) : decide (xs = ys) = true := decide_eq_true h
set_option maxHeartbeats 2000000 in
theorem FeistMixes_c {w : World} {p0 p1 : Option Addr} {l0 c0 l1 c1 : Nat} {key text : List UInt8} (h0 : Row w p0 (key.map vb)) (hl0 : l0 = key.length) (hc0 : l0 ≤ c0) (h1 : Row w p1 (text.map vb)) (hl1 : l1 = text.length) (hc1 : l1 ≤ c1)
    {K : Value → World → Prop} (h : ∀ w', Fr [] w w' → K (.bool true) w') : callF Try.prog F_law15_FeistMixes #[.slice p0 l0 c0, .slice p1 l1 c1] w K := by
  apply law15_FeistMixes_call
  unfold law15_FeistMixes
  refine alive15_c fun w1 f1 => ⟨_, rfl, cond_f ?_⟩
  refine cond_ne (fun _ => h w1 f1) fun hk => cond_d (fun _ => h w1 f1) fun hlen => ?_
  unfold law15_FeistMixes_j1
  have hk16 : key.length = 16 := by omega
  refine newCip_c (h0.fr0 f1) hl0 hk16 (by omega) fun c w2 f2 hC => ⟨_, _, rfl, ?_⟩
  refine ⟨_, _, ptrNil (by kernel_rfl), cond_f ?_⟩
  have n1 := f1.size; have n2 := f2.size
  have hcl := hC.lt
  have f02 := f1.then f2
  refine CopyBytes_c (h1.fr0 f02) hl1 (by omega) fun pg cg w3 f3 hG hpg => ⟨_, _, _, rfl, ?_⟩
  have f03 := f02.then f3
  have n3 := f3.size
  have hg : OB w3 pg l1 cg text w2.heap.size := ⟨hG, hl1, hpg⟩
  refine MixAny_c (hC.fr0 f3) (by omega) (by omega) (by omega) hg.row hl1 hg.cap (by omega) fun pa ea e1 o1 d1 w4 f4 hC4 b1 b2 ha r1 => ⟨_, _, _, _, rfl, ?_⟩
  have f04 := f03.at f4 (by omega)
  have n4 := f4.size
  have hg4 := hg.fr_sep f4 (by omega)
  refine ⟨_, _, _, Ef.new (v := .slice (some ⟨w4.heap.size, 0, none⟩) 4 4) (cs := (([1, 2, 3, 4] : List Int).map vi).toArray) (e := 3) (by kernel_rfl) fun w5 f5 hB5 s5 => ?_⟩
  have f05 := f04.then f5
  refine refPassesAny_c (l2 := 4) (c2 := 4) (ps := [1, 2, 3, 4]) (h0.fr0 f05) hl0 hk16 hc0 (h1.fr0 f05) hl1 (by omega) hB5.rowL rfl (by omega) fun pb eb e2 o2 w6 f6 hb r2 => ⟨_, _, _, _, rfl, ?_⟩
  have f46 := f5.then f6
  have f06 := f05.then f6
  have n6 := f46.size
  refine UnmixAny_c (hC4.fr0 f46) (by omega) (by omega) (by omega) (hg4.fr0 f46).row hl1 hg.cap (by omega) fun pc ec e3 o3 d3 w7 f7 hC7 b3 b4 hc r3 => ⟨_, _, _, _, rfl, ?_⟩
  have f07 := f06.at f7 (by omega)
  have n5 := f5.size; have n7 := f7.size
  have hg7 := (hg4.fr0 f46).fr_sep f7 (by omega)
  have ha7 := (ha.fr0 f46).fr_sep f7 (by omega)
  have hb7 := hb.fr_sep f7 (by omega)
  refine ⟨_, _, _, Ef.new (v := .slice (some ⟨w7.heap.size, 0, none⟩) 4 4) (cs := (([4, 3, 2, 1] : List Int).map vi).toArray) (e := 3) (by kernel_rfl) fun w8 f8 hB8 s8 => ?_⟩
  have f08 := f07.then f8
  refine refPassesAny_c (l2 := 4) (c2 := 4) (ps := [4, 3, 2, 1]) (h0.fr0 f08) hl0 hk16 hc0 (h1.fr0 f08) hl1 (by omega) hB8.rowL rfl (by omega) fun pd ed e4 o4 w9 f9 hd r4 => ⟨_, _, _, _, rfl, ?_⟩
  have f79 := f8.then f9
  have f09 := f08.then f9
  have q1 := r1.eq (r2.cg okL_up)
  have q2 := r3.eq (r4.cg okL_dn)
  have s1 := r1.short (passes_short hl1)
  have s3 := r3.short (passes_short hl1)
  refine cond_eq (fun _ => ?_) fun hne => absurd q1.1 hne
  refine SameBytes_c (ha7.row.fr0 f79) rfl (hb7.row.fr0 f79) rfl (by omega) fun w10 f10 => ⟨_, rfl, ?_⟩
  rw [decide_same q1.2]
  refine cond_t (cond_eq (fun _ => ?_) fun hne => absurd q2.1 hne)
  refine SameBytes_c (hc.row.fr0 (f79.then f10)) rfl (hd.row.fr0 f10) rfl (by omega) fun w11 f11 => ⟨_, rfl, ?_⟩
  rw [decide_same q2.2]
  have ff := f10.then f11
  refine cond_t (SameBytes_c (hg7.row.fr0 (f79.then ff)) hl1 (h1.fr0 (f09.then ff)) hl1 (by omega) fun w12 f12 => ⟨_, rfl, ?_⟩)
  rw [decide_same rfl]
  exact h w12 ((f09.then ff).then f12)
end Go.Sh
end

section
namespace Go.Sh
open Go Go.Fw Go.Proofs
set_option maxRecDepth 100000
set_option linter.unusedVariables false

theorem Row.blk_ltV {w : World} {p : Option Addr} {vs : List Value} (h : Row w p vs) (h0 : 0 < vs.length) : ∀ k ∈ blks p, k < w.heap.size := by
  rcases h with h | ⟨b, o, rfl, h⟩
  · subst h; simp at h0
  · simp only [blks, List.mem_singleton]
    rintro k rfl
    exact World.block_lt_of_cell? w _ (h 0 _ (List.getElem?_eq_getElem h0))
theorem passL_short {key ls rs : List UInt8} {n pass : Int} (h : okP (ls, rs) n pass) : (passL key n.toNat pass.toNat (ls, rs)).1.length ≤ 14 ∧ (passL key n.toNat pass.toNat (ls, rs)).2.length ≤ 14 := by
  have k : ls.length = rs.length ∧ ls.length ≤ 14 := by
    unfold okP okO okB at h
    split at h
    · obtain ⟨⟨hf, _⟩, he⟩ := h
      obtain ⟨a, b, c⟩ := fit1.1 hf
      have e : rs.length = hsz n.toNat := c
      have e2 : ls.length = rs.length := he
      have := hsz_le (n := n.toNat) (by omega)
      omega
    · obtain ⟨⟨hf, _⟩, he⟩ := h
      obtain ⟨a, b, c⟩ := fit1.1 hf
      have e : ls.length = hsz n.toNat := c
      have e2 : rs.length = ls.length := he
      have := hsz_le (n := n.toNat) (by omega)
      omega
  unfold passL
  split
  · show (ontoL key rs ls _ _ _).length ≤ 14 ∧ rs.length ≤ 14
    rw [ontoL_len _ _ _ _ _ _ (by omega)]; omega
  · show ls.length ≤ 14 ∧ (ontoL key ls rs _ _ _).length ≤ 14
    rw [ontoL_len _ _ _ _ _ _ (by omega)]; omega
theorem outs.short {key ls rs : List UInt8} {n pass : Int} {e : Int} {a b : List UInt8} (h : outs (okP (ls, rs) n pass) (passL key n.toNat pass.toNat (ls, rs)) e a b) : a.length ≤ 14 ∧ b.length ≤ 14 := by
  rcases h with ⟨k, _, hh⟩ | ⟨_, _, hh⟩
  · have := passL_short (key := key) k
    rw [← hh] at this; exact this
  · injection hh with h1 h2; rw [h1, h2]; simp
set_option maxHeartbeats 2000000 in
theorem FeistPasses_c {w : World} {p0 p1 p2 p5 p6 : Option Addr} {l0 c0 l1 c1 l2 c2 l5 c5 l6 c6 : Nat} {key ls rs text : List UInt8} {order : List Int} (h0 : Row w p0 (key.map vb)) (hl0 : l0 = key.length) (hc0 : l0 ≤ c0) (h1 : Row w p1 (ls.map vb)) (hl1 : l1 = ls.length) (hc1 : l1 ≤ c1)
    (h2 : Row w p2 (rs.map vb)) (hl2 : l2 = rs.length) (hc2 : l2 ≤ c2) (n3 n4 : Int) (h5 : Row w p5 (text.map vb)) (hl5 : l5 = text.length) (hc5 : l5 ≤ c5) (h6 : Row w p6 (order.map vi)) (hl6 : l6 = order.length)
    {K : Value → World → Prop} (h : ∀ w', Fr [] w w' → K (.bool true) w') : callF Try.prog F_law15_FeistPasses #[.slice p0 l0 c0, .slice p1 l1 c1, .slice p2 l2 c2, .int .i64 n3, .int .i64 n4, .slice p5 l5 c5, .slice p6 l6 c6] w K := by
  apply law15_FeistPasses_call
  unfold law15_FeistPasses
  refine alive15_c fun w1 f1 => ⟨_, rfl, cond_f ?_⟩
  refine cond_ne (fun _ => h w1 f1) fun hk => cond_d (fun _ => h w1 f1) fun g5 => cond_d (fun _ => h w1 f1) fun g1 => cond_d (fun _ => h w1 f1) fun g2 => cond_d (fun _ => h w1 f1) fun g6 => ?_
  unfold law15_FeistPasses_j1
  have hk16 : key.length = 16 := by omega
  refine newCip_c (h0.fr0 f1) hl0 hk16 (by omega) fun c w2 f2 hC => ⟨_, _, rfl, ?_⟩
  refine ⟨_, _, ptrNil (by kernel_rfl), cond_f ?_⟩
  have n1 := f1.size; have n2 := f2.size
  have hcl := hC.lt
  have f02 := f1.then f2
  refine CopyBytes_c (h1.fr0 f02) hl1 (by omega) fun pg cg w3 f3 hG hpg => ⟨_, _, _, rfl, ?_⟩
  have f03 := f02.then f3
  have n3' := f3.size
  have hg : OB w3 pg l1 cg ls w2.heap.size := ⟨hG, hl1, hpg⟩
  refine PassAny_c (hC.fr0 f3) (by omega) (by omega) (by omega) hg.row hl1 (by omega) (h2.fr0 f03) hl2 (by omega) n3 n4 fun pa ea pb eb e1 a1 b1 d1 w4 f4 hC4 k1 k2 ha hb r1 => ⟨_, _, _, _, _, _, _, rfl, ?_⟩
  have f04 := f03.at f4 (by omega)
  have n4' := f4.size
  have hg4 := hg.fr_sep f4 (by omega)
  refine refPassAny_c (h0.fr0 f04) hl0 hk16 hc0 (h1.fr0 f04) hl1 (by omega) (h2.fr0 f04) hl2 (by omega) n3 n4 fun px ex py ey e2 a2 b2 w5 f5 hx hy r2 => ⟨_, _, _, _, _, _, _, rfl, ?_⟩
  have f05 := f04.then f5
  have n5' := f5.size
  have hc6 : 0 < order.length → c ∉ blks p6 := fun h0' hc => by have := Row.blk_ltV h6 (by simpa using h0') c hc; omega
  refine PassesAny_c (hC4.fr0 f5) (by omega) (by omega) (by omega) (h5.fr0 f05) hl5 hc5 (by omega) (h6.fr0 f05) hl6 (by omega) hc6 fun pc ec e3 o3 d3 w6 f6 hC6 k3 k4 hc r3 => ⟨_, _, _, _, rfl, ?_⟩
  have f06 := f05.at f6 (by omega)
  have n6' := f6.size
  refine refPassesAny_c (h0.fr0 f06) hl0 hk16 hc0 (h5.fr0 f06) hl5 (by omega) (h6.fr0 f06) hl6 (by omega) fun pd ed e4 o4 w7 f7 hd r4 => ⟨_, _, _, _, rfl, ?_⟩
  have f07 := f06.then f7
  have q1 := r1.eq r2
  have q2 := r3.eq r4
  have s1 := r1.short
  have s3 := r3.short (n := 28) (fun hh => passes_short hl5 ⟨hh.1, hh.2.1⟩)
  have ha7 := ((ha.fr0 f5).fr f6 (by omega)).fr0 f7
  have hb7 := ((hb.fr0 f5).fr f6 (by omega)).fr0 f7
  have hx7 := (hx.fr f6 (by omega)).fr0 f7
  have hy7 := (hy.fr f6 (by omega)).fr0 f7
  have hg7 := ((hg4.fr0 f5).fr_sep f6 (by omega)).fr0 f7
  refine cond_eq (fun _ => ?_) fun hne => absurd q1.1 hne
  refine SameBytes_c ha7.1 rfl hx7.1 rfl (by omega) fun w8 f8 => ⟨_, rfl, ?_⟩
  rw [decide_same q1.2.1]
  refine cond_t (SameBytes_c (hb7.fr0 f8).1 rfl (hy7.fr0 f8).1 rfl (by omega) fun w9 f9 => ⟨_, rfl, ?_⟩)
  rw [decide_same q1.2.2]
  have f79 := f8.then f9
  refine cond_t (SameBytes_c (hg7.row.fr0 f79) hl1 (h1.fr0 (f07.then f79)) hl1 (by omega) fun w10 f10 => ⟨_, rfl, ?_⟩)
  rw [decide_same rfl]
  have f710 := f79.then f10
  refine cond_t (cond_eq (fun _ => ?_) fun hne => absurd q2.1 hne)
  refine SameBytes_c (hc.row.fr0 (f7.then f710)) rfl (hd.row.fr0 f710) rfl (by omega) fun w11 f11 => ⟨_, rfl, ?_⟩
  rw [decide_same q2.2]
  exact h w11 ((f07.then f710).then f11)
end Go.Sh
end

section
namespace Go.Sh
open Go Go.Fw Go.Proofs
set_option maxRecDepth 100000
set_option linter.unusedVariables false

theorem cells_vi (xs : List Int) : ∀ u ∈ xs.map vi, u.oneCell' = true := by
  intro u hu
  obtain ⟨x, _, rfl⟩ := List.mem_map.1 hu
  rfl
/-- A slice of ints of its own. -/
def OI (w : World) (p : Option Addr) (l c : Nat) (xs : List Int) (lo : Nat) : Prop := OwnS w p l c (xs.map vi) ∧ l = xs.length ∧ ∀ k ∈ blks p, lo ≤ k
theorem OI.row {w : World} {p : Option Addr} {l c : Nat} {xs : List Int} {lo : Nat} (h : OI w p l c xs lo) : Row w p (xs.map vi) := h.1.row
theorem OI.fr {w w' : World} {p : Option Addr} {l c : Nat} {xs : List Int} {lo : Nat} {L : List Nat} (h : OI w p l c xs lo) (hf : Fr L w w') (hl : ∀ k ∈ blks p, k ∉ L) : OI w' p l c xs lo := ⟨h.1.fr hf hl, h.2⟩
theorem OI.fr0 {w w' : World} {p : Option Addr} {l c : Nat} {xs : List Int} {lo : Nat} (h : OI w p l c xs lo) (hf : Fr [] w w') : OI w' p l c xs lo := h.fr hf (by simp)
theorem OI.fr_sep {w w' : World} {p : Option Addr} {l c : Nat} {xs : List Int} {lo b : Nat} (h : OI w p l c xs lo) (hf : Fr [b] w w') (hl : b < lo) : OI w' p l c xs lo :=
  h.fr hf fun k hk => by have := h.2.2 k hk; simp; omega
theorem OI.mono {w : World} {p : Option Addr} {l c : Nat} {xs : List Int} {lo lo' : Nat} (h : OI w p l c xs lo) (h1 : lo' ≤ lo) : OI w p l c xs lo' := ⟨h.1, h.2.1, fun k hk => Nat.le_trans h1 (h.2.2 k hk)⟩
theorem OI.news {a w w' : World} {p : Option Addr} {l c : Nat} {xs : List Int} {lo : Nat} (h : OI w p l c xs lo) (h1 : Fr [] a w) (h2 : Fr (blks p) w w') (h3 : a.heap.size ≤ lo) : Fr [] a w' := h1.trans h2 fun z hz => .inr (Nat.le_trans h3 (h.2.2 z hz))
theorem mkI0 {w : World} {K : Option Addr → Nat → Nat → World → Prop} (h : ∀ p w', Fr [] w w' → OI w' p 0 0 [] w.heap.size → w'.heap.size = w.heap.size + 1 → K p 0 0 w') : ∃ p l c w', Ef Try.prog (Instr.buildSlice 91 0 #[]) w (.slice p l c) w' ∧ K p l c w' :=
  ⟨_, _, _, Ef.new (cs := #[]) (v := .slice (some ⟨w.heap.size, 0, none⟩) 0 0) (e := 3) (by kernel_rfl) fun w' f hB s => h _ w' f ⟨⟨rfl, .inr ⟨_, _, _, _, rfl, hB, by simp, by simp, by simp⟩⟩, rfl, by simp [blks]⟩ s⟩
theorem pushI2 {w : World} {p : Option Addr} {l c : Nat} {xs : List Int} {lo : Nat} {x : Int} (h : OI w p l c xs lo) (hlo : lo ≤ w.heap.size) (hlen : l < 1073741824) {K : Option Addr → Nat → Nat → World → Prop}
    (hk : ∀ p' c' w', Fr (blks p) w w' → OI w' p' (l + 1) c' (xs ++ [x]) lo → (∀ z ∈ blks p', z ∈ blks p ∨ w.heap.size ≤ z) → K p' (l + 1) c' w') :
    ∃ q m d w1, Ef Try.prog (Instr.buildSlice 91 1 #[(0, .int .i64 x)]) w (.slice q m d) w1 ∧ ∃ p' l' c' w2, Ef Try.prog (Builtin.append_ #[91, 91] 91 #[.slice p l c, .slice q m d]) w1 (.slice p' l' c') w2 ∧ K p' l' c' w2 := by
  refine ⟨_, _, _, Ef.new (v := .slice (some ⟨w.heap.size, 0, none⟩) 1 1) (cs := ([vi x] : List Value).toArray) (e := 3) (by kernel_rfl) fun w1 f1 hB1 s1 => ?_⟩
  obtain ⟨hO, hl, hp⟩ := h.fr0 f1
  obtain ⟨p', c', w', he, hO', hf, hcase⟩ := Ef.append (P := Try.prog) (t := 91) (ty := 91) (by kernel_rfl) hO (m := 1) (d := 1) hB1.rowL rfl (by simp; rfl) (by omega)
  refine ⟨_, _, _, _, he, hk p' c' w' (f1.after hf) ⟨by simpa using hO', by simp [hl], fun z hz => ?_⟩ fun z hz => ?_⟩
  · rcases hcase with ⟨rfl, _, _⟩ | ⟨rfl, _, h3⟩
    · exact hp z hz
    · simp only [blks, List.mem_singleton] at hz; omega
  · rcases hcase with ⟨rfl, _, _⟩ | ⟨rfl, _, h3⟩
    · exact .inl hz
    · simp only [blks, List.mem_singleton] at hz; right; omega
theorem pushI {w : World} {p : Option Addr} {l c : Nat} {xs : List Int} {lo : Nat} {x : Int} (h : OI w p l c xs lo) (hlo : lo ≤ w.heap.size) (hlen : l < 1073741824) {K : Option Addr → Nat → Nat → World → Prop}
    (hk : ∀ p' c' w', Fr (blks p) w w' → OI w' p' (l + 1) c' (xs ++ [x]) lo → K p' (l + 1) c' w') :
    ∃ q m d w1, Ef Try.prog (Instr.buildSlice 91 1 #[(0, .int .i64 x)]) w (.slice q m d) w1 ∧ ∃ p' l' c' w2, Ef Try.prog (Builtin.append_ #[91, 91] 91 #[.slice p l c, .slice q m d]) w1 (.slice p' l' c') w2 ∧ K p' l' c' w2 := pushI2 h hlo hlen fun p' c' w' f hO _ => hk p' c' w' f hO
theorem row_getI {w : World} {p : Option Addr} {xs : List Int} (h : Row w p (xs.map vi)) {l c i : Nat} (hl : l = xs.length) (hi : i < l) {k : IntKind} : ∃ a, IxA Try.prog 91 (.slice p l c) (.int k (i : Int)) a ∧ w.cell? a = some (vi (xs.getD i 0)) := by
  refine ixR (P := Try.prog) (t := 91) (by kernel_rfl) h (cap := c) (k := k) (i := (i : Int)) (len := l) (by simpa using hl) (by omega) (by omega) (v := vi (xs.getD i 0)) ?_
  rw [Int.toNat_natCast, List.getElem?_map, List.getElem?_eq_getElem (by omega), List.getD_eq_getElem?_getD, List.getElem?_eq_getElem (by omega)]; rfl
end Go.Sh
end

section
namespace Go.Sh
open Go Go.Fw Go.Proofs
set_option maxRecDepth 100000
set_option linter.unusedVariables false

theorem passesL_up {key xs : List UInt8} {l : Nat} (hl : l = xs.length) (h : okT l) : passesL key (passesL key xs [4, 3, 2, 1]) [1, 2, 3, 4] = xs := passesL_rev key xs [4, 3, 2, 1] (by have := h.1; omega) (by have := h.2; omega)
theorem passesL_dn {key xs : List UInt8} {l : Nat} (hl : l = xs.length) (h : okT l) : passesL key (passesL key xs [1, 2, 3, 4]) [4, 3, 2, 1] = xs := passesL_rev key xs [1, 2, 3, 4] (by have := h.1; omega) (by have := h.2; omega)
set_option maxHeartbeats 2000000 in
theorem FeistBack_c {w : World} {p0 p1 p2 p3 : Option Addr} {l0 c0 l1 c1 l2 c2 l3 c3 : Nat} {key text other : List UInt8} {order : List Int} (h0 : Row w p0 (key.map vb)) (hl0 : l0 = key.length) (hc0 : l0 ≤ c0) (h1 : Row w p1 (text.map vb)) (hl1 : l1 = text.length) (hc1 : l1 ≤ c1)
    (h2 : Row w p2 (other.map vb)) (hl2 : l2 = other.length) (hc2 : l2 ≤ c2) (h3 : Row w p3 (order.map vi)) (hl3 : l3 = order.length)
    {K : Value → World → Prop} (h : ∀ w', Fr [] w w' → K (.bool true) w') : callF Try.prog F_law15_FeistBack #[.slice p0 l0 c0, .slice p1 l1 c1, .slice p2 l2 c2, .slice p3 l3 c3] w K := by
  apply law15_FeistBack_call
  unfold law15_FeistBack
  refine alive15_c fun w1 f1 => ⟨_, rfl, cond_f ?_⟩
  refine cond_ne (fun _ => h w1 f1) fun hk => cond_d (fun _ => h w1 f1) fun g1 => cond_d (fun _ => h w1 f1) fun g2 => cond_ne (fun _ => h w1 f1) fun g3 => cond_d (fun _ => h w1 f1) fun g4 => ?_
  unfold law15_FeistBack_j4
  have hk16 : key.length = 16 := by omega
  have hokT : okT l1 := ⟨by omega, by omega⟩
  have hokT2 : okT l2 := ⟨by omega, by omega⟩
  refine newCip_c (h0.fr0 f1) hl0 hk16 (by omega) fun c w2 f2 hC => ⟨_, _, rfl, ?_⟩
  refine ⟨_, _, ptrNil (by kernel_rfl), cond_f ?_⟩
  have n1 := f1.size; have n2 := f2.size
  have hcl := hC.lt
  have f02 := f1.then f2
  refine Mix_c hC (by omega) (by omega) (by omega) (h1.fr0 f02) hl1 hc1 (by omega) (fun hb => absurd hokT hb) fun _ pa ca w3 f3 hC3 ha => ⟨_, _, _, _, rfl, ?_⟩
  have f03 := f02.at f3 (by omega)
  have n3 := f3.size
  refine Unmix_c hC3 (by omega) (by omega) (by omega) ha.row ha.2.1 ha.cap (by omega) (fun hb => absurd hokT hb) fun _ pb cb w4 f4 hC4 hb => ⟨_, _, _, _, rfl, ?_⟩
  have f04 := f03.at f4 (by omega)
  have n4 := f4.size
  refine Unmix_c hC4 (by omega) (by omega) (by omega) (h1.fr0 f04) hl1 hc1 (by omega) (fun hb => absurd hokT hb) fun _ pd cd w5 f5 hC5 hd => ⟨_, _, _, _, rfl, ?_⟩
  have f05 := f04.at f5 (by omega)
  have n5 := f5.size
  refine Mix_c hC5 (by omega) (by omega) (by omega) hd.row hd.2.1 hd.cap (by omega) (fun hb => absurd hokT hb) fun _ pe ce w6 f6 hC6 he => ⟨_, _, _, _, rfl, ?_⟩
  have f06 := f05.at f6 (by omega)
  have n6 := f6.size
  refine Mix_c hC6 (by omega) (by omega) (by omega) (h2.fr0 f06) hl2 hc2 (by omega) (fun hb => absurd hokT2 hb) fun _ po co w7 f7 hC7 ho => ⟨_, _, _, _, rfl, ?_⟩
  have f07 := f06.at f7 (by omega)
  have n7 := f7.size
  rw [passesL_dn hl1 hokT] at hb
  rw [passesL_up hl1 hokT] at he
  have ha7 := (((ha.fr_sep f4 (by omega)).fr_sep f5 (by omega)).fr_sep f6 (by omega)).fr_sep f7 (by omega)
  have hb7 := ((hb.fr_sep f5 (by omega)).fr_sep f6 (by omega)).fr_sep f7 (by omega)
  have he7 := he.fr_sep f7 (by omega)
  refine cond_f (cond_f (cond_f (cond_f (cond_f ?_))))
  refine SameBytes_c hb7.row hl1 (h1.fr0 f07) hl1 (by omega) fun w8 f8 => ⟨_, rfl, ?_⟩
  rw [decide_same rfl]
  refine cond_f (SameBytes_c (he7.row.fr0 f8) hl1 (h1.fr0 (f07.then f8)) hl1 (by omega) fun w9 f9 => ⟨_, rfl, ?_⟩)
  rw [decide_same rfl]
  have f79 := f8.then f9
  refine cond_f (SameBytes_c (ho.row.fr0 f79) ho.2.1 (ha7.row.fr0 f79) ha.2.1 (by omega) fun w10 f10 => ⟨_, rfl, ?_⟩)
  have f710 := f79.then f10
  refine SameBytes_c (h2.fr0 (f07.then f710)) hl2 (h1.fr0 (f07.then f710)) hl1 (by omega) fun w11 f11 => ⟨_, rfl, ?_⟩
  have e : (decide (passesL key other [1, 2, 3, 4] = passesL key text [1, 2, 3, 4]) == decide (other = text)) = true := by
    rw [beq_iff_eq, decide_eq_decide]
    refine ⟨fun hh => ?_, fun hh => by rw [hh]⟩
    rw [← passesL_dn (key := key) hl2 hokT2, hh, passesL_dn hl1 hokT]
  rw [e]
  refine cond_f ?_
  have f711 := f710.then f11
  have f0 := f07.then f711
  have n11 := f711.size
  have hCb := hC7.fr0 f711
  unfold law15_FeistBack_j3
  refine mkI0 fun pi w12 f12 hI s12 => ?_
  have n12 := f12.size
  rw [wrap64 (by omega) (by omega)]
  refine LoopS.ind (fun k us w' => ∃ (q : Option Addr) (e : Nat), k ≤ l3 ∧ us = [.slice p1 l1 c1, .slice p3 l3 c3, .bool false, .pointer (some ⟨c, 0, none⟩), .slice q (l3 - k) e, .int .i64 ((k : Int) - 1)] ∧ Fr [] w11 w' ∧ OI w' q (l3 - k) e ((order.drop k).reverse) w11.heap.size ∧ (∀ p ∈ order.drop k, 0 ≤ p ∧ p ≤ 255)) l3
    ⟨pi, 0, Nat.le_refl _, by rw [Nat.sub_self], f12, by rw [Nat.sub_self, List.drop_of_length_le (by omega)]; exact hI, by rw [List.drop_of_length_le (by omega)]; simp⟩ ?_
  rintro k us rr w13 I μ hgo ⟨q, ec, hkl, rfl, f13, hO, hall⟩
  refine ⟨_, _, _, _, _, _, _, _, _, _, _, _, rfl, cond_d (fun hp => ?_) (fun hp => ?_)⟩
  · obtain ⟨j, rfl⟩ : ∃ j, k = j + 1 := ⟨k - 1, by omega⟩
    have ej : (((j + 1 : Nat) : Int) - 1) = (j : Int) := by omega
    rw [ej]
    obtain ⟨a, hix, hca⟩ := row_getI ((h3.fr0 f0).fr0 f13) (c := c3) hl3 (i := j) (by omega) (k := .i64)
    refine ⟨a, hix, _, Ld.cell (by kernel_rfl) hca, cond_d (fun _ => h w13 (f0.then f13)) fun hx0 => ⟨a, hix, _, Ld.cell (by kernel_rfl) hca, cond_d (fun _ => h w13 (f0.then f13)) fun hx1 => ?_⟩⟩
    unfold law15_FeistBack_j1
    refine ⟨a, hix, _, Ld.cell (by kernel_rfl) hca, ?_⟩
    refine pushI hO f13.size (by omega) fun p' c' w14 f14 hO14 => ?_
    rw [wrap64 (by omega) (by omega)]
    have ed : order.drop j = order.getD j 0 :: order.drop (j + 1) := by
      rw [List.drop_eq_getElem_cons (by omega), List.getD_eq_getElem?_getD, List.getElem?_eq_getElem (by omega)]; rfl
    have el : l3 - (j + 1) + 1 = l3 - j := by omega
    rw [el] at hO14 ⊢
    have hgo' := fun hx => hgo [] [.slice p1 l1 c1, .slice p3 l3 c3, .bool false, .pointer (some ⟨c, 0, none⟩), .slice p' (l3 - j) c', .int .i64 ((j : Int) - 1)] w14 j (by omega) hx
    rw [ej] at hgo'
    refine hgo' ⟨p', c', by omega, rfl, hO.news f13 f14 (Nat.le_refl _), ?_, ?_⟩
    · rw [ed, List.reverse_cons]; exact hO14
    · rw [ed]
      intro p hp'
      rcases List.mem_cons.1 hp' with rfl | hp'
      · omega
      · exact hall p hp'
  · have hk0 : k = 0 := by omega
    subst hk0
    rw [List.drop_zero] at hO hall
    unfold law15_FeistBack_j2
    have hl3' : l3 - 0 = l3 := rfl
    rw [hl3'] at hO ⊢
    have f013 := f0.then f13
    have n13 := f13.size
    have hc3 : 0 < order.length → c ∉ blks p3 := fun h0' hc => by have := Row.blk_ltV h3 (by simpa using h0') c hc; omega
    refine Passes_c (hCb.fr0 f13) (by omega) (by omega) (by omega) (h1.fr0 f013) hl1 hc1 (by omega) (h3.fr0 f013) hl3 (by omega) hc3 (fun hb => absurd ⟨by omega, by omega, hall⟩ hb) fun _ px ex w14 f14 hC14 hx => ⟨_, _, _, _, rfl, ?_⟩
    have f014 := f013.at f14 (by omega)
    have n14 := f14.size
    have hO14 := hO.fr_sep f14 (by omega)
    have hc4 : 0 < order.reverse.length → c ∉ blks q := fun _ hc => by have := hO.2.2 c hc; omega
    refine Passes_c hC14 (by omega) (by omega) (by omega) hx.row hx.2.1 hx.cap (by omega) hO14.row hO14.2.1 (by omega) hc4 (fun hb => absurd ⟨by omega, by omega, fun p hp => hall p (List.mem_reverse.1 hp)⟩ hb) fun _ py ey w15 f15 hC15 hy => ⟨_, _, _, _, rfl, cond_t (cond_t ?_)⟩
    rw [List.map_reverse, passesL_rev _ _ _ (by omega) (by omega)] at hy
    have f015 := f014.at f15 (by omega)
    refine SameBytes_c hy.row hl1 (h1.fr0 f015) hl1 (by omega) fun w16 f16 => ⟨_, rfl, ?_⟩
    rw [decide_same rfl]
    exact h w16 (f015.then f16)
end Go.Sh
end

section
namespace Go.Sh
open Go Go.Fw Go.Proofs
set_option maxRecDepth 100000
set_option linter.unusedVariables false

def ints (xs : List UInt8) : List Int := xs.map fun x => (x.toNat : Int)
theorem ints_len (xs : List UInt8) : (ints xs).length = xs.length := by simp [ints]
theorem ints_ok (xs : List UInt8) : ∀ p ∈ ints xs, 0 ≤ p ∧ p ≤ 255 := by
  intro p hp
  obtain ⟨x, _, rfl⟩ := List.mem_map.1 hp
  have := x.toNat_lt
  omega
theorem passesL_two {key text : List UInt8} {x : Nat} (h2 : 2 ≤ text.length) (h28 : text.length ≤ 28) : passesL key text [x, x] = text := passesL_rev key text [x] h2 h28 |> fun _ => by
  unfold passesL
  have e : runL key text.length [x, x] (cutL text) = cutL text := passL_twice h28 (cutL_good text)
  rw [e]
  exact join_cut text h2
theorem passL_keep {key : List UInt8} {n p : Nat} {s : List UInt8 × List UInt8} : (p % 2 = 1 → (passL key n p s).1 = s.1) ∧ (p % 2 = 0 → (passL key n p s).2 = s.2) := by
  unfold passL
  constructor
  · intro h; rw [if_neg (by omega)]
  · intro h; rw [if_pos h]
set_option maxHeartbeats 4000000 in
theorem FeistSteps_c {w : World} {p0 p1 p2 : Option Addr} {l0 c0 l1 c1 l2 c2 : Nat} {key text passes : List UInt8} (x3 : UInt8) (h0 : Row w p0 (key.map vb)) (hl0 : l0 = key.length) (hc0 : l0 ≤ c0) (h1 : Row w p1 (text.map vb)) (hl1 : l1 = text.length) (hc1 : l1 ≤ c1)
    (h2 : Row w p2 (passes.map vb)) (hl2 : l2 = passes.length) (hc2 : l2 ≤ c2)
    {K : Value → World → Prop} (h : ∀ w', Fr [] w w' → K (.bool true) w') : callF Try.prog F_law15_FeistSteps #[.slice p0 l0 c0, .slice p1 l1 c1, .slice p2 l2 c2, .int .u8 (x3.toNat : Int)] w K := by
  apply law15_FeistSteps_call
  unfold law15_FeistSteps
  refine alive15_c fun w1 f1 => ⟨_, rfl, cond_f ?_⟩
  refine cond_ne (fun _ => h w1 f1) fun hk => cond_d (fun _ => h w1 f1) fun g1 => cond_d (fun _ => h w1 f1) fun g2 => cond_d (fun _ => h w1 f1) fun g4 => ?_
  unfold law15_FeistSteps_j3
  have hk16 : key.length = 16 := by omega
  refine newCip_c (h0.fr0 f1) hl0 hk16 (by omega) fun c w2 f2 hC => ⟨_, _, rfl, ?_⟩
  refine ⟨_, _, ptrNil (by kernel_rfl), cond_f ?_⟩
  have n1 := f1.size; have n2 := f2.size
  have hcl := hC.lt
  have f02 := f1.then f2
  have h28 : text.length ≤ 28 := by omega
  have h22 : 2 ≤ text.length := by omega
  refine Cut_c (h1.fr0 f02) hl1 hc1 (by omega) (fun hb => absurd ⟨by omega, by omega⟩ hb) fun hl qa da qb db w2' w3 f2' f3' hA hB hlt => ⟨_, _, _, _, _, _, _, rfl, ?_⟩
  have f3 := f2'.then f3'
  have n2' := f2'.size
  have n3 := f3.size
  have f03 := f02.then f3
  refine mkI0 fun pi w4 f4 hI s4 => ?_
  have f04 := f03.then f4
  have n4 := f4.size
  have hg := cutL_good text
  rw [← hl1] at hg
  refine LoopS.ind (fun k us w' => ∃ (i : Nat) (q1 : Option Addr) (d1 : Nat) (q2 : Option Addr) (d2 : Nat) (pi : Option Addr) (ci : Nat), i + k = l2 ∧
      us = [.slice p1 l1 c1, .slice p2 l2 c2, .int .u8 (x3.toNat : Int), .bool false, .pointer (some ⟨c, 0, none⟩), .slice q1 (hsz l1) d1, .slice q2 (hsz l1) d2, .int .i64 0, .slice pi i ci, .int .i64 (i : Int)] ∧
      Fr [c] w2 w' ∧ Cip w' c key (i : Int) w1.heap.size w2.heap.size ∧ OR w' q1 (hsz l1) d1 (runL key l1 ((ints (passes.take i)).map Int.toNat) (cutL text)).1 w2.heap.size ∧ OR w' q2 (hsz l1) d2 (runL key l1 ((ints (passes.take i)).map Int.toNat) (cutL text)).2 w2.heap.size ∧ OI w' pi i ci (ints (passes.take i)) w2.heap.size ∧ (∀ z ∈ blks pi, z ∉ blks q1 ∧ z ∉ blks q2)) l2
    ⟨0, qa, da, qb, db, pi, 0, by omega, rfl, (f3.then f4).mono (by simp), (hC.fr0 f3).fr0 f4, ?_, ?_, hI.mono n3, fun z hz => ⟨fun hz' => by have := hI.2.2 z hz; have := hA.lt z hz'; omega, fun hz' => by have := hI.2.2 z hz; have := hB.lt z hz'; omega⟩⟩ ?_
  · exact ⟨(hA.row.fr0 f4), by rw [hg.1.1.symm]; rfl, hA.cap, fun z hz => by have := hA.2.2 z hz; omega⟩
  · exact ⟨(hB.row.fr0 f4), by rw [hg.2.1.symm]; rfl, hB.cap, fun z hz => by have := hB.2.2 z hz; omega⟩
  rintro k us rr w5 I μ hgo ⟨i, q1, d1, q2, d2, pj, cj, hik, rfl, f5, hC5, hR1, hR2, hJ, hsep⟩
  have n5 := f5.size
  have f05 := f02.at f5 (by omega)
  have hgi : goodP l1 (runL key l1 ((ints (passes.take i)).map Int.toNat) (cutL text)) := runL_good (by omega) _ hg
  have hsl := hsz_le (n := l1) (by omega)
  refine ⟨_, _, _, _, _, _, _, _, _, _, _, _, _, _, _, _, _, _, _, _, rfl, cond_d (fun hlt' => ?_) (fun hge => ?_)⟩
  · have hil : i < l2 := by omega
    obtain ⟨a, hix, hca⟩ := row_get (t := 50) (by kernel_rfl) (h2.fr0 f05) (c := c2) hl2 hil (k := .i64)
    refine ⟨a, hix, _, Ld.cell (by kernel_rfl) hca, ?_⟩
    have hx := (passes.getD i 0).toNat_lt
    obtain ⟨x, ex⟩ : ∃ x, x = passes.getD i 0 := ⟨_, rfl⟩
    rw [← ex] at hca hx ⊢
    rw [wrap64 (by omega) (by omega)]
    refine pushI2 hJ n5 (by omega) fun p' c' w6 f6 hJ6 hp6 => ?_
    have n6 := f6.size
    have hpj : ∀ z ∈ blks pj, w2.heap.size ≤ z := hJ.2.2
    have f06 : Fr [] w w6 := f05.trans f6 (fun z hz => .inr (by have := hpj z hz; omega))
    obtain ⟨a', hix', hca'⟩ := row_get (t := 50) (by kernel_rfl) (h2.fr0 f06) (c := c2) hl2 hil (k := .i64)
    rw [← ex] at hca'
    refine ⟨a', hix', _, Ld.cell (by kernel_rfl) hca', ?_⟩
    rw [wrap64 (by omega) (by omega)]
    have hC6 : Cip w6 c key (i : Int) w1.heap.size w2.heap.size := hC5.fr f6 (fun z hz => .inr (hpj z hz))
    have hR16 : Row w6 q1 _ := Row.cells_fr hR1.1 f6 (fun z hz hz' => (hsep z hz').1 hz)
    have hR26 : Row w6 q2 _ := Row.cells_fr hR2.1 f6 (fun z hz hz' => (hsep z hz').2 hz)
    refine Pass_c hC6 (by omega) (by omega) (by omega) hR16 hR1.2.1 (by omega) hR26 hR2.2.1 (by omega) (l1 : Int) (x.toNat : Int) (fun hb => absurd ((okP_good (by omega) (by omega) hgi _).2 ⟨by omega, by omega⟩) hb) fun _ r1 e1 r2 e2 w7 f7 hC7 => ?_
    rw [Int.toNat_natCast, Int.toNat_natCast]
    have eS : (ints (passes.take (i + 1))).map Int.toNat = (ints (passes.take i)).map Int.toNat ++ [x.toNat] := by
      rw [take_snoc passes (by omega)]
      simp only [ints, List.map_append, List.map_cons, List.map_nil, Int.toNat_natCast]
      rw [show fl passes i = x from ex.symm]
    have eI : ints (passes.take (i + 1)) = ints (passes.take i) ++ [(x.toNat : Int)] := by
      rw [take_snoc passes (by omega), show fl passes i = x from ex.symm]
      simp [ints]
    have hg7 : goodP l1 (passL key l1 x.toNat (runL key l1 ((ints (passes.take i)).map Int.toNat) (cutL text))) := passL_good (by omega) hgi
    intro t1 k1 t2 k2 b1 b2
    have t1' : OR w7 r1 _ e1 _ w6.heap.size := ⟨t1, rfl, k1, b1⟩
    have t2' : OR w7 r2 _ e2 _ w6.heap.size := ⟨t2, rfl, k2, b2⟩
    rw [← runL_snoc, ← eS] at t1' t2' ⊢
    rw [← runL_snoc, ← eS] at hg7
    have l1' : (runL key l1 ((ints (passes.take (i + 1))).map Int.toNat) (cutL text)).1.length = hsz l1 := hg7.1.1
    have l2' : (runL key l1 ((ints (passes.take (i + 1))).map Int.toNat) (cutL text)).2.length = hsz l1 := hg7.2.1
    rw [l1'] at t1' ⊢
    rw [l2'] at t2' ⊢
    refine ⟨_, _, _, _, _, _, _, rfl, cond_f ?_⟩
    rw [wrap64 (by omega) (by omega)]
    have f27 : Fr [c] w2 w7 := (f5.trans f6 (fun z hz => .inr (hpj z hz))).trans f7 (fun z hz => .inl hz)
    have hd : ((i + 1 : Nat) : Int) = (i : Int) + 1 := by omega
    refine hgo _ _ _ (k - 1) (by omega) ⟨i + 1, r1, e1, r2, e2, p', c', by omega, rfl, f27, by rw [hd]; exact hC7, ⟨t1'.1, t1'.2.1, t1'.2.2.1, fun z hz => by have := b1 z hz; have := f6.size; omega⟩, ⟨t2'.1, t2'.2.1, t2'.2.2.1, fun z hz => by have := b2 z hz; have := f6.size; omega⟩, ?_, fun z hz => ?_⟩
    · rw [eI]; exact hJ6.fr_sep f7 (by omega)
    · have z6 := hJ6.1.lt z hz
      exact ⟨fun hz' => by have := b1 z hz'; omega, fun hz' => by have := b2 z hz'; omega⟩
  · have hil : i = l2 := by omega
    subst hil
    rw [List.take_of_length_le (by omega)] at hR1 hR2 hJ hgi
    unfold law15_FeistSteps_j2
    have hfit : fitN (l1 : Int) [(runL key l1 ((ints passes).map Int.toNat) (cutL text)).1, (runL key l1 ((ints passes).map Int.toNat) (cutL text)).2] := fit2.2 ⟨by omega, by omega, by rw [Int.toNat_natCast]; exact hgi.1.1, by rw [Int.toNat_natCast]; exact hgi.2.1⟩
    refine halvesJoin_c hR1.1 hR1.2.1 hR1.2.2.1 (by omega) hR2.1 hR2.2.1 hR2.2.2.1 (by omega) (l1 : Int) (fun h => absurd hfit h) (fun _ h => absurd (by rw [Int.toNat_natCast]; exact okJ_good (by omega) hgi) h) fun _ _ po co w6 f6 hO6 => ⟨_, _, _, _, rfl, ?_⟩
    rw [Int.toNat_natCast] at hO6 ⊢
    have f06 := f05.then f6
    have n6 := f6.size
    have hcp : 0 < (ints passes).length → c ∉ blks pj := fun _ hc => by have := hJ.2.2 c hc; omega
    have hJ6 := hJ.fr0 f6
    refine Passes_c (hC5.fr0 f6) (by omega) (by omega) (by omega) (h1.fr0 f06) hl1 hc1 (by omega) hJ6.row hJ.2.1 (by omega) hcp (fun hb => absurd ⟨by omega, by omega, ints_ok passes⟩ hb) fun _ pq eq w7 f7 hC7 hq => ⟨_, _, _, _, rfl, ?_⟩
    have f07 := f06.at f7 (by omega)
    have n7 := f7.size
    have hx3 := x3.toNat_lt
    rw [wrap64 (by omega) (by omega)]
    refine ⟨_, _, _, Ef.new (v := .slice (some ⟨w7.heap.size, 0, none⟩) 2 2) (cs := (([(x3.toNat : Int), (x3.toNat : Int)] : List Int).map vi).toArray) (e := 3) (by kernel_rfl) fun w8 f8 hB8 s8 => ?_⟩
    have f08 := f07.then f8
    refine Passes_c (l2 := 2) (c2 := 2) (ps := [(x3.toNat : Int), (x3.toNat : Int)]) (hC7.fr0 f8) (by rw [ints_len]; omega) (by rw [ints_len]; omega) (by omega) (h1.fr0 f08) hl1 hc1 (by omega) hB8.rowL rfl (by omega) (fun _ hc => by simp [blks] at hc; omega) (fun hb => absurd ⟨by omega, by omega, fun p hp => by simp at hp; omega⟩ hb) fun _ pt et w9 f9 hC9 ht => ⟨_, _, _, _, rfl, ?_⟩
    have f09 := f08.at f9 (by omega)
    have n8 := f8.size; have n9 := f9.size
    have e2 : passesL key text ([(x3.toNat : Int), (x3.toNat : Int)].map Int.toNat) = text := passesL_two h22 h28
    rw [e2] at ht
    refine cond_f (cond_f (cond_f (cond_f ?_)))
    have hO9 := ((hO6.fr_sep f7 (by omega)).fr0 f8).fr_sep f9 (by omega)
    have hq9 := (hq.fr0 f8).fr_sep f9 (by omega)
    have hr1 := ((hR1.fr0 f6).fr f7 (by omega)).fr0 f8 |>.fr f9 (by omega)
    have hr2 := ((hR2.fr0 f6).fr f7 (by omega)).fr0 f8 |>.fr f9 (by omega)
    have ej : joinL (runL key l1 ((ints passes).map Int.toNat) (cutL text)).1 (runL key l1 ((ints passes).map Int.toNat) (cutL text)).2 l1 = passesL key text ((ints passes).map Int.toNat) := by unfold passesL; rw [hl1]
    rw [ej] at hO9
    refine SameBytes_c hO9.row hO9.2.1 hq9.row hq9.2.1 (by omega) fun w10 f10 => ⟨_, rfl, ?_⟩
    rw [decide_same rfl]
    refine cond_f (SameBytes_c (ht.row.fr0 f10) ht.2.1 (h1.fr0 (f09.then f10)) hl1 (by omega) fun w11 f11 => ⟨_, rfl, ?_⟩)
    rw [decide_same rfl]
    have f911 := f10.then f11
    refine cond_f ?_
    unfold law15_FeistSteps_j1
    rw [wrap64 (by omega) (by omega)]
    have n11 := f911.size
    have q1' := hr1.fr0 f911
    have q2' := hr2.fr0 f911
    refine Pass_c (hC9.fr0 f911) (by rw [ints_len]; omega) (by rw [ints_len]; simp; omega) (by omega) q1'.1 q1'.2.1 (by omega) q2'.1 q2'.2.1 (by omega) (l1 : Int) (x3.toNat : Int) (fun hb => absurd ((okP_good (by omega) (by omega) hgi _).2 ⟨by omega, by omega⟩) hb) fun _ r1 e1 r2 e2 w12 f12 hC12 => ?_
    rw [Int.toNat_natCast, Int.toNat_natCast]
    have hg12 : goodP l1 (passL key l1 x3.toNat (runL key l1 ((ints passes).map Int.toNat) (cutL text))) := passL_good (by omega) hgi
    have kp := passL_keep (key := key) (n := l1) (p := x3.toNat) (s := runL key l1 ((ints passes).map Int.toNat) (cutL text))
    intro t1 k1 t2 k2 b1 b2
    have n12 := f12.size
    have g1' := q1'.fr f12 (by omega)
    have g2' := q2'.fr f12 (by omega)
    have f012 := (f09.then f911).at f12 (by omega)
    have s1 := hg12.1.1; have s2 := hg12.2.1
    refine ⟨_, _, _, _, _, _, _, rfl, cond_t ?_⟩
    have em : Int.tmod (x3.toNat : Int) 2 = ((x3.toNat % 2 : Nat) : Int) := rfl
    rw [em]
    by_cases ho : x3.toNat % 2 = 1
    · refine cond_eq (fun _ => ?_) fun hne => absurd (by rw [ho]; rfl) hne
      refine SameBytes_c t1 rfl g1'.1 g1'.2.1 (Nat.lt_of_le_of_lt (Nat.le_of_eq s1) (by omega)) fun w13 f13 => ⟨_, rfl, ?_⟩
      rw [decide_same (kp.1 ho)]
      exact cond_t (h w13 (f012.then f13))
    · refine cond_eq (fun he => by omega) fun _ => ?_
      refine cond_eq (fun _ => ?_) fun hne => by omega
      refine SameBytes_c t2 rfl g2'.1 g2'.2.1 (Nat.lt_of_le_of_lt (Nat.le_of_eq s2) (by omega)) fun w13 f13 => ⟨_, rfl, ?_⟩
      rw [decide_same (kp.2 (by omega))]
      exact h w13 (f012.then f13)
end Go.Sh
end
