/- A part of a proof of a given law of this program: lemmas, printed forms of its functions, contracts. It has no conditions of its own. -/
import Derived.Test.YtcfealonnakdcaaGreatMC2
import Derived.Test.YtcfealonnakdcaaGreatMC1
import Derived.Test.YtcfealonnakdcaaGreatMS2
import Derived.Test.YtcfealonnakdcaaGreatMW1

section
namespace Go.Sh
open Go Go.Fw Go.Proofs
set_option maxRecDepth 100000
set_option linter.unusedVariables false
theorem OB.part {w : World} {p : Option Addr} {l c : Nat} {xs : List UInt8} {lo : Nat} (h : OB w p l c xs lo) {a b : Nat} (h1 : a ≤ b) (h2 : b ≤ l) : OB w (Go.Fw.partAt p c a 1) (b - a) (c - a) ((xs.take b).drop a) lo := by
  have := h.1.part h1 h2
  rw [← List.map_take, ← List.map_drop] at this
  have hl := h.2.1
  exact ⟨this, by simp; omega, fun k hk => h.2.2 k (partAt_blks k hk)⟩
end Go.Sh
end

section
namespace Go.Sh
open Go Go.Fw Go.Proofs
set_option maxRecDepth 100000
set_option linter.unusedVariables false
theorem rowKeep {w w' : World} {p : Option Addr} {xs : List UInt8} {L : List Nat} (h : Row w p (xs.map vb)) (hf : Fr L w w') (hn : 0 < xs.length → ∀ z ∈ blks p, z ∉ L) : Row w' p (xs.map vb) := by
  by_cases hx : xs.length = 0
  · have : xs = [] := List.length_eq_zero_iff.1 hx
    subst this; exact Row.nil _ _
  · exact Row.cells_fr h hf (hn (by omega))
def RdAt (w : World) (b : Nat) (err : Int) (rest : List UInt8) : Prop :=
  ∃ f p c, Blk w b 2 f ∧ f 0 = .int .i64 err ∧ f 1 = .slice p rest.length c ∧ rest.length ≤ c ∧ Row w p (rest.map vb) ∧ (0 < rest.length → ∀ z ∈ blks p, z < b)
theorem RdAt.lt {w : World} {b : Nat} {err : Int} {rest : List UInt8} (h : RdAt w b err rest) : b < w.heap.size := by obtain ⟨f, p, c, hB, _⟩ := h; exact hB.lt
theorem RdAt.fr {w w' : World} {b : Nat} {err : Int} {rest : List UInt8} {L : List Nat} (h : RdAt w b err rest) (hf : Fr L w w') (hL : ∀ z ∈ L, b < z) : RdAt w' b err rest := by
  obtain ⟨f, p, c, hB, h0, h1, hc, hR, hn⟩ := h
  exact ⟨f, p, c, hB.fr hf (fun hb => by have := hL b hb; omega), h0, h1, hc, rowKeep hR hf (fun h0 z hz hz' => by have := hL z hz'; have := hn h0 z hz; omega), hn⟩
theorem RdAt.fr0 {w w' : World} {b : Nat} {err : Int} {rest : List UInt8} (h : RdAt w b err rest) (hf : Fr [] w w') : RdAt w' b err rest := h.fr hf (by simp)
section
variable {w : World} {b : Nat} {err : Int} {rest : List UInt8}
end
end Go.Sh
end

section
namespace Go.Sh
open Go Go.Fw Go.Proofs
set_option maxRecDepth 100000
set_option linter.unusedVariables false
def FrA (b : Nat) (w w' : World) : Prop := ∃ L, (∀ z ∈ L, b ≤ z) ∧ Fr L w w'
theorem FrA.refl (b : Nat) (w : World) : FrA b w w := ⟨[], by simp, Fr.refl _ _⟩
theorem FrA.of {b : Nat} {w w' : World} {L : List Nat} (f : Fr L w w') (h : ∀ z ∈ L, b ≤ z) : FrA b w w' := ⟨L, h, f⟩
theorem FrA.trans {b : Nat} {w w1 w2 : World} (h : FrA b w w1) (k : FrA b w1 w2) : FrA b w w2 := by
  obtain ⟨L, h1, h2⟩ := h
  obtain ⟨M, k1, k2⟩ := k
  exact ⟨L ++ M, fun z hz => by rcases List.mem_append.1 hz with hz | hz; exact h1 z hz; exact k1 z hz, (h2.mono (fun z hz => List.mem_append_left _ hz)).trans k2 (fun z hz => .inl (List.mem_append_right _ hz))⟩
theorem FrA.size {b : Nat} {w w' : World} (h : FrA b w w') : w.heap.size ≤ w'.heap.size := by obtain ⟨L, _, h2⟩ := h; exact h2.size
theorem FrA.news {b : Nat} {w0 w w' : World} (h : FrA b w w') (f : Fr [] w0 w) (hb : w0.heap.size ≤ b) : Fr [] w0 w' := by
  obtain ⟨L, h1, h2⟩ := h
  exact f.trans h2 fun z hz => .inr (by have := h1 z hz; omega)
theorem FrA.mono {b b' : Nat} {w w' : World} (h : FrA b w w') (hb : b' ≤ b) : FrA b' w w' := by
  obtain ⟨L, h1, h2⟩ := h
  exact ⟨L, fun z hz => by have := h1 z hz; omega, h2⟩
theorem FrA.row {b : Nat} {w w' : World} {p : Option Addr} {xs : List UInt8} (h : FrA b w w') (hR : Row w p (xs.map vb)) (hp : 0 < xs.length → ∀ z ∈ blks p, z < b) : Row w' p (xs.map vb) := by
  obtain ⟨L, h1, h2⟩ := h
  exact rowKeep hR h2 fun h0 z hz hm => by have := h1 z hm; have := hp h0 z hz; omega
theorem FrA.blk {b k n : Nat} {w w' : World} {f : Nat → Value} (h : FrA b w w') (hB : Blk w k n f) (hk : k < b) : Blk w' k n f := by
  obtain ⟨L, h1, h2⟩ := h
  exact hB.fr h2 fun hm => by have := h1 k hm; omega
def WrAt (w : World) (b : Nat) (xs : List UInt8) : Prop :=
  ∃ f p c, Blk w b 2 f ∧ f 0 = .int .i64 0 ∧ f 1 = .slice p xs.length c ∧ OB w p xs.length c xs (b + 1)
section
variable {w : World} {b : Nat} {xs : List UInt8} {K : Value → World → Prop}
theorem WrAt.fr {w' : World} {L : List Nat} (h : WrAt w b xs) (hf : Fr L w w') (hL : ∀ z ∈ L, z < b) : WrAt w' b xs := by
  obtain ⟨f, p, c, hB, h0, h1, hO⟩ := h
  exact ⟨f, p, c, hB.fr hf (fun hb => by have := hL b hb; omega), h0, h1, hO.fr hf fun z hz hm => by have := hO.2.2 z hz; have := hL z hm; omega⟩
theorem WrAt.fr0 {w' : World} (h : WrAt w b xs) (hf : Fr [] w w') : WrAt w' b xs := h.fr hf (by simp)
end
section
variable {w : World} {b : Nat} {err : Int} {rest : List UInt8} {K : Value → World → Prop}
end
end Go.Sh
end

section
namespace Go.Sh
open Go Go.Fw Go.Proofs
set_option maxRecDepth 100000
set_option linter.unusedVariables false
def CAt (w : World) (k : Nat) (cs : List Value) : Prop := ∃ g, Blk w k cs.length g ∧ ∀ j v, cs[j]? = some v → g j = v
section
variable {w : World} {k : Nat} {cs : List Value} {t : TypeId}
theorem CAt.lt (h : CAt w k cs) : k < w.heap.size := by obtain ⟨g, hB, _⟩ := h; exact hB.lt
theorem CAt.fr {w' : World} {L : List Nat} (h : CAt w k cs) (hf : Fr L w w') (hk : k ∉ L) : CAt w' k cs := by obtain ⟨g, hB, hv⟩ := h; exact ⟨g, hB.fr hf hk, hv⟩
theorem CAt.fr0 {w' : World} (h : CAt w k cs) (hf : Fr [] w w') : CAt w' k cs := h.fr hf (by simp)
theorem CAt.ld (h : CAt w k cs) (ht : res Tryz.prog (isAgg t) = some true) (hs : res Tryz.prog (sizeOf t) = some cs.length) : Ld Tryz.prog t (.pointer (some ⟨k, 0, none⟩)) w (.agg ⟨cs⟩) := by
  obtain ⟨g, hB, hv⟩ := h
  exact LdA (m := cs.length) ht hs hB (o := 0) (by omega) cs rfl fun j v hj => by rw [Nat.zero_add]; exact hv j v hj
theorem CAt.ld0 {ds rs : List Value} (h : CAt w k cs) (he : cs = ds ++ rs) (ht : res Tryz.prog (isAgg t) = some true) (hs : res Tryz.prog (sizeOf t) = some ds.length) : Ld Tryz.prog t (.pointer (some ((⟨k, 0, none⟩ : Addr).add 0))) w (.agg ⟨ds⟩) := by
  obtain ⟨g, hB, hv⟩ := h
  rw [add_mk]
  refine LdA (m := ds.length) ht hs hB (o := 0) (by rw [he, List.length_append]; omega) ds rfl fun j v hj => ?_
  rw [Nat.zero_add]
  exact hv j v (by rw [he, List.getElem?_append_left (List.getElem?_eq_some_iff.1 hj).1]; exact hj)
theorem CAt.get (h : CAt w k cs) (ht : res Tryz.prog (isAgg t) = some false) {j : Nat} {v : Value} (hj : cs[j]? = some v) : Ld Tryz.prog t (.pointer (some ((⟨k, 0, none⟩ : Addr).add j))) w v := by
  obtain ⟨g, hB, hv⟩ := h
  rw [add_mk]
  exact Ld.blk ht hB (by have := (List.getElem?_eq_some_iff.1 hj).1; omega) (by rw [Nat.zero_add]; exact hv j v hj)
theorem CAt.get0 (h : CAt w k cs) (ht : res Tryz.prog (isAgg t) = some false) {j : Nat} {v : Value} (hj : cs[j]? = some v) : Ld Tryz.prog t (.pointer (some (((⟨k, 0, none⟩ : Addr).add 0).add j))) w v := by
  have : (⟨k, 0, none⟩ : Addr).add 0 = ⟨k, 0, none⟩ := rfl
  rw [this]; exact h.get ht hj
theorem newC {t : TypeId} {K : Nat → World → Prop} (cs : List Value) (h : ∀ w', Fr [] w w' → CAt w' w.heap.size cs → w'.heap.size = w.heap.size + 1 → K w.heap.size w') : New ⟨cs⟩ t w K :=
  New.intro fun w1 f1 hB s1 => h w1 f1 ⟨_, hB, fun j v hj => by
    show Array.getD ⟨cs⟩ j undef = v
    rw [Array.getD_eq_getD_getElem?, List.getElem?_toArray, hj]; rfl⟩ s1
theorem stoC {n : Nat} {g : Nat → Value} (hB : Blk w k n g) (cs : List Value) (hn : cs.length = n) (h1 : cs.all (·.oneCell') = true) (ht : res Tryz.prog (sizeOf t) = some n) {K : World → Prop} (h : ∀ w', Fr [k] w w' → CAt w' k cs → w'.heap.size = w.heap.size → K w') :
    ∃ w', Sto Tryz.prog t (.pointer (some ⟨k, 0, none⟩)) (.agg ⟨cs⟩) w w' ∧ K w' :=
  Sto.agg (m := n) (cs := cs) ht hn hB (by omega) (fun v hv => List.all_eq_true.1 h1 v hv) fun w' hf hB' hs => h w' hf ⟨_, by rw [hn]; exact hB', fun j v hj => by
    obtain ⟨q1, q2⟩ := List.getElem?_eq_some_iff.1 hj
    unfold updN
    rw [dif_pos ⟨by omega, by omega⟩]
    simpa using q2⟩ hs
theorem CAt.blk (h : CAt w k cs) : ∃ g, Blk w k cs.length g := by obtain ⟨g, hB, _⟩ := h; exact ⟨g, hB⟩
theorem CAt.sto (h : CAt w k cs) {j : Nat} (hj : j < cs.length) (v : Value) (hv : v.oneCell' = true) (hc : v.cells = #[v]) (hs : res Tryz.prog (sizeOf t) = some 1) {K : World → Prop} (hk : ∀ w', Fr [k] w w' → CAt w' k (cs.set j v) → w'.heap.size = w.heap.size → K w') :
    ∃ w', Sto Tryz.prog t (.pointer (some ((⟨k, 0, none⟩ : Addr).add j))) v w w' ∧ K w' := by
  obtain ⟨g, hB, hg⟩ := h
  rw [add_mk, Nat.zero_add]
  refine Sto.blk hs hB hj hv hc fun w' f hB' s => hk w' f ⟨_, by rw [List.length_set]; exact hB', fun i u hi => ?_⟩ s
  rw [List.getElem?_set] at hi
  unfold upd
  by_cases hij : j = i
  · subst hij
    rw [if_pos rfl, if_pos hj] at hi
    rw [if_pos rfl]; exact Option.some.inj hi
  · rw [if_neg hij] at hi
    rw [if_neg (fun hh => hij hh.symm)]; exact hg i u hi
theorem putC (cs : List Value) {n : Nat} (hn : cs.length = n) (h1 : cs.all (·.oneCell') = true) (hz : zsB Tryz.prog t n = true) (ht : res Tryz.prog (sizeOf t) = some n) {K : Nat → World → Prop} (h : ∀ w', Fr [] w w' → CAt w' w.heap.size cs → K w.heap.size w') :
    ∃ z, Pu Tryz.prog (zeroValue t) z ∧ New z.cells t w fun k w2 => ∃ w3, Sto Tryz.prog t (.pointer (some ⟨k, 0, none⟩)) (.agg ⟨cs⟩) w2 w3 ∧ K k w3 :=
  newZ (s := n) hz fun w2 g2 f2 hB2 s2 => stoC hB2 cs hn h1 ht fun w3 f3 hC s3 => h w3 (f2.st f3 (Nat.le_refl _)) hC
end
end Go.Sh
end

section
namespace Go.Sh
open Go Go.Fw Go.Proofs
set_option maxRecDepth 100000
set_option linter.unusedVariables false
section
variable {c lo hi : Nat} {key : List UInt8} {d : Int}
def okO (fr to_ : List UInt8) (n pass : Int) : Prop := okB fr n pass ∧ to_.length = fr.length
set_option maxHeartbeats 1000000 in
theorem onto_c {w : World} (hC : Cip w c key d lo hi) (hd0 : 0 ≤ d) (hd : d < 1000000000) (hhi : hi ≤ w.heap.size) {q1 q2 p2 p3 : Option Addr} {a1 b1 a2 b2 l2 c2 l3 c3 : Nat} {fr to_ : List UInt8} (hF : Row w p2 (fr.map vb)) (hl2 : l2 = fr.length) (hc2 : l2 ≤ c2) (hlb : l2 < 1000000)
    (hT : Row w p3 (to_.map vb)) (hl3 : l3 = to_.length) (hp3 : ∀ z ∈ blks p3, hi ≤ z) (n pass : Int) (left : Bool) {K : Value → World → Prop}
    (hbad : ¬ okO fr to_ n pass → ∀ w', Fr [] w w' → K (.tuple #[.slice none 0 0, .int .i64 11]) w')
    (hok : okO fr to_ n pass → ∀ q e w', Fr [c] w w' → Cip w' c key (d + 1) lo hi → OB w' q l3 e (ontoL key fr to_ n.toNat pass.toNat left) w.heap.size → K (.tuple #[.slice q l3 e, .int .i64 0]) w') :
    callF Tryz.prog F_feist_pair_onto #[.agg #[.slice q1 a1 b1, .slice q2 a2 b2, .int .i64 n], .pointer (some ⟨c, 0, none⟩), .slice p2 l2 c2, .slice p3 l3 c3, .int .i64 pass, .bool left] w K := by
  apply feist_pair_onto_call
  unfold feist_pair_onto
  refine New.intro fun w1 f1 hB s1 => ?_
  obtain ⟨f, hB, h2⟩ : ∃ f, Blk w1 w.heap.size 3 f ∧ f 2 = .int .i64 n := ⟨_, hB, rfl⟩
  have e2 : (⟨w.heap.size, 0, none⟩ : Addr).add 2 = ⟨w.heap.size, 2, none⟩ := add_mk _ _ _
  rw [e2]
  refine ⟨_, Ld.blk (by kernel_rfl) hB (by omega) h2, ?_⟩
  have hcl := hC.lt
  refine Block_c (hF.fr0 f1) hl2 hc2 hlb n pass (fun hb w2 f2 => ⟨_, _, _, _, rfl, cond_t (hbad (fun h => hb h.1) w2 (f1.then f2))⟩) fun hb q e w2 f2 hO2 => ⟨_, _, _, _, rfl, cond_f ?_⟩
  have f02 := f1.then f2
  refine cond_ne (fun hne => hbad (fun h => by have := h.2; omega) w2 f02) fun heq => ?_
  have hlen : to_.length = fr.length := by omega
  have hoko : okO fr to_ n pass := ⟨hb, hlen⟩
  obtain ⟨hfit, hp0, hp1⟩ := hb
  obtain ⟨hn2, hn28, hfl⟩ := fit1.1 hfit
  have h14 : hsz n.toNat ≤ 14 := hsz_le (by omega)
  unfold feist_pair_onto_j1
  have hC2 := hC.fr0 f02
  have n1 := f1.size; have n2 := f2.size
  refine encCip_c hC2 hd0 (by omega) hO2.row (by rw [blockL_len _ _ (by omega)]) (blockL_len _ _ (by omega)) (fun z hz => .inr (by have := hO2.2.2 z hz; omega)) fun pa w3 f3 hC3 ha => ⟨_, _, _, _, rfl, ?_⟩
  refine ⟨_, _, _, PuSl (s := 1) (kl := .i64) (kh := .i64) (lo := none) (hi := some (l3 : Int)) (by kernel_rfl) (by show (0 : Int) ≤ 0; omega) (by show (0 : Int) ≤ (l3 : Int); omega) (by show (l3 : Int) ≤ ((16 : Nat) : Int); omega), ?_⟩
  have e3 : (Option.getD (some (l3 : Int)) ((16 : Nat) : Int)).toNat - (Option.getD (none : Option Int) 0).toNat = l3 := by show ((l3 : Int)).toNat - 0 = l3; omega
  rw [e3]
  have hT2 := hT.fr0 f02
  have hT3 : Row w3 p3 (to_.map vb) := Row.cells_fr hT2 f3 (fun z hz => by have := hp3 z hz; simp; omega)
  have htk : ((aencL key (blockL fr n.toNat pass.toNat)).take l3).length = l3 := by rw [hl3]; exact take_len (by omega)
  refine Xor_c (Row.front ha.row 16 l3) htk.symm hT3 hl3 (by rw [htk, hl3]) (by omega) fun pb cb w4 f4 hb4 => ⟨_, _, _, _, rfl, ?_⟩
  have hB4 := ((hB.fr0 f2).fr f3 (by simp; omega)).fr0 f4
  rw [e2]
  refine ⟨_, Ld.blk (by kernel_rfl) hB4 (by omega) h2, ?_⟩
  have hxl : (xorL ((aencL key (blockL fr n.toNat pass.toNat)).take l3) to_).length = l3 := hb4.2.1.symm
  have hfit2 : fitN n [xorL ((aencL key (blockL fr n.toNat pass.toNat)).take l3) to_] := fit1.2 ⟨hn2, hn28, by rw [hxl]; omega⟩
  refine Trim_c hb4.row hb4.2.1 hb4.cap (by omega) n left (fun h => absurd hfit2 h) fun _ qt dt w5 f5 hO5 => ⟨_, _, _, _, rfl, ?_⟩
  have n3 := f3.size; have n4 := f4.size
  have fA : Fr [c] w w5 := ((f02.after f3).then f4).then f5
  refine hok hoko qt dt w5 fA ((hC3.fr0 f4).fr0 f5) ?_
  have := hO5.mono (lo' := w.heap.size) (by omega)
  rw [hl3] at this ⊢
  exact this
def PairAt (w : World) (pb nb : Nat) (n : Int) (s : List UInt8 × List UInt8) : Prop :=
  ∃ f q1 d1 q2 d2, Blk w pb 3 f ∧ f 0 = .slice q1 s.1.length d1 ∧ f 1 = .slice q2 s.2.length d2 ∧ f 2 = .int .i64 n ∧ Row w q1 (s.1.map vb) ∧ s.1.length ≤ d1 ∧ Row w q2 (s.2.map vb) ∧ s.2.length ≤ d2 ∧ (∀ z ∈ blks q1, nb ≤ z ∧ z ≠ pb) ∧ ∀ z ∈ blks q2, nb ≤ z ∧ z ≠ pb
def okP (s : List UInt8 × List UInt8) (n pass : Int) : Prop := if Int.tmod pass 2 = 0 then okO s.2 s.1 n pass else okO s.1 s.2 n pass
set_option maxHeartbeats 1000000 in
theorem pass_c {w : World} (hC : Cip w c key d lo hi) (hd0 : 0 ≤ d) (hd : d < 1000000000) (hhi : hi ≤ w.heap.size) {pb nb : Nat} (hnb : hi ≤ nb) (hpb : hi ≤ pb) {n : Int} {s : List UInt8 × List UInt8} (hP : PairAt w pb nb n s) (hs1 : s.1.length < 1000000) (hs2 : s.2.length < 1000000) (hnw : nb ≤ w.heap.size) (pass : Int) {K : Value → World → Prop}
    (hbad : ¬ okP s n pass → ∀ w', Fr [pb] w w' → K (.int .i64 11) w')
    (hok : okP s n pass → ∀ w', Fr [c, pb] w w' → Cip w' c key (d + 1) lo hi → PairAt w' pb nb n (passL key n.toNat pass.toNat s) → K (.int .i64 0) w') :
    callF Tryz.prog F_feist_pair_pass #[.pointer (some ⟨pb, 0, none⟩), .pointer (some ⟨c, 0, none⟩), .int .i64 pass] w K := by
  apply feist_pair_pass_call
  unfold feist_pair_pass
  obtain ⟨f, q1, d1, q2, d2, hB, g0, g1, g2, hR1, hc1, hR2, hc2, hb1, hb2⟩ := hP
  have hcl := hC.lt
  have hpbw := hB.lt
  have a0 : (⟨pb, 0, none⟩ : Addr).add 0 = ⟨pb, 0, none⟩ := rfl
  have a1 : (⟨pb, 0, none⟩ : Addr).add 1 = ⟨pb, 1, none⟩ := add_mk _ _ _
  have ldP : ∀ {w'}, Fr [] w w' → Ld Tryz.prog T_feist_pair (.pointer (some ⟨pb, 0, none⟩)) w' (.agg #[.slice q1 s.1.length d1, .slice q2 s.2.length d2, .int .i64 n]) := fun {w'} hf =>
    LdA (m := 3) (by kernel_rfl) (by kernel_rfl) (hB.fr0 hf) (Nat.le_refl 3) [.slice q1 s.1.length d1, .slice q2 s.2.length d2, .int .i64 n] rfl (fun j v hj => by
      match j, hj with
      | 0, hj => rw [Nat.zero_add, g0]; simpa using hj
      | 1, hj => show f (0 + 1) = v; rw [Nat.zero_add, g1]; simpa using hj
      | 2, hj => show f (0 + 2) = v; rw [Nat.zero_add, g2]; simpa using hj)
  have okpass : okP s n pass → 0 ≤ pass := fun h => by unfold okP okO okB at h; split at h <;> omega
  refine cond_eq (fun hev => ?_) (fun hod => ?_)
  · have okE : okP s n pass ↔ okO s.2 s.1 n pass := by unfold okP; rw [if_pos hev]
    refine ⟨fun w' => Fr [] w w', Drw.intro fun w1 f1 s1 => ?_⟩
    refine ⟨_, rfl, _, rfl, _, rfl, _, _, _, _, _, _, _, ⟨f1, fun w' hw' => ldP hw'⟩, _, _, _, ⟨f1, fun w' hw' => by rw [a1]; exact Ld.blk (by kernel_rfl) (hB.fr0 hw') (by omega) g1⟩, _, _, _, by rw [a0]; exact Ld.blk (by kernel_rfl) (hB.fr0 f1) (by omega) g0, .inl rfl, ?_⟩
    have hB1 := hB.fr0 f1
    have n1 := f1.size
    refine onto_c (hC.fr0 f1) hd0 hd (by omega) (hR2.fr0 f1) rfl hc2 hs2 (hR1.fr0 f1) rfl (fun z hz => by have := hb1 z hz; omega) n pass true (fun hb w2 f2 => ⟨_, _, _, _, rfl, _, rfl, ?_⟩) fun hO q e w2 f2 hC2 hq => ⟨_, _, _, _, rfl, _, rfl, ?_⟩
    · rw [a0]
      refine Sto.blk (by kernel_rfl) (hB1.fr0 f2) (by omega) rfl rfl fun w3 f3 hB3 s3 => ?_
      exact hbad (fun h => hb (okE.1 h)) w3 ((f1.then f2).after f3)
    · rw [a0]
      refine Sto.blk (by kernel_rfl) (hB1.fr f2 (by simp; omega)) (by omega) rfl rfl fun w3 f3 hB3 s3 => ?_
      have fA : Fr [c, pb] w w3 := ((f1.mono (by simp)).trans f2 (fun z hz => .inl (by simp at hz; simp [hz]))).trans f3 (fun z hz => .inl (by simp at hz; simp [hz]))
      have hlen : (ontoL key s.2 s.1 n.toNat pass.toNat true).length = s.1.length := hq.2.1.symm
      have hpe : pass.toNat % 2 = 0 := by
        have := okpass (okE.2 hO)
        obtain ⟨p, rfl⟩ := Int.eq_ofNat_of_zero_le this
        have e : Int.tmod (p : Int) 2 = ((p % 2 : Nat) : Int) := rfl
        rw [e] at hev
        rw [Int.toNat_natCast]; omega
      have hqn : ∀ z ∈ blks q, z ≠ pb := fun z hz => by have := hq.2.2 z hz; omega
      refine hok (okE.2 hO) w3 fA (hC2.fr f3 (fun z hz => .inr (by simp at hz; omega))) ?_
      have ep : passL key n.toNat pass.toNat s = (ontoL key s.2 s.1 n.toNat pass.toNat true, s.2) := by unfold passL; rw [if_pos hpe]
      rw [ep]
      refine ⟨_, q, e, q2, d2, hB3, by rw [upd_same, hlen], by rw [upd_ne _ _ _ (by omega)]; exact g1, by rw [upd_ne _ _ _ (by omega)]; exact g2, Row.cells_fr hq.row f3 (fun z hz => by simp; exact hqn z hz), by rw [hlen]; exact hq.cap,
        Row.cells_fr (Row.cells_fr (hR2.fr0 f1) f2 (fun z hz => by have := hb2 z hz; simp; omega)) f3 (fun z hz => by simp; exact (hb2 z hz).2), hc2, fun z hz => ⟨by have := hq.2.2 z hz; omega, hqn z hz⟩, hb2⟩
  · have okE : okP s n pass ↔ okO s.1 s.2 n pass := by unfold okP; rw [if_neg hod]
    refine ⟨fun w' => Fr [] w w', Drw.intro fun w1 f1 s1 => ?_⟩
    refine ⟨_, rfl, _, rfl, _, rfl, _, _, _, _, _, _, _, ⟨f1, fun w' hw' => ldP hw'⟩, _, _, _, ⟨f1, fun w' hw' => by rw [a0]; exact Ld.blk (by kernel_rfl) (hB.fr0 hw') (by omega) g0⟩, _, _, _, by rw [a1]; exact Ld.blk (by kernel_rfl) (hB.fr0 f1) (by omega) g1, .inl rfl, ?_⟩
    have hB1 := hB.fr0 f1
    have n1 := f1.size
    refine onto_c (hC.fr0 f1) hd0 hd (by omega) (hR1.fr0 f1) rfl hc1 hs1 (hR2.fr0 f1) rfl (fun z hz => by have := hb2 z hz; omega) n pass false (fun hb w2 f2 => ⟨_, _, _, _, rfl, _, rfl, ?_⟩) fun hO q e w2 f2 hC2 hq => ⟨_, _, _, _, rfl, _, rfl, ?_⟩
    · rw [a1]
      refine Sto.blk (by kernel_rfl) (hB1.fr0 f2) (by omega) rfl rfl fun w3 f3 hB3 s3 => ?_
      exact hbad (fun h => hb (okE.1 h)) w3 ((f1.then f2).after f3)
    · rw [a1]
      refine Sto.blk (by kernel_rfl) (hB1.fr f2 (by simp; omega)) (by omega) rfl rfl fun w3 f3 hB3 s3 => ?_
      have fA : Fr [c, pb] w w3 := ((f1.mono (by simp)).trans f2 (fun z hz => .inl (by simp at hz; simp [hz]))).trans f3 (fun z hz => .inl (by simp at hz; simp [hz]))
      have hlen : (ontoL key s.1 s.2 n.toNat pass.toNat false).length = s.2.length := hq.2.1.symm
      have hpe : ¬ pass.toNat % 2 = 0 := by
        have := okpass (okE.2 hO)
        obtain ⟨p, rfl⟩ := Int.eq_ofNat_of_zero_le this
        have e : Int.tmod (p : Int) 2 = ((p % 2 : Nat) : Int) := rfl
        rw [e] at hod
        rw [Int.toNat_natCast]; omega
      have hqn : ∀ z ∈ blks q, z ≠ pb := fun z hz => by have := hq.2.2 z hz; omega
      refine hok (okE.2 hO) w3 fA (hC2.fr f3 (fun z hz => .inr (by simp at hz; omega))) ?_
      have ep : passL key n.toNat pass.toNat s = (s.1, ontoL key s.1 s.2 n.toNat pass.toNat false) := by unfold passL; rw [if_neg hpe]
      rw [ep]
      refine ⟨_, q1, d1, q, e, hB3, by rw [upd_ne _ _ _ (by omega)]; exact g0, by rw [upd_same, hlen], by rw [upd_ne _ _ _ (by omega)]; exact g2, Row.cells_fr (Row.cells_fr (hR1.fr0 f1) f2 (fun z hz => by have := hb1 z hz; simp; omega)) f3 (fun z hz => by simp; exact (hb1 z hz).2), hc1,
        Row.cells_fr hq.row f3 (fun z hz => by simp; exact hqn z hz), by rw [hlen]; exact hq.cap, hb1, fun z hz => ⟨by have := hq.2.2 z hz; omega, hqn z hz⟩⟩
end
end Go.Sh
end

section
namespace Go.Sh
open Go Go.Fw Go.Proofs
abbrev vi (n : Int) : Value := .int .i64 n
end Go.Sh
end

section
namespace Go.Sh
open Go Go.Fw Go.Proofs
set_option maxRecDepth 100000
set_option linter.unusedVariables false
section
variable {c lo hi : Nat} {key : List UInt8} {d : Int}
theorem okP_good {s : List UInt8 × List UInt8} {n : Nat} (h2 : 2 ≤ n) (h28 : n ≤ 28) (hg : goodP n s) (p : Int) : okP s (n : Int) p ↔ (0 ≤ p ∧ p ≤ 255) := by
  have l1 := hg.1.1
  have l2 := hg.2.1
  have fit : ∀ xs : List UInt8, xs.length = hsz n → fitN (n : Int) [xs] := fun xs hx => fit1.2 ⟨by omega, by omega, by rw [Int.toNat_natCast]; exact hx⟩
  unfold okP okO okB
  split
  · exact ⟨fun h => h.1.2, fun h => ⟨⟨fit _ l2, h⟩, by rw [l1, l2]⟩⟩
  · exact ⟨fun h => h.1.2, fun h => ⟨⟨fit _ l1, h⟩, by rw [l1, l2]⟩⟩
theorem okJ_good {s : List UInt8 × List UInt8} {n : Nat} (h2 : 2 ≤ n) (hg : goodP n s) : okJ s.1 s.2 n := by
  unfold okJ
  by_cases he : n % 2 = 0
  · exact .inl he
  · right
    obtain ⟨⟨l1, g1⟩, l2, g2⟩ := hg
    have hs : 0 < hsz n := by unfold hsz; omega
    have c1 : ∀ x : UInt8, x &&& 240 &&& 15 = 0 := fun x => by
      have := all8 (p := fun x => x &&& 240 &&& 15 == 0) (by kernel_rfl) x
      simpa using this
    have c0 : ∀ x : UInt8, x &&& 15 &&& 240 = 0 := fun x => by
      have := all8 (p := fun x => x &&& 15 &&& 240 == 0) (by kernel_rfl) x
      simpa using this
    constructor
    · have := trimL_fl (xs := s.1) (n := n) (left := true) (j := s.1.length - 1) (by omega)
      rw [g1, msk_L he, if_pos (by omega)] at this
      rw [this, c1]
    · have := trimL_fl (xs := s.2) (n := n) (left := false) (j := 0) (by omega)
      rw [g2, msk_R he, if_pos rfl] at this
      rw [this, c0]
set_option maxHeartbeats 1000000 in
theorem Passes_c {w : World} (hC : Cip w c key d lo hi) (hd0 : 0 ≤ d) (hd : d < 100000000) (hhi : hi ≤ w.heap.size) {p1 p2 : Option Addr} {l1 c1 l2 c2 : Nat} {xs : List UInt8} {ps : List Int} (hX : Row w p1 (xs.map vb)) (hl1 : l1 = xs.length) (hc1 : l1 ≤ c1) (hb1 : l1 < 1000000) (hS : Row w p2 (ps.map vi)) (hl2 : l2 = ps.length) (hb2 : l2 < 1000000) (hp2 : 0 < ps.length → c ∉ blks p2) {K : Value → World → Prop}
    (hbad : ¬ (2 ≤ l1 ∧ l1 ≤ 28 ∧ ∀ p ∈ ps, 0 ≤ p ∧ p ≤ 255) → ∀ d' w', Fr [c] w w' → Cip w' c key d' lo hi → d ≤ d' → d' ≤ d + ps.length → K (.tuple #[.slice none 0 0, .int .i64 11]) w')
    (hok : (2 ≤ l1 ∧ l1 ≤ 28 ∧ ∀ p ∈ ps, 0 ≤ p ∧ p ≤ 255) → ∀ q e w', Fr [c] w w' → Cip w' c key (d + ps.length) lo hi → OB w' q l1 e (passesL key xs (ps.map Int.toNat)) w.heap.size → K (.tuple #[.slice q l1 e, .int .i64 0]) w') :
    callF Tryz.prog F_feist_Passes #[.pointer (some ⟨c, 0, none⟩), .slice p1 l1 c1, .slice p2 l2 c2] w K := by
  apply feist_Passes_call
  unfold feist_Passes
  have hcl := hC.lt
  refine Cut_c hX hl1 hc1 hb1 (fun hb w1 f1 => ⟨_, _, _, _, _, _, _, rfl, cond_t (hbad (fun h => hb ⟨h.1, h.2.1⟩) d w1 (f1.mono (by simp)) (hC.fr0 f1) (by omega) (by omega))⟩) fun hl q1 d1 q2 d2 w0 w1 f0 f1 hO1 hO2 hlt1 => ⟨_, _, _, _, _, _, _, rfl, cond_f ?_⟩
  obtain ⟨h2, h28⟩ := hl
  have hg := cutL_good xs
  rw [← hl1] at hg
  refine newZ (s := 3) (by kernel_rfl) fun w2 g2 f2 hB2 s2 => ?_
  refine Sto.agg (m := 3) (cs := [.slice q1 (hsz l1) d1, .slice q2 (hsz l1) d2, .int .i64 (l1 : Int)]) (by kernel_rfl) rfl hB2 (Nat.le_refl 3) (by simp [Value.oneCell']) fun w3 f3 hB3 s3 => ?_
  have m0 := f0.size; have m1 := f1.size; have m2 := f2.size
  have f01 := f0.then f1
  have f03 : Fr [] w w3 := (f01.then f2).trans f3 (fun z hz => .inr (by simp at hz; omega))
  have k1 : (cutL xs).1.length = hsz l1 := by rw [hl1]; exact cutL_len.1
  have k2 : (cutL xs).2.length = hsz l1 := by rw [hl1]; exact cutL_len.2
  have hq1 : ∀ z ∈ blks q1, w.heap.size ≤ z ∧ z ≠ w1.heap.size := fun z hz => ⟨hO1.2.2 z hz, by have := hO1.lt z hz; omega⟩
  have hq2 : ∀ z ∈ blks q2, w.heap.size ≤ z ∧ z ≠ w1.heap.size := fun z hz => ⟨by have := hO2.2.2 z hz; omega, by have := hO2.lt z hz; omega⟩
  have hP : PairAt w3 w1.heap.size w.heap.size (l1 : Int) (cutL xs) := by
    refine ⟨_, q1, d1, q2, d2, hB3, ?_, ?_, ?_, Row.cells_fr (hO1.row.fr0 f2) f3 (fun z hz => by simp; exact (hq1 z hz).2), by rw [k1]; exact hO1.cap, Row.cells_fr (hO2.row.fr0 f2) f3 (fun z hz => by simp; exact (hq2 z hz).2), by rw [k2]; exact hO2.cap, hq1, hq2⟩
    · rw [k1]; rfl
    · rw [k2]; rfl
    · rfl
  refine LoopS.ind (fun k us w' => ∃ i : Nat, i + k = l2 ∧ us = [.pointer (some ⟨c, 0, none⟩), .slice none 0 0, .int .i64 0, .pointer (some ⟨w1.heap.size, 0, none⟩), .slice p2 l2 c2, .int .i64 (l2 : Int), .int .i64 (i : Int)] ∧ Fr [c] w w' ∧ w3.heap.size ≤ w'.heap.size ∧ Cip w' c key (d + i) lo hi ∧
      PairAt w' w1.heap.size w.heap.size (l1 : Int) (runL key l1 ((ps.take i).map Int.toNat) (cutL xs)) ∧ ∀ j, j < i → 0 ≤ ps.getD j 0 ∧ ps.getD j 0 ≤ 255) l2
    ⟨0, by omega, rfl, f03.mono (by simp), Nat.le_refl _, by simpa using hC.fr0 f03, by simpa [runL] using hP, by omega⟩ ?_
  rintro k us rr w4 I μ hgo ⟨i, hi', rfl, f4, k4, hC4, hP4, hps⟩
  have hgi : goodP l1 (runL key l1 ((ps.take i).map Int.toNat) (cutL xs)) := runL_good h28 _ hg
  refine ⟨_, _, _, _, _, _, _, _, _, _, _, rfl, cond_d (fun h3 => ?_) (fun h3 => ?_)⟩
  · have hil : i < l2 := by omega
    have hS4 : Row w4 p2 (ps.map vi) := by
      refine Row.cells_fr hS f4 (fun z hz => ?_)
      simp only [List.mem_singleton]
      rintro rfl
      exact hp2 (by omega) hz
    obtain ⟨a, ha, hca⟩ := ixR (P := Tryz.prog) (t := T_S_int) (by kernel_rfl) hS4 (cap := c2) (k := .i64) (i := (i : Int)) (len := l2) (by simpa using hl2) (by omega) (by omega) (v := vi (ps.getD i 0)) (by
      rw [Int.toNat_natCast, List.getElem?_map, List.getElem?_eq_getElem (by omega), List.getD_eq_getElem?_getD, List.getElem?_eq_getElem (by omega)]; rfl)
    refine ⟨a, ha, _, Ld.cell (by kernel_rfl) hca, ?_⟩
    have l1' := hgi.1.1
    have l2' := hgi.2.1
    have hsl := hsz_le h28
    have hin : ps.getD i 0 ∈ ps := by rw [List.getD_eq_getElem?_getD, List.getElem?_eq_getElem (by omega)]; simp
    refine pass_c hC4 (by omega) (by omega) (by omega) (Nat.le_trans hhi (Nat.le_refl _)) (by omega) hP4 (by omega) (by omega) (by omega) (ps.getD i 0) (fun hb w5 f5 => ⟨_, rfl, cond_t ?_⟩) fun hO w5 f5 hC5 hP5 => ⟨_, rfl, cond_f ?_⟩
    · refine hbad (fun h => hb ((okP_good h2 h28 hgi _).2 (h.2.2 _ hin))) (d + i) w5 (f4.trans f5 (fun z hz => .inr (by simp at hz; omega))) (hC4.fr f5 (fun z hz => .inr (by simp at hz; omega))) (by omega) (by omega)
    · have hp := (okP_good h2 h28 hgi _).1 hO
      rw [wrap64 (by omega) (by omega)]
      refine hgo _ _ _ (k - 1) (by omega) ⟨i + 1, by omega, rfl, f4.trans f5 (fun z hz => by simp at hz; rcases hz with rfl | rfl; exact .inl (by simp); exact .inr (by omega)), by have := f5.size; omega, ?_, ?_, fun j hj => ?_⟩
      · have : d + ((i + 1 : Nat) : Int) = d + (i : Int) + 1 := by omega
        rw [this]; exact hC5
      · have e : (ps.take (i + 1)).map Int.toNat = (ps.take i).map Int.toNat ++ [(ps.getD i 0).toNat] := by
          rw [List.take_add_one, List.getElem?_eq_getElem (by omega), List.map_append, List.getD_eq_getElem?_getD, List.getElem?_eq_getElem (by omega)]; rfl
        rw [e, runL_snoc]
        rw [Int.toNat_natCast] at hP5
        exact hP5
      · by_cases hji : j = i
        · subst hji; exact hp
        · exact hps j (by omega)
  · have hil : i = l2 := by omega
    subst hil
    rw [List.take_of_length_le (by omega)] at hP4 hgi
    unfold feist_Passes_j1
    obtain ⟨f, r1, e1, r2, e2, hB4, g0, g1, g2', hR1, hcc1, hR2, hcc2, hb1', hb2'⟩ := hP4
    have a2 : (⟨w1.heap.size, 0, none⟩ : Addr).add 2 = ⟨w1.heap.size, 2, none⟩ := add_mk _ _ _
    have a1 : (⟨w1.heap.size, 0, none⟩ : Addr).add 1 = ⟨w1.heap.size, 1, none⟩ := add_mk _ _ _
    have a0 : (⟨w1.heap.size, 0, none⟩ : Addr).add 0 = ⟨w1.heap.size, 0, none⟩ := rfl
    rw [a0, a1, a2]
    have l1' := hgi.1.1
    have l2' := hgi.2.1
    have hsl := hsz_le h28
    refine ⟨_, _, _, Ld.blk (by kernel_rfl) hB4 (by omega) g0, _, _, _, Ld.blk (by kernel_rfl) hB4 (by omega) g1, _, Ld.blk (by kernel_rfl) hB4 (by omega) g2', ?_⟩
    have hall : ∀ p ∈ ps, 0 ≤ p ∧ p ≤ 255 := fun p hp => by
      obtain ⟨j, hj, rfl⟩ := List.getElem_of_mem hp
      have := hps j (by omega)
      rwa [List.getD_eq_getElem?_getD, List.getElem?_eq_getElem hj] at this
    have hfit : fitN (l1 : Int) [(runL key l1 (ps.map Int.toNat) (cutL xs)).1, (runL key l1 (ps.map Int.toNat) (cutL xs)).2] := fit2.2 ⟨by omega, by omega, by rw [Int.toNat_natCast]; exact l1', by rw [Int.toNat_natCast]; exact l2'⟩
    refine halvesJoin_c hR1 rfl hcc1 (by omega) hR2 rfl hcc2 (by omega) (l1 : Int) (fun h => absurd hfit h) (fun _ h => absurd (by rw [Int.toNat_natCast]; exact okJ_good h2 hgi) h) fun _ _ po co w5 f5 hO5 => ⟨_, _, _, _, rfl, ?_⟩
    rw [Int.toNat_natCast] at hO5 ⊢
    refine hok ⟨h2, h28, hall⟩ po co w5 (f4.then f5) ?_ ?_
    · rw [← hl2]; exact hC4.fr0 f5
    · unfold passesL
      rw [← hl1]
      exact hO5.mono (by omega)
def okT (l : Nat) : Prop := 2 ≤ l ∧ l ≤ 28
theorem Mix_c {w : World} (hC : Cip w c key d lo hi) (hd0 : 0 ≤ d) (hd : d < 100000000) (hhi : hi ≤ w.heap.size) {p1 : Option Addr} {l1 c1 : Nat} {xs : List UInt8} (hX : Row w p1 (xs.map vb)) (hl1 : l1 = xs.length) (hc1 : l1 ≤ c1) (hb1 : l1 < 1000000) {K : Value → World → Prop}
    (hbad : ¬ okT l1 → ∀ d' w', Fr [c] w w' → Cip w' c key d' lo hi → d ≤ d' → d' ≤ d + 4 → K (.tuple #[.slice none 0 0, .int .i64 11]) w')
    (hok : okT l1 → ∀ q e w', Fr [c] w w' → Cip w' c key (d + 4) lo hi → OB w' q l1 e (passesL key xs [1, 2, 3, 4]) w.heap.size → K (.tuple #[.slice q l1 e, .int .i64 0]) w') :
    callF Tryz.prog F_feist_Mix #[.pointer (some ⟨c, 0, none⟩), .slice p1 l1 c1] w K := by
  apply feist_Mix_call
  unfold feist_Mix
  refine ⟨_, _, _, Ef.new (v := .slice (some ⟨w.heap.size, 0, none⟩) 4 4) (cs := (([1, 2, 3, 4] : List Int).map vi).toArray) (e := T_int) (by kernel_rfl) fun w1 f1 hB1 s1 => ?_⟩
  have hcl := hC.lt
  have m1 := f1.size
  refine Passes_c (l2 := 4) (c2 := 4) (ps := [1, 2, 3, 4]) (hC.fr0 f1) hd0 hd (by omega) (hX.fr0 f1) hl1 hc1 hb1 hB1.rowL rfl (by omega) (fun _ => by simp [blks]; omega) (fun hb d' w2 f2 hC2 h1 h2 => ⟨_, _, _, _, rfl, ?_⟩) fun hO q e w2 f2 hC2 hq => ⟨_, _, _, _, rfl, ?_⟩
  · exact hbad (fun h => hb ⟨h.1, h.2, by decide⟩) d' w2 (f1.after f2) hC2 h1 h2
  · exact hok ⟨hO.1, hO.2.1⟩ q e w2 (f1.after f2) hC2 (hq.mono m1)
theorem Unmix_c {w : World} (hC : Cip w c key d lo hi) (hd0 : 0 ≤ d) (hd : d < 100000000) (hhi : hi ≤ w.heap.size) {p1 : Option Addr} {l1 c1 : Nat} {xs : List UInt8} (hX : Row w p1 (xs.map vb)) (hl1 : l1 = xs.length) (hc1 : l1 ≤ c1) (hb1 : l1 < 1000000) {K : Value → World → Prop}
    (hbad : ¬ okT l1 → ∀ d' w', Fr [c] w w' → Cip w' c key d' lo hi → d ≤ d' → d' ≤ d + 4 → K (.tuple #[.slice none 0 0, .int .i64 11]) w')
    (hok : okT l1 → ∀ q e w', Fr [c] w w' → Cip w' c key (d + 4) lo hi → OB w' q l1 e (passesL key xs [4, 3, 2, 1]) w.heap.size → K (.tuple #[.slice q l1 e, .int .i64 0]) w') :
    callF Tryz.prog F_feist_Unmix #[.pointer (some ⟨c, 0, none⟩), .slice p1 l1 c1] w K := by
  apply feist_Unmix_call
  unfold feist_Unmix
  refine ⟨_, _, _, Ef.new (v := .slice (some ⟨w.heap.size, 0, none⟩) 4 4) (cs := (([4, 3, 2, 1] : List Int).map vi).toArray) (e := T_int) (by kernel_rfl) fun w1 f1 hB1 s1 => ?_⟩
  have hcl := hC.lt
  have m1 := f1.size
  refine Passes_c (l2 := 4) (c2 := 4) (ps := [4, 3, 2, 1]) (hC.fr0 f1) hd0 hd (by omega) (hX.fr0 f1) hl1 hc1 hb1 hB1.rowL rfl (by omega) (fun _ => by simp [blks]; omega) (fun hb d' w2 f2 hC2 h1 h2 => ⟨_, _, _, _, rfl, ?_⟩) fun hO q e w2 f2 hC2 hq => ⟨_, _, _, _, rfl, ?_⟩
  · exact hbad (fun h => hb ⟨h.1, h.2, by decide⟩) d' w2 (f1.after f2) hC2 h1 h2
  · exact hok ⟨hO.1, hO.2.1⟩ q e w2 (f1.after f2) hC2 (hq.mono m1)
end
end Go.Sh
end

section
namespace Go.Sh
open Go Go.Fw Go.Proofs
set_option maxRecDepth 100000
set_option linter.unusedVariables false
def Cfg (w : World) (b : Nat) (m s n : Int) (key : List UInt8) : Prop := ∃ f, Blk w b 19 f ∧ ∀ j v, (cfgV m s n key)[j]? = some v → f j = v
theorem cfgV_len (m s n : Int) (key : List UInt8) : (cfgV m s n key).length = key.length + 3 := by simp [cfgV]
theorem cfgV_one (m s n : Int) (key : List UInt8) : ∀ v ∈ cfgV m s n key, v.oneCell' = true := by
  intro v hv
  simp only [cfgV, List.mem_cons, List.mem_map] at hv
  rcases hv with rfl | rfl | rfl | ⟨x, _, rfl⟩ <;> rfl
section
variable {w : World} {b : Nat} {m s n : Int} {key : List UInt8}
theorem Cfg.fr {w' : World} {L : List Nat} (h : Cfg w b m s n key) (hf : Fr L w w') (hb : b ∉ L) : Cfg w' b m s n key := by
  obtain ⟨f, hB, hc⟩ := h; exact ⟨f, hB.fr hf hb, hc⟩
theorem Cfg.fr0 {w' : World} (h : Cfg w b m s n key) (hf : Fr [] w w') : Cfg w' b m s n key := h.fr hf (by simp)
theorem Cfg.lt (h : Cfg w b m s n key) : b < w.heap.size := by obtain ⟨f, hB, _⟩ := h; exact hB.lt
theorem newCfg (hk : key.length = 16) {K : Nat → World → Prop} (h : ∀ w', Fr [] w w' → Cfg w' w.heap.size m s n key → w'.heap.size = w.heap.size + 1 → K w.heap.size w') : New ⟨cfgV m s n key⟩ T_mode_Config w K := by
  refine New.intro fun w1 f1 hB s1 => h w1 f1 ⟨fun i => (⟨cfgV m s n key⟩ : Array Value).getD i undef, ?_, fun j v hj => ?_⟩ s1
  · have e : (⟨cfgV m s n key⟩ : Array Value).size = 19 := by show (cfgV m s n key).length = 19; rw [cfgV_len]; omega
    rw [e] at hB; exact hB
  · have hlt := (List.getElem?_eq_some_iff.1 hj).1
    show Array.getD ⟨cfgV m s n key⟩ j undef = v
    rw [Array.getD_eq_getD_getElem?]
    have : (⟨cfgV m s n key⟩ : Array Value)[j]? = some v := by simpa using hj
    rw [this]; rfl
theorem stoCfg {f : Nat → Value} (hB : Blk w b 19 f) (hk : key.length = 16) {K : World → Prop} (h : ∀ w', Fr [b] w w' → Cfg w' b m s n key → w'.heap.size = w.heap.size → K w') : ∃ w', Sto Tryz.prog T_mode_Config (.pointer (some ⟨b, 0, none⟩)) (.agg ⟨cfgV m s n key⟩) w w' ∧ K w' := by
  refine Sto.agg (m := 19) (cs := cfgV m s n key) (by kernel_rfl) (by rw [cfgV_len]; omega) hB (Nat.le_refl 19) (cfgV_one _ _ _ _) fun w' hf hB' hs => h w' hf ⟨_, hB', fun j v hj => ?_⟩ hs
  have hlt := (List.getElem?_eq_some_iff.1 hj).1
  unfold updN
  rw [dif_pos ⟨Nat.zero_le _, by simpa using hlt⟩]
  obtain ⟨h1, h2⟩ := List.getElem?_eq_some_iff.1 hj
  simpa using h2
theorem Cfg.ld (h : Cfg w b m s n key) (hk : key.length = 16) : Ld Tryz.prog T_mode_Config (.pointer (some ⟨b, 0, none⟩)) w (.agg ⟨cfgV m s n key⟩) := by
  obtain ⟨f, hB, hc⟩ := h
  exact LdA (m := 19) (by kernel_rfl) (by kernel_rfl) hB (o := 0) (by omega) _ (by rw [cfgV_len]; omega) (fun j v hj => by rw [Nat.zero_add]; exact hc j v hj)
theorem Cfg.mode (h : Cfg w b m s n key) : Ld Tryz.prog T_int (.pointer (some ((⟨b, 0, none⟩ : Addr).add 0))) w (.int .i64 m) := by
  obtain ⟨f, hB, hc⟩ := h; exact Ld.blk (by kernel_rfl) hB (by omega) (hc 0 _ rfl)
theorem Cfg.sid (h : Cfg w b m s n key) : Ld Tryz.prog T_int (.pointer (some ((⟨b, 0, none⟩ : Addr).add 1))) w (.int .i64 s) := by
  obtain ⟨f, hB, hc⟩ := h; rw [add_mk]; exact Ld.blk (by kernel_rfl) hB (by omega) (hc 1 _ rfl)
theorem Cfg.nonce (h : Cfg w b m s n key) : Ld Tryz.prog T_int (.pointer (some ((⟨b, 0, none⟩ : Addr).add 2))) w (.int .i64 n) := by
  obtain ⟨f, hB, hc⟩ := h; rw [add_mk]; exact Ld.blk (by kernel_rfl) hB (by omega) (hc 2 _ rfl)
theorem Cfg.keyLd (h : Cfg w b m s n key) (hk : key.length = 16) : Ld Tryz.prog T_A16_uint8 (.pointer (some ((⟨b, 0, none⟩ : Addr).add 3))) w (.agg ⟨key.map vb⟩) := by
  obtain ⟨f, hB, hc⟩ := h
  rw [add_mk]
  exact LdA (m := 16) (by kernel_rfl) (by kernel_rfl) hB (o := 0 + 3) (by omega) _ (by rw [List.length_map]; exact hk) (fun j v hj => by rw [Nat.zero_add, Nat.add_comm]; exact hc (j + 3) v hj)
theorem Cfg.keyRow (h : Cfg w b m s n key) (hk : key.length = 16) : Row w (some ⟨b, 3, none⟩) (key.map vb) := by
  obtain ⟨f, hB, hc⟩ := h
  refine .inr ⟨b, 3, rfl, fun j v hj => ?_⟩
  have hlt := (List.getElem?_eq_some_iff.1 hj).1
  rw [List.length_map] at hlt
  rw [hB.cell (by omega), Nat.add_comm, hc (j + 3) v hj]
theorem keySl {K : Option Addr → Nat → Nat → Prop} (h : K (some ⟨b, 3, none⟩) 16 16) : ∃ p l c, Pu Tryz.prog (Instr.sliceAt T_A16_uint8 (.pointer (some ((⟨b, 0, none⟩ : Addr).add 3))) none none none) (.slice p l c) ∧ K p l c := by
  rw [add_mk]
  exact ⟨_, _, _, PuSlA (n := 16) (s := 1) (kl := .i64) (kh := .i64) (lo := none) (hi := none) (by kernel_rfl) (by show (0 : Int) ≤ 0; omega) (by show (0 : Int) ≤ ((16 : Nat) : Int); omega) (by show ((16 : Nat) : Int) ≤ ((16 : Nat) : Int); omega), h⟩
end
def z16k : List UInt8 := List.replicate 16 0
def okC (m s n : Int) (key : List UInt8) : Prop := 0 ≤ m ∧ m ≤ 2 ∧ 1 ≤ s ∧ s ≤ 15 ∧ 4 ≤ n ∧ n ≤ 18 ∧ s + n ≤ 19 ∧ (m = 0 → key = z16k) ∧ (m = 1 → s + n = 16)
instance (m s n : Int) (key : List UInt8) : Decidable (okC m s n key) := by unfold okC; infer_instance
section
variable {w : World} {m s n : Int} {key : List UInt8} {K : Value → World → Prop}
theorem within_c {a x y : Int} (h : K (.bool (decide (x ≤ a ∧ a ≤ y))) w) : callF Tryz.prog F_mode_within #[.int .i64 a, .int .i64 x, .int .i64 y] w K := by
  apply mode_within_call
  unfold mode_within
  refine cond_d (fun h1 => ?_) (fun h1 => ?_)
  · have e : decide (a ≤ y) = decide (x ≤ a ∧ a ≤ y) := by rw [decide_eq_decide]; omega
    rw [e]; exact h
  · rw [decide_eq_false (by omega)] at h; exact h
theorem both_c (hk : key.length = 16) (h : ∀ w', Fr [] w w' → K (.int .i64 (IntKind.i64.wrap (s + n))) w') : callF Tryz.prog F_mode_Config_both #[.agg ⟨cfgV m s n key⟩] w K := by
  apply mode_Config_both_call
  unfold mode_Config_both
  refine newCfg hk fun w1 f1 hC s1 => ⟨_, hC.sid, _, hC.nonce, h w1 f1⟩
theorem Right_c (hk : key.length = 16) (h : ∀ w', Fr [] w w' → K (.bool (decide (okC m s n key))) w') : callF Tryz.prog F_mode_Config_Right #[.agg ⟨cfgV m s n key⟩] w K := by
  apply mode_Config_Right_call
  unfold mode_Config_Right
  have bad : ¬ okC m s n key → ∀ w', Fr [] w w' → K (.bool false) w' := fun hb w' f => by have := h w' f; rwa [decide_eq_false hb] at this
  refine newCfg hk fun w1 f1 hC s1 => ⟨_, hC.mode, within_c ⟨_, rfl, ?_⟩⟩
  refine cond_not (fun h1 => bad (fun hh => by have := of_decide_eq_false h1; unfold okC at hh; omega) w1 f1) (fun h1 => ⟨_, hC.sid, within_c ⟨_, rfl, ?_⟩⟩)
  refine cond_not (fun h2 => bad (fun hh => by have := of_decide_eq_false h2; unfold okC at hh; omega) w1 f1) (fun h2 => ⟨_, hC.nonce, within_c ⟨_, rfl, ?_⟩⟩)
  refine cond_not (fun h3 => bad (fun hh => by have := of_decide_eq_false h3; unfold okC at hh; omega) w1 f1) (fun h3 => ⟨_, hC.ld hk, both_c hk fun w2 f2 => ⟨_, rfl, ?_⟩⟩)
  have h1 := of_decide_eq_true h1; have h2 := of_decide_eq_true h2; have h3 := of_decide_eq_true h3
  have f02 := f1.then f2
  have hC2 := hC.fr0 f2
  rw [wrap64 (by omega) (by omega)]
  refine cond_d (fun h4 => bad (fun hh => by unfold okC at hh; omega) w2 f02) (fun h4 => ?_)
  unfold mode_Config_Right_j1
  refine ⟨_, hC2.mode, cond_eq (fun h5 => ?_) (fun h5 => ?_)⟩
  · refine ⟨_, hC2.keyLd hk, _, _, Ef.eqBytes (n := 16) (ys := z16k) (by kernel_rfl) (by kernel_rfl) hk rfl, ?_⟩
    have e : decide (key = z16k) = decide (okC m s n key) := by
      rw [decide_eq_decide]; unfold okC
      exact ⟨fun hh => ⟨by omega, by omega, by omega, by omega, by omega, by omega, by omega, fun _ => hh, fun _ => by omega⟩, fun hh => hh.2.2.2.2.2.2.2.1 h5⟩
    rw [e]
    exact h w2 f02
  · refine cond_eq (fun h6 => ⟨_, hC2.ld hk, both_c hk fun w3 f3 => ⟨_, rfl, ?_⟩⟩) (fun h6 => ?_)
    · rw [wrap64 (by omega) (by omega)]
      have e : (s + n == 16) = decide (okC m s n key) := by
        rw [Bool.eq_iff_iff, beq_iff_eq, decide_eq_true_iff]; unfold okC
        exact ⟨fun hh => ⟨by omega, by omega, by omega, by omega, by omega, by omega, by omega, fun _ => by omega, fun _ => hh⟩, fun hh => hh.2.2.2.2.2.2.2.2 h6⟩
      rw [e]
      exact h w3 (f02.then f3)
    · have hok : okC m s n key := ⟨by omega, by omega, by omega, by omega, by omega, by omega, by omega, fun _ => by omega, fun _ => by omega⟩
      have := h w2 f02
      rwa [decide_eq_true hok] at this
theorem cfgSize_c (hk : key.length = 16) (h : ∀ w', Fr [] w w' → K (.int .i64 (if okC m s n key then 1 + (s + n) else 0)) w') : callF Tryz.prog F_mode_Config_Size #[.agg ⟨cfgV m s n key⟩] w K := by
  apply mode_Config_Size_call
  unfold mode_Config_Size
  refine newCfg hk fun w1 f1 hC s1 => ⟨_, hC.ld hk, Right_c hk fun w2 f2 => ⟨_, rfl, ?_⟩⟩
  by_cases hok : okC m s n key
  · rw [decide_eq_true hok]
    refine cond_f ⟨_, (hC.fr0 f2).ld hk, both_c hk fun w3 f3 => ⟨_, rfl, ?_⟩⟩
    have := h w3 ((f1.then f2).then f3)
    rw [if_pos hok] at this
    have hok' := hok
    unfold okC at hok'
    rw [wrap64 (n := s + n) (by omega) (by omega), wrap64 (by omega) (by omega)]
    exact this
  · rw [decide_eq_false hok]
    have := h w2 (f1.then f2)
    rw [if_neg hok] at this
    exact cond_t this
end
end Go.Sh
end

section
namespace Go.Sh
open Go Go.Fw Go.Proofs
set_option maxRecDepth 100000
set_option linter.unusedVariables false
section
variable {w : World} {m s n : Int} {key : List UInt8} {K : Value → World → Prop}
def okR (xs : List UInt8) : Prop := xs.length = 20 ∧ fl xs 3 = 0 ∧ okC ((fl xs 0).toNat : Int) ((fl xs 1).toNat : Int) ((fl xs 2).toNat : Int) (xs.drop 4)
end
end Go.Sh
end

section
namespace Go.Sh
open Go Go.Fw Go.Proofs
set_option maxRecDepth 100000
set_option linter.unusedVariables false
def turnC (back : Bool) (m : Int) (key text : List UInt8) : List UInt8 :=
  if m = 0 then text else if m = 1 then (if back then adecL key text else aencL key text) else passesL key text (if back then [4, 3, 2, 1] else [1, 2, 3, 4])
section
variable {w : World} {m s n : Int} {key text : List UInt8} {K : Value → World → Prop}
theorem turnC_len (back : Bool) (hok : okC m s n key) (hl : (text.length : Int) = s + n) : (turnC back m key text).length = text.length := by
  unfold okC at hok
  unfold turnC
  split
  · rfl
  · split
    · cases back
      · rw [if_neg (by decide), aencL_len]; omega
      · rw [if_pos (by decide), adecL_len]; omega
    · rw [passesL_len _ _ _ (by omega) (by omega)]
set_option maxHeartbeats 1000000 in
theorem by_c (back : Bool) (v1 v2 : Value) {p : Option Addr} {l c : Nat} (hk : key.length = 16) (hx : Row w p (text.map vb)) (hl : l = text.length) (hc : l ≤ c) (hlb : l ≤ 1000000)
    (hv1 : ∀ (b : Nat) (w1 : World) (lo hi : Nat) (K' : Value → World → Prop), Cip w1 b key 0 lo hi → l = 16 → Row w1 p (text.map vb) → (∀ k ∈ blks p, k < lo ∨ hi ≤ k) → (∀ q d w', Fr [b] w1 w' → OB w' q l d (if back then adecL key text else aencL key text) w1.heap.size → K' (.tuple #[.slice q l d, .int .i64 0]) w') → callV Tryz.prog v1 [.pointer (some ⟨b, 0, none⟩), .slice p l c] w1 K')
    (hv2 : ∀ (b : Nat) (w1 : World) (lo hi : Nat) (K' : Value → World → Prop), Cip w1 b key 0 lo hi → hi ≤ w1.heap.size → okT l → Row w1 p (text.map vb) → (∀ q d w', Fr [b] w1 w' → OB w' q l d (passesL key text (if back then [4, 3, 2, 1] else [1, 2, 3, 4])) w1.heap.size → K' (.tuple #[.slice q l d, .int .i64 0]) w') → callV Tryz.prog v2 [.pointer (some ⟨b, 0, none⟩), .slice p l c] w1 K')
    (h1v : v1.oneCell' = true) (h2v : v2.oneCell' = true)
    (hstate : ¬ okC m s n key → ∀ w', Fr [] w w' → K (.tuple #[.slice none 0 0, .int .i64 19]) w') (hrange : okC m s n key → (l : Int) ≠ s + n → ∀ w', Fr [] w w' → K (.tuple #[.slice none 0 0, .int .i64 11]) w')
    (hok : okC m s n key → (l : Int) = s + n → ∀ q d w', Fr [] w w' → OB w' q l d (turnC back m key text) w.heap.size → K (.tuple #[.slice q l d, .int .i64 0]) w') :
    callF Tryz.prog F_mode_Config_by #[.agg ⟨cfgV m s n key⟩, .agg #[v1, v2], .slice p l c] w K := by
  apply mode_Config_by_call
  unfold mode_Config_by
  refine newCfg hk fun w1 f1 hC1 s1 => ?_
  refine New.intro fun w2 f2 hB s2 => ?_
  have hB' : Blk w2 w1.heap.size 2 (fun i => (#[v1, v2] : Array Value).getD i undef) := hB
  have f02 := f1.then f2
  refine ⟨_, (hC1.fr0 f2).ld hk, Right_c hk fun w3 f3 => ⟨_, rfl, ?_⟩⟩
  have f03 := f02.then f3
  by_cases ho : okC m s n key
  · rw [decide_eq_true ho]
    refine cond_f ?_
    have hC3 := (hC1.fr0 f2).fr0 f3
    refine ⟨_, hC3.ld hk, both_c hk fun w4 f4 => ⟨_, rfl, ?_⟩⟩
    have f04 := f03.then f4
    have ho' := ho
    unfold okC at ho'
    rw [wrap64 (by omega) (by omega)]
    refine cond_ne (fun hne => hrange ho hne w4 f04) (fun hlen => ?_)
    have hC4 := hC3.fr0 f4
    have hx4 := hx.fr0 f04
    refine ⟨_, hC4.mode, cond_eq (fun h0 => ?_) (fun h0 => ?_)⟩
    · refine rowB1 (byS hx4 hl hc) (by kernel_rfl) fun p1 w5 f5 hR1 s5 => ?_
      have efl : [text].flatten = text := by simp
      refine Join_c (l := 1) hR1 rfl (by rw [efl]; omega) (by omega) fun q d w6 f6 hO6 => ⟨_, _, _, rfl, ?_⟩
      rw [efl, ← hl] at hO6
      rw [efl, ← hl]
      have f05 := f04.then f5
      refine hok ho hlen q d w6 (f05.then f6) ?_
      have e : turnC back m key text = text := by unfold turnC; rw [if_pos h0]
      rw [e]
      exact hO6.mono f05.size
    · unfold mode_Config_by_j1
      refine keySl ?_
      refine newCip_c (hC4.keyRow hk) hk.symm hk (by omega) fun b w5 f5 hCi => ⟨_, _, rfl, ?_⟩
      have f05 := f04.then f5
      have hC5 := hC4.fr0 f5
      have hB5 := ((hB'.fr0 f3).fr0 f4).fr0 f5
      have hcl := hCi.lt
      have n4 := f04.size
      have a0 : (⟨w1.heap.size, 0, none⟩ : Addr).add 0 = ⟨w1.heap.size, 0, none⟩ := rfl
      have a1 : (⟨w1.heap.size, 0, none⟩ : Addr).add 1 = ⟨w1.heap.size, 1, none⟩ := add_mk _ _ _
      rw [a0, a1]
      refine ⟨_, hC5.mode, cond_eq (fun h1 => ?_) (fun h1 => ?_)⟩
      · refine ⟨v1, Ld.blk (by kernel_rfl) hB5 (by omega) rfl, ?_⟩
        refine hv1 b w5 _ _ _ hCi (by have := ho'.2.2.2.2.2.2.2.2 h1; omega) (hx.fr0 f05) (fun k hk' => .inl (by have := Row.blk_lt hx (by omega) k hk'; omega)) fun q d w6 f6 hO6 => ⟨_, _, _, _, rfl, ?_⟩
        refine hok ho hlen q d w6 (f05.st f6 (by omega)) ?_
        have e : turnC back m key text = (if back then adecL key text else aencL key text) := by unfold turnC; rw [if_neg h0, if_pos h1]
        rw [e]
        exact hO6.mono f05.size
      · refine ⟨v2, Ld.blk (by kernel_rfl) hB5 (by omega) rfl, ?_⟩
        refine hv2 b w5 _ _ _ hCi (Nat.le_refl _) ⟨by omega, by omega⟩ (hx.fr0 f05) fun q d w6 f6 hO6 => ⟨_, _, _, _, rfl, ?_⟩
        refine hok ho hlen q d w6 (f05.st f6 (by omega)) ?_
        have e : turnC back m key text = passesL key text (if back then [4, 3, 2, 1] else [1, 2, 3, 4]) := by unfold turnC; rw [if_neg h0, if_neg h1]
        rw [e]
        exact hO6.mono f05.size
  · rw [decide_eq_false ho]
    exact cond_t (hstate ho w3 f03)
theorem Turn_cfg_c {p : Option Addr} {l c : Nat} (hk : key.length = 16) (hx : Row w p (text.map vb)) (hl : l = text.length) (hc : l ≤ c) (hlb : l < 1000000)
    (hstate : ¬ okC m s n key → ∀ w', Fr [] w w' → K (.tuple #[.slice none 0 0, .int .i64 19]) w') (hrange : okC m s n key → (l : Int) ≠ s + n → ∀ w', Fr [] w w' → K (.tuple #[.slice none 0 0, .int .i64 11]) w')
    (hok : okC m s n key → (l : Int) = s + n → ∀ q d w', Fr [] w w' → OB w' q l d (turnC false m key text) w.heap.size → K (.tuple #[.slice q l d, .int .i64 0]) w') :
    callF Tryz.prog F_mode_Config_Turn #[.agg ⟨cfgV m s n key⟩, .slice p l c] w K := by
  apply mode_Config_Turn_call
  unfold mode_Config_Turn
  refine newCfg hk fun w1 f1 hC1 s1 => ⟨_, hC1.ld hk, ?_⟩
  have n1 := f1.size
  refine by_c false _ _ hk (hx.fr0 f1) hl hc (by omega) ?_ ?_ rfl rfl (fun h w' f => ⟨_, _, _, _, rfl, hstate h w' (f1.then f)⟩) (fun h h' w' f => ⟨_, _, _, _, rfl, hrange h h' w' (f1.then f)⟩) fun h h' q d w' f hO => ⟨_, _, _, _, rfl, hok h h' q d w' (f1.then f) (hO.mono n1)⟩
  · intro b w2 lo hi K' hCi h16 hx2 hsep hK
    refine callV_in (show callF Tryz.prog F_aes_Cipher_Encrypt #[.pointer (some ⟨b, 0, none⟩), .slice p l c] w2 K' from ?_)
    refine encCip_c hCi (by omega) (by omega) hx2 hl (by omega) hsep fun p' w3 f3 hC3 hO3 => ?_
    subst h16
    exact hK p' 16 w3 f3 hO3
  · intro b w2 lo hi K' hCi hhi hT hx2 hK
    refine callV_in (show callF Tryz.prog F_feist_Mix #[.pointer (some ⟨b, 0, none⟩), .slice p l c] w2 K' from ?_)
    refine Mix_c hCi (by omega) (by omega) hhi hx2 hl hc hlb (fun hb => absurd hT hb) fun _ q d w3 f3 hC3 hO3 => hK q d w3 f3 hO3
theorem Back_cfg_c {p : Option Addr} {l c : Nat} (hk : key.length = 16) (hx : Row w p (text.map vb)) (hl : l = text.length) (hc : l ≤ c) (hlb : l < 1000000)
    (hstate : ¬ okC m s n key → ∀ w', Fr [] w w' → K (.tuple #[.slice none 0 0, .int .i64 19]) w') (hrange : okC m s n key → (l : Int) ≠ s + n → ∀ w', Fr [] w w' → K (.tuple #[.slice none 0 0, .int .i64 11]) w')
    (hok : okC m s n key → (l : Int) = s + n → ∀ q d w', Fr [] w w' → OB w' q l d (turnC true m key text) w.heap.size → K (.tuple #[.slice q l d, .int .i64 0]) w') :
    callF Tryz.prog F_mode_Config_Back #[.agg ⟨cfgV m s n key⟩, .slice p l c] w K := by
  apply mode_Config_Back_call
  unfold mode_Config_Back
  refine newCfg hk fun w1 f1 hC1 s1 => ⟨_, hC1.ld hk, ?_⟩
  have n1 := f1.size
  refine by_c true _ _ hk (hx.fr0 f1) hl hc (by omega) ?_ ?_ rfl rfl (fun h w' f => ⟨_, _, _, _, rfl, hstate h w' (f1.then f)⟩) (fun h h' w' f => ⟨_, _, _, _, rfl, hrange h h' w' (f1.then f)⟩) fun h h' q d w' f hO => ⟨_, _, _, _, rfl, hok h h' q d w' (f1.then f) (hO.mono n1)⟩
  · intro b w2 lo hi K' hCi h16 hx2 hsep hK
    refine callV_in (show callF Tryz.prog F_aes_Cipher_Decrypt #[.pointer (some ⟨b, 0, none⟩), .slice p l c] w2 K' from ?_)
    refine decCip_c hCi (by omega) (by omega) hx2 hl (by omega) hsep fun p' w3 f3 hC3 hO3 => ?_
    subst h16
    exact hK p' 16 w3 f3 hO3
  · intro b w2 lo hi K' hCi hhi hT hx2 hK
    refine callV_in (show callF Tryz.prog F_feist_Unmix #[.pointer (some ⟨b, 0, none⟩), .slice p l c] w2 K' from ?_)
    refine Unmix_c hCi (by omega) (by omega) hhi hx2 hl hc hlb (fun hb => absurd hT hb) fun _ q d w3 f3 hC3 hO3 => hK q d w3 f3 hO3
end
end Go.Sh
end
