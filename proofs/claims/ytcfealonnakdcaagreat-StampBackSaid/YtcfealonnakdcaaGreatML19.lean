/- A part of a proof of a given law of this program: lemmas, printed forms of its functions, contracts. It has no conditions of its own. -/
import Derived.Test.YtcfealonnakdcaaGreatMA
import Derived.Test.YtcfealonnakdcaaGreatMH
import Derived.Test.YtcfealonnakdcaaGreatMB
import Derived.Test.YtcfealonnakdcaaGreatMFw3
import Derived.Test.YtcfealonnakdcaaGreatMR

section
namespace Go.Sh
open Go Go.Fw Go.Proofs
set_option maxRecDepth 100000
set_option linter.unusedVariables false
def OI (w : World) (p : Option Addr) (l c : Nat) (xs : List Int) (lo : Nat) : Prop := OwnS w p l c (xs.map vi) ∧ l = xs.length ∧ ∀ k ∈ blks p, lo ≤ k
theorem OI.row {w : World} {p : Option Addr} {l c : Nat} {xs : List Int} {lo : Nat} (h : OI w p l c xs lo) : Row w p (xs.map vi) := h.1.row
theorem OI.fr {w w' : World} {p : Option Addr} {l c : Nat} {xs : List Int} {lo : Nat} {L : List Nat} (h : OI w p l c xs lo) (hf : Fr L w w') (hl : ∀ k ∈ blks p, k ∉ L) : OI w' p l c xs lo := ⟨h.1.fr hf hl, h.2⟩
theorem OI.fr0 {w w' : World} {p : Option Addr} {l c : Nat} {xs : List Int} {lo : Nat} (h : OI w p l c xs lo) (hf : Fr [] w w') : OI w' p l c xs lo := h.fr hf (by simp)
theorem OI.fr_sep {w w' : World} {p : Option Addr} {l c : Nat} {xs : List Int} {lo b : Nat} (h : OI w p l c xs lo) (hf : Fr [b] w w') (hl : b < lo) : OI w' p l c xs lo :=
  h.fr hf fun k hk => by have := h.2.2 k hk; simp; omega
theorem OI.mono {w : World} {p : Option Addr} {l c : Nat} {xs : List Int} {lo lo' : Nat} (h : OI w p l c xs lo) (h1 : lo' ≤ lo) : OI w p l c xs lo' := ⟨h.1, h.2.1, fun k hk => Nat.le_trans h1 (h.2.2 k hk)⟩
theorem OI.news {a w w' : World} {p : Option Addr} {l c : Nat} {xs : List Int} {lo : Nat} (h : OI w p l c xs lo) (h1 : Fr [] a w) (h2 : Fr (blks p) w w') (h3 : a.heap.size ≤ lo) : Fr [] a w' := h1.trans h2 fun z hz => .inr (Nat.le_trans h3 (h.2.2 z hz))
end Go.Sh
end

section
namespace Go.Sh
open Go Go.Fw Go.Proofs
set_option maxRecDepth 100000
set_option linter.unusedVariables false
structure KE where
  sq : Nat
  key : List UInt8
def isSq (s : Int) (e : KE) : Bool := decide ((e.sq : Int) = s)
def idxK (ks : List KE) (s : Int) : Nat := ks.findIdx (isSq s)
def hasK (ks : List KE) (s : Int) : Prop := idxK ks s < ks.length
instance (ks : List KE) (s : Int) : Decidable (hasK ks s) := by unfold hasK; infer_instance
theorem hasK_at {ks : List KE} {s : Int} (h : hasK ks s) : ∃ e, ks[idxK ks s]? = some e ∧ (e.sq : Int) = s := by
  have hlt : ks.findIdx (isSq s) < ks.length := h
  have h2 := List.findIdx_getElem (w := hlt)
  exact ⟨_, List.getElem?_eq_getElem hlt, by simpa [isSq] using h2⟩
structure RE where
  sq : Nat
  key : List UInt8
  bx : Nat
  kp : Option Addr
  kc : Nat
  lo : Nat
  hi : Nat
def RE.ke (e : RE) : KE := ⟨e.sq, e.key⟩
def RE.v (e : RE) : List Value := [.pointer (some ⟨e.bx, 0, none⟩), .int .i64 (e.sq : Int), .slice e.kp 16 e.kc]
def EntAt (w : World) (e : RE) (N : Int) : Prop := ∃ n hb, 0 ≤ n ∧ n ≤ N ∧ BoxAt w e.bx e.key n N e.lo hb ∧ Row w e.kp (e.key.map vb) ∧ 16 ≤ e.kc ∧ (∀ k ∈ blks e.kp, hb ≤ k ∧ k < e.hi) ∧ hb ≤ e.hi ∧ e.hi ≤ w.heap.size
theorem EntAt.fr {w w' : World} {e : RE} {N : Int} {L : List Nat} (h : EntAt w e N) (hf : Fr L w w') (hL : ∀ k ∈ L, k < e.lo ∨ e.hi ≤ k) : EntAt w' e N := by
  obtain ⟨n, hb, n0, n1, hX, hk, h16, hbk, o1, o2⟩ := h
  have hlh := hX.lohi
  refine ⟨n, hb, n0, n1, hX.fr hf fun k hk => ?_, Row.cells_fr hk hf fun k hk hm => ?_, h16, hbk, o1, Nat.le_trans o2 hf.size⟩
  · have := hL k hk; omega
  · have := hL k hm; have := hbk k hk; omega
theorem EntAt.fr0 {w w' : World} {e : RE} {N : Int} (h : EntAt w e N) (hf : Fr [] w w') : EntAt w' e N := h.fr hf (by simp)
theorem EntAt.len {w : World} {e : RE} {N : Int} (h : EntAt w e N) : e.key.length = 16 := by obtain ⟨n, hb, n0, n1, hX, _⟩ := h; exact hX.lohi.2.2.1
theorem EntAt.lh {w : World} {e : RE} {N : Int} (h : EntAt w e N) : e.lo < e.hi ∧ e.hi ≤ w.heap.size := by obtain ⟨n, hb, n0, n1, hX, hk, h16, hbk, o1, o2⟩ := h; have := hX.lohi; omega
theorem EntAt.mono {w : World} {e : RE} {N N' : Int} (h : EntAt w e N) (hN : N ≤ N') : EntAt w e N' := by
  obtain ⟨n, hb, n0, n1, hX, r⟩ := h
  exact ⟨n, hb, n0, by omega, hX.mono hN, r⟩
structure RingAt (w : World) (b : Nat) (p : Option Addr) (es : List RE) (N : Int) (lo : Nat) : Prop where
  blk : ∃ f c, Blk w b 1 f ∧ f 0 = .slice p es.length c ∧ OwnN 3 w p es.length c (es.flatMap RE.v)
  ent : ∀ e ∈ es, EntAt w e N ∧ lo ≤ e.lo ∧ e.sq ≤ 127
  len : es.length ≤ 16
  pw : es.Pairwise fun x y => x.hi ≤ y.lo ∧ x.sq ≠ y.sq
  sep : ∀ k ∈ b :: blks p, ∀ e ∈ es, k < e.lo ∨ e.hi ≤ k
  arr : ∀ k ∈ blks p, lo ≤ k ∧ k ≠ b
  siz : lo ≤ w.heap.size
def offR (b : Nat) (p : Option Addr) (es : List RE) (k : Nat) : Prop := k ∉ b :: blks p ∧ ∀ e ∈ es, k < e.lo ∨ e.hi ≤ k
section
variable {w : World} {b lo : Nat} {p : Option Addr} {es : List RE} {N : Int} {K : Value → World → Prop}
theorem RingAt.fr {w' : World} {L : List Nat} (h : RingAt w b p es N lo) (hf : Fr L w w') (hL : ∀ k ∈ L, offR b p es k) : RingAt w' b p es N lo := by
  obtain ⟨⟨f, c, hB, e0, hO⟩, h2, h3, h4, h5, h6, h7⟩ := h
  refine ⟨⟨f, c, hB.fr hf fun hb => (hL b hb).1 (List.mem_cons_self ..), e0, hO.fr hf fun k hk hm => (hL k hm).1 (List.mem_cons_of_mem _ hk)⟩, fun e he => ⟨(h2 e he).1.fr hf fun k hk => (hL k hk).2 e he, (h2 e he).2⟩, h3, h4, h5, h6, Nat.le_trans h7 hf.size⟩
theorem RingAt.fr0 {w' : World} (h : RingAt w b p es N lo) (hf : Fr [] w w') : RingAt w' b p es N lo := h.fr hf (by simp)
theorem RingAt.lt (h : RingAt w b p es N lo) : ∀ k ∈ b :: blks p, k < w.heap.size := by
  obtain ⟨⟨f, c, hB, e0, hO⟩, _⟩ := h
  intro k hk
  rcases List.mem_cons.1 hk with rfl | hk
  · exact hB.lt
  · exact hO.lt k hk
theorem RingAt.mono {N' : Int} (h : RingAt w b p es N lo) (hN : N ≤ N') : RingAt w b p es N' lo :=
  ⟨h.blk, fun e he => ⟨(h.ent e he).1.mono hN, (h.ent e he).2⟩, h.len, h.pw, h.sep, h.arr, h.siz⟩
theorem RingAt.sq {s : Int} (h : RingAt w b p es N lo) (hs : hasK (es.map RE.ke) s) : ∃ e, es[idxK (es.map RE.ke) s]? = some e ∧ (e.sq : Int) = s ∧ e ∈ es := by
  obtain ⟨e, h1, h2⟩ := hasK_at hs
  rw [List.getElem?_map] at h1
  cases he : es[idxK (es.map RE.ke) s]? with
  | none => rw [he] at h1; cases h1
  | some x =>
    rw [he] at h1
    cases h1
    exact ⟨x, rfl, h2, List.mem_of_getElem? he⟩
end
end Go.Sh
end

section
namespace Go.Sh
open Go Go.Fw Go.Proofs
set_option maxRecDepth 100000
set_option linter.unusedVariables false
structure RR where
  sq : Nat
  key : List UInt8
  kp : Option Addr
  kc : Nat
def RR.ke (e : RR) : KE := ⟨e.sq, e.key⟩
def RR.v (e : RR) : List Value := [.int .i64 (e.sq : Int), .slice e.kp 16 e.kc]
structure RefAt (w : World) (r : Nat) (q : Option Addr) (rs : List RR) (lo : Nat) : Prop where
  blk : ∃ f c, Blk w r 1 f ∧ f 0 = .slice q rs.length c ∧ OwnN 2 w q rs.length c (rs.flatMap RR.v)
  ent : ∀ e ∈ rs, Row w e.kp (e.key.map vb) ∧ e.key.length = 16 ∧ 16 ≤ e.kc ∧ ∀ k ∈ blks e.kp, k ∉ r :: blks q ∧ k < w.heap.size
  len : rs.length ≤ 16
  arr : ∀ k ∈ blks q, lo ≤ k ∧ k ≠ r
  siz : lo ≤ w.heap.size
def offS (r : Nat) (q : Option Addr) (rs : List RR) (k : Nat) : Prop := k ∉ r :: blks q ∧ ∀ e ∈ rs, k ∉ blks e.kp
section
variable {w : World} {r lo : Nat} {q : Option Addr} {rs : List RR} {K : Value → World → Prop}
theorem RefAt.fr {w' : World} {L : List Nat} (h : RefAt w r q rs lo) (hf : Fr L w w') (hL : ∀ k ∈ L, offS r q rs k) : RefAt w' r q rs lo := by
  obtain ⟨⟨f, c, hB, e0, hO⟩, h2, h3, h4, h5⟩ := h
  refine ⟨⟨f, c, hB.fr hf fun hb => (hL r hb).1 (List.mem_cons_self ..), e0, hO.fr hf fun k hk hm => (hL k hm).1 (List.mem_cons_of_mem _ hk)⟩, fun e he => ?_, h3, h4, Nat.le_trans h5 hf.size⟩
  obtain ⟨a1, a2, a3, a4⟩ := h2 e he
  exact ⟨Row.cells_fr a1 hf fun k hk hm => (hL k hm).2 e he hk, a2, a3, fun k hk => ⟨(a4 k hk).1, Nat.lt_of_lt_of_le (a4 k hk).2 hf.size⟩⟩
theorem RefAt.fr0 {w' : World} (h : RefAt w r q rs lo) (hf : Fr [] w w') : RefAt w' r q rs lo := h.fr hf (by simp)
theorem RefAt.lt (h : RefAt w r q rs lo) : ∀ k ∈ r :: blks q, k < w.heap.size := by
  obtain ⟨⟨f, c, hB, e0, hO⟩, _⟩ := h
  intro k hk
  rcases List.mem_cons.1 hk with rfl | hk
  · exact hB.lt
  · exact hO.lt k hk
end
end Go.Sh
end

section
namespace Go.Sh
open Go Go.Fw Go.Proofs
set_option maxRecDepth 100000
set_option linter.unusedVariables false
structure RC where
  op : Int
  sq : Int
  kp : Option Addr
  kc : Nat
  key : List UInt8
def RC.v (x : RC) : List Value := [.int .i64 x.op, .int .i64 x.sq, .slice x.kp x.key.length x.kc]
def RC.ok (w : World) (x : RC) : Prop := Row w x.kp (x.key.map vb) ∧ x.key.length ≤ x.kc
theorem RC.ok.fr0 {w w' : World} {x : RC} (h : RC.ok w x) (f : Fr [] w w') : RC.ok w' x := ⟨h.1.fr0 f, h.2⟩
section
variable {w : World} {K : Value → World → Prop}
def Apart (b : Nat) (p : Option Addr) (es : List RE) (r : Nat) (q : Option Addr) (rs : List RR) : Prop := (∀ k ∈ b :: blks p, offS r q rs k) ∧ ∀ k ∈ r :: blks q, offR b p es k
theorem offR_new {b lo : Nat} {p : Option Addr} {es : List RE} {N : Int} (h : RingAt w b p es N lo) {k : Nat} (hk : w.heap.size ≤ k) : offR b p es k :=
  ⟨fun hm => by have := h.lt k hm; omega, fun e he => by have := (h.ent e he).1.lh; omega⟩
end
end Go.Sh
end

section
namespace Go.Sh
open Go Go.Fw Go.Proofs
set_option maxRecDepth 100000
set_option linter.unusedVariables false
theorem cond_tr {b : Bool} {A B : Prop} (h : b = true) (ha : A) : cond b A B := by subst h; exact cond_t ha
section
variable {w : World} {K : Value → World → Prop}
theorem RingAt.news {b lo : Nat} {p : Option Addr} {es : List RE} {N : Int} {w0 w' : World} (h : RingAt w b p es N lo) (f0 : Fr [] w0 w) (f : Fr (b :: blks p) w w') (hb : w0.heap.size ≤ b) (hlo : w0.heap.size ≤ lo) : Fr [] w0 w' :=
  f0.trans f fun k hk => by
    rcases List.mem_cons.1 hk with rfl | hk
    · exact .inr hb
    · have := (h.arr k hk).1; right; omega
theorem RefAt.news {r lo : Nat} {q : Option Addr} {rs : List RR} {w0 w' : World} (h : RefAt w r q rs lo) (f0 : Fr [] w0 w) (f : Fr (r :: blks q) w w') (hb : w0.heap.size ≤ r) (hlo : w0.heap.size ≤ lo) : Fr [] w0 w' :=
  f0.trans f fun k hk => by
    rcases List.mem_cons.1 hk with rfl | hk
    · exact .inr hb
    · have := (h.arr k hk).1; right; omega
theorem RingAt.keep {b lo : Nat} {p : Option Addr} {es : List RE} {N : Int} {w' : World} (h : RingAt w b p es N lo) (f : Fr (b :: blks p) w w') {q : Option Addr} {l d lo0 : Nat} {xs : List UInt8} (hO : OB w q l d xs lo0) (hlt : ∀ k ∈ blks q, k < lo ∧ k ≠ b) : OB w' q l d xs lo0 :=
  hO.fr f fun k hk hm => by
    have := hlt k hk
    rcases List.mem_cons.1 hm with hh | hm
    · exact this.2 hh
    · have := (h.arr k hm).1; omega
end
end Go.Sh
end

section
namespace Go.Sh
open Go Go.Fw Go.Proofs
set_option maxRecDepth 100000
set_option linter.unusedVariables false
section
variable {w : World} {K : Value → World → Prop}
theorem Apart.new {wa : World} {b lo r lo2 : Nat} {p : Option Addr} {es : List RE} {N : Int} (hR : RingAt wa b p es N lo) (hr : wa.heap.size ≤ r) : Apart b p es r none [] :=
  ⟨fun k hk => ⟨fun hm => by have := hR.lt k hk; simp [blks] at hm; omega, by simp⟩, fun k hk => by simp [blks] at hk; subst hk; exact offR_new hR hr⟩
end
end Go.Sh
end

section
namespace Go.Sh
open Go Go.Fw Go.Proofs
set_option maxRecDepth 100000
set_option linter.unusedVariables false
section
variable {w : World} {K : Value → World → Prop}
theorem pw_cases {α : Type} {R : α → α → Prop} {l : List α} (h : l.Pairwise R) {x y : α} (hx : x ∈ l) (hy : y ∈ l) : x = y ∨ R x y ∨ R y x := by
  obtain ⟨i, hi, rfl⟩ := List.getElem_of_mem hx
  obtain ⟨j, hj, rfl⟩ := List.getElem_of_mem hy
  rcases Nat.lt_trichotomy i j with h1 | h1 | h1
  · exact .inr (.inl (List.pairwise_iff_getElem.1 h i j hi hj h1))
  · subst h1; exact .inl rfl
  · exact .inr (.inr (List.pairwise_iff_getElem.1 h j i hj hi h1))
theorem RingAt.box {b lo : Nat} {p : Option Addr} {es : List RE} {N : Int} (h : RingAt w b p es N lo) {e : RE} (he : e ∈ es) : ∃ n hb, 0 ≤ n ∧ n ≤ N ∧ BoxAt w e.bx e.key n N e.lo hb ∧ hb ≤ e.hi ∧ e.key.length = 16 ∧ ∀ k ∈ blks e.kp, hb ≤ k := by
  obtain ⟨n, hb, n0, n1, hX, hk, h16, hbk, o1, o2⟩ := (h.ent e he).1
  exact ⟨n, hb, n0, n1, hX, o1, hX.lohi.2.2.1, fun k hk => (hbk k hk).1⟩
theorem RingAt.after {b lo : Nat} {p : Option Addr} {es : List RE} {N N' n' : Int} {w' : World} (h : RingAt w b p es N lo) {e : RE} (he : e ∈ es) {hb : Nat} (hhb : hb ≤ e.hi) (hkp : ∀ k ∈ blks e.kp, hb ≤ k) (f : Fr (rg e.lo hb) w w') (hN : N ≤ N') (h0 : 0 ≤ n') (h1 : n' ≤ N') (hX : BoxAt w' e.bx e.key n' N' e.lo hb) : RingAt w' b p es N' lo := by
  have hr : ∀ k ∈ rg e.lo hb, e.lo ≤ k ∧ k < hb := fun k hk => mem_rg.1 hk
  obtain ⟨⟨g, c, hB, e0, hO⟩, h2, h3, h4, h5, h6, h7⟩ := h
  have hnot : ∀ k ∈ b :: blks p, k ∉ rg e.lo hb := fun k hk hm => by have := hr k hm; have := h5 k hk e he; omega
  refine ⟨⟨g, c, hB.fr f (hnot b (List.mem_cons_self ..)), e0, hO.fr f fun k hk => hnot k (List.mem_cons_of_mem _ hk)⟩, fun x hx => ⟨?_, (h2 x hx).2⟩, h3, h4, h5, h6, Nat.le_trans h7 f.size⟩
  have other : (x.hi ≤ e.lo ∨ e.hi ≤ x.lo) → EntAt w' x N' := fun ho => ((h2 x hx).1.fr f fun k hk => by have := hr k hk; omega).mono hN
  rcases pw_cases h4 hx he with rfl | hh | hh
  · obtain ⟨n, hb2, n0, n1, hX2, hk, h16, hbk, o1, o2⟩ := (h2 x he).1
    exact ⟨n', hb, h0, h1, hX, Row.cells_fr hk f fun k hk' hm => by have := hr k hm; have := hkp k hk'; omega, h16, fun k hk' => ⟨hkp k hk', (hbk k hk').2⟩, hhb, Nat.le_trans o2 f.size⟩
  · exact other (.inl hh.1)
  · exact other (.inr hh.1)
theorem offR.sp {b : Nat} {p q : Option Addr} {es : List RE} {e : RE} {hb : Nat} {xs : List UInt8} (he : e ∈ es) (hhb : hb ≤ e.hi) (h : ∀ k ∈ blks q, offR b p es k) : sp e.lo hb q xs :=
  .inr fun k hk => by have := (h k hk).2 e he; omega
end
end Go.Sh
end
