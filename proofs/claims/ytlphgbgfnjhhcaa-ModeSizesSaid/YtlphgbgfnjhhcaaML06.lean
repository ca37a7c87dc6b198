/- A part of a proof of a given law of this program: lemmas, printed forms of its functions, contracts. It has no conditions of its own. -/
import Derived.Test.YtlphgbgfnjhhcaaMC
import Derived.Test.YtlphgbgfnjhhcaaMSh2

section
namespace Go.Sh
open Go Go.Fw Go.Proofs
set_option maxRecDepth 100000
set_option linter.unusedVariables false

def z16 : List UInt8 := [0, 0, 0, 0, 0, 0, 0, 0, 0, 0, 0, 0, 0, 0, 0, 0]
def f06 : List UInt8 := [1, 2, 3, 4, 5, 6, 7, 8, 9, 10, 11, 12, 255, 255, 255, 255]
def g06 : List UInt8 := [1, 2, 3, 4, 5, 6, 7, 8, 9, 10, 11, 12, 0, 0, 0, 0]
theorem aes_zero : aencL z16 z16 = [0x66, 0xe9, 0x4b, 0xd4, 0xef, 0x8a, 0x2c, 0x3b, 0x88, 0x4c, 0xfa, 0x59, 0xca, 0x34, 0x2b, 0x2e] := by rw [aencL_eval]; kernel_rfl
theorem str_zero : strL z16 z16 3 = [0x66, 0xe9, 0x4b] := by
  show (strB z16 z16 1).take 3 = _
  show ([] ++ aencL z16 (afterL z16 0)).take 3 = _
  rw [afterL_zero rfl, aes_zero]; rfl
theorem mkNz {w : World} {K : Option Addr → Nat → Nat → World → Prop} (h : ∀ p w', Fr [] w w' → OB w' p 16 16 z16 w.heap.size → K p 16 16 w') :
    ∃ p l' c' w', Ef Try.prog (Instr.makeSlice 50 (.int .i64 16) (.int .i64 16)) w (.slice p l' c') w' ∧ K p l' c' w' := mkN (n := 16) (c := 16) (k := .i64) (k' := .i64) (Nat.le_refl _) (by omega) fun p w' f hO _ => h p w' f hO
set_option maxHeartbeats 1000000 in
theorem alive06_c {w : World} {K : Value → World → Prop} (h : ∀ w', Fr [] w w' → K (.bool true) w') : callF Try.prog F_law06_alive #[] w K := by
  apply law06_alive_call
  unfold law06_alive
  refine mkNz fun pz w1 f1 hz => ?_
  refine mkL (xs := f06) rfl rfl (by kernel_rfl) fun pf w2 f2 hf s2 => ?_
  have f02 := f1.then f2
  refine Next_c hf.row rfl (by decide) rfl fun pa da w3 f3 ha => ⟨_, _, _, _, rfl, ?_⟩
  have hz3 := (hz.fr0 f2).fr0 f3
  refine After_c (n := 258) hz3.row rfl (by decide) rfl (by decide) fun pb db w4 f4 hb => ⟨_, _, _, _, rfl, ?_⟩
  have hz4 := hz3.fr0 f4
  refine Stream_c (n := 3) hz4.row rfl (by decide) rfl hz4.row rfl (by decide) rfl (by decide) fun ps ds w5 f5 hs => ⟨_, _, _, _, rfl, ?_⟩
  have hz5 := hz4.fr0 f5
  refine Turn_c hz5.row rfl (by decide) rfl hz5.row rfl (by decide) rfl hs.row (strL_len _ _ _).symm (by omega) fun pt dt w6 f6 ht => ⟨_, _, _, _, rfl, ?_⟩
  refine Next_bad_c (by omega) ⟨_, _, _, _, rfl, ?_⟩
  have hz6 := hz5.fr0 f6
  refine Stream_bad_c hz6.row rfl (by decide) (by unfold strOk; omega) fun w8 f8 => ⟨_, _, _, _, rfl, ?_⟩
  refine cond_f (cond_t (cond_t (cond_t (cond_t (cond_t (cond_t ?_))))))
  refine mkL (xs := g06) rfl rfl (by kernel_rfl) fun pg w9 f9 hg s9 => ?_
  have f39 := (((f4.then f5).then f6).then f8).then f9
  have ea : afterL f06 1 = g06 := by decide +kernel
  rw [ea] at ha
  refine SameBytes_c (ha.row.fr0 f39) rfl hg.row rfl (by decide) fun w10 f10 => ⟨_, rfl, ?_⟩
  rw [decide_eq_true rfl]
  refine cond_t ?_
  have hb10 := (hb.fr0 (((f5.then f6).then f8).then f9)).fr0 f10
  have eb : afterL z16 258 = [0, 0, 0, 0, 0, 0, 0, 0, 0, 0, 0, 0, 0, 0, 1, 2] := by decide +kernel
  rw [eb] at hb10
  obtain ⟨x1, hx1, cx1⟩ := hb10.get (k := .i64) (i := 14) (by omega)
  obtain ⟨x2, hx2, cx2⟩ := hb10.get (k := .i64) (i := 15) (by omega)
  refine ⟨x1, hx1, _, Ld.cell (by kernel_rfl) cx1, cond_t ⟨x2, hx2, _, Ld.cell (by kernel_rfl) cx2, cond_t ?_⟩⟩
  refine mkL (xs := [0x66, 0xe9, 0x4b]) rfl rfl (by kernel_rfl) fun ph w11 f11 hh s11 => ?_
  rw [str_zero] at hs
  refine SameBytes_c (hs.row.fr0 ((((f6.then f8).then f9).then f10).then f11)) rfl hh.row rfl (by decide) fun w12 f12 => ⟨_, rfl, ?_⟩
  rw [decide_eq_true rfl]
  refine cond_t ?_
  refine mkL (xs := [0, 0, 0]) rfl rfl (by kernel_rfl) fun pi w13 f13 hi s13 => ?_
  have et : turnL z16 z16 (strL z16 z16 3) = [0, 0, 0] := by
    unfold turnL
    rw [strL_len, str_zero]; rfl
  rw [et] at ht
  refine SameBytes_c (ht.row.fr0 (((((f8.then f9).then f10).then f11).then f12).then f13)) rfl hi.row rfl (by decide) fun w14 f14 => ⟨_, rfl, ?_⟩
  rw [decide_eq_true rfl]
  exact h w14 (((((((f02.then f3).then f39).then f10).then f11).then f12).then f13).then f14)

set_option maxHeartbeats 1000000 in
theorem CountSteps_c {w : World} {p0 : Option Addr} {l0 c0 : Nat} {block : List UInt8} (h0 : Row w p0 (block.map vb)) (hl0 : l0 = block.length) (n : Nat) (hn : n < 18446744073709551616)
    {K : Value → World → Prop} (h : ∀ w', Fr [] w w' → K (.bool true) w') : callF Try.prog F_law06_CountSteps #[.slice p0 l0 c0, .int .u64 (n : Int)] w K := by
  apply law06_CountSteps_call
  unfold law06_CountSteps
  refine alive06_c fun w1 f1 => ⟨_, rfl, cond_f ?_⟩
  refine cond_d (fun _ => h w1 f1) fun hlen => ?_
  refine CopyBytes_c (h0.fr0 f1) hl0 (by omega) fun po co w2 f2 hO hpo => ⟨_, _, _, rfl, ?_⟩
  have hOB : OB w2 po l0 co block w1.heap.size := ⟨hO, hl0, hpo⟩
  have hcap := hOB.cap
  have f02 := f1.then f2
  by_cases h16 : block.length = 16
  · have hb2 := h0.fr0 f02
    refine Next_c hOB.row hl0 hcap h16 fun pa da w3 f3 ha => ⟨_, _, _, _, rfl, ?_⟩
    refine After_c (n := n) (hOB.row.fr0 f3) hl0 hcap h16 hn fun pb db w4 f4 hb => ⟨_, _, _, _, rfl, ?_⟩
    refine cond_ne (fun hne => by omega) fun _ => cond_t (cond_t ?_)
    have f04 := (f02.then f3).then f4
    refine refAfter_c (n := 1) (h0.fr0 f04) hl0 h16 (by omega) fun pc dc w5 f5 hc => ⟨_, _, _, rfl, ?_⟩
    refine SameBytes_c (ha.row.fr0 (f4.then f5)) (afterL_len 1 h16).symm hc.row (afterL_len 1 h16).symm (by omega) fun w6 f6 => ⟨_, rfl, ?_⟩
    rw [decide_eq_true rfl]
    refine cond_t ?_
    have f06 := (f04.then f5).then f6
    refine refAfter_c (n := n) (h0.fr0 f06) hl0 h16 hn fun pd dd w7 f7 hd => ⟨_, _, _, rfl, ?_⟩
    refine SameBytes_c (hb.row.fr0 ((f5.then f6).then f7)) (afterL_len n h16).symm hd.row (afterL_len n h16).symm (by omega) fun w8 f8 => ⟨_, rfl, ?_⟩
    rw [decide_eq_true rfl]
    refine cond_t ?_
    have f08 := (f06.then f7).then f8
    have f28 := (((((f3.then f4).then f5).then f6).then f7).then f8)
    refine SameBytes_c (hOB.row.fr0 f28) hl0 (h0.fr0 f08) hl0 (by omega) fun w9 f9 => ⟨_, rfl, ?_⟩
    rw [decide_eq_true rfl]
    exact h w9 (f08.then f9)
  · refine Next_bad_c (by omega) ⟨_, _, _, _, rfl, After_bad_c (by omega) ⟨_, _, _, _, rfl, ?_⟩⟩
    refine cond_ne (fun _ => cond_t (cond_t ?_)) fun he => by omega
    exact h w2 f02
end Go.Sh
end

section
namespace Go.Sh
open Go Go.Fw Go.Proofs
set_option maxRecDepth 100000
set_option linter.unusedVariables false

section
variable {w : World} {p q t : Option Addr} {l c m d n e : Nat} {key from_ text : List UInt8}
def outIs (ok : Prop) (out0 : List UInt8) (er : Int) (out : List UInt8) : Prop := (ok ∧ er = 0 ∧ out = out0) ∨ (¬ ok ∧ er = 11 ∧ out = [])
theorem outIs.eq {ok : Prop} {o : List UInt8} {e1 e2 : Int} {o1 o2 : List UInt8} (h : outIs ok o e1 o1) (k : outIs ok o e2 o2) : e1 = e2 ∧ o1 = o2 := by
  rcases h with ⟨a, b, c⟩ | ⟨a, b, c⟩ <;> rcases k with ⟨a', b', c'⟩ | ⟨a', b', c'⟩
  · exact ⟨by rw [b, b'], by rw [c, c']⟩
  · exact absurd a a'
  · exact absurd a' a
  · exact ⟨by rw [b, b'], by rw [c, c']⟩
theorem TurnAny_c (hx : Row w p (key.map vb)) (hl : l = key.length) (hc : l ≤ c) (hy : Row w q (from_.map vb)) (hm : m = from_.length) (hd : m ≤ d) (ht : Row w t (text.map vb)) (hn : n = text.length) {K : Value → World → Prop}
    (h : ∀ p' c' er out w', Fr [] w w' → OB w' p' out.length c' out w.heap.size → outIs (strOk l m (n : Int)) (turnL key from_ text) er out → K (.tuple #[.slice p' out.length c', .int .i64 er]) w') :
    callF Try.prog F_count_Turn #[.slice p l c, .slice q m d, .slice t n e] w K := by
  by_cases hok : strOk l m (n : Int)
  · obtain ⟨h1, h2, h3, h4⟩ := id hok
    refine Turn_c hx hl hc (by omega) hy hm hd (by omega) ht hn (by omega) fun p' c' w' f hO => ?_
    have hlen : (turnL key from_ text).length = n := by unfold turnL; rw [xorL_len (strL_len _ _ _), hn]
    have := h p' c' 0 (turnL key from_ text) w' f (by rw [hlen]; exact hO) (.inl ⟨hok, rfl, rfl⟩)
    rw [hlen] at this
    exact this
  · exact Turn_bad_c hx hl hc hok fun w' f => h none 0 11 [] w' f (OB.nil _ _) (.inr ⟨hok, rfl, rfl⟩)
theorem refTurnAny_c (hx : Row w p (key.map vb)) (hl : l = key.length) (hc : l ≤ c) (hy : Row w q (from_.map vb)) (hm : m = from_.length) (ht : Row w t (text.map vb)) (hn : n = text.length) {K : Value → World → Prop}
    (h : ∀ p' c' er out w', Fr [] w w' → OB w' p' out.length c' out w.heap.size → outIs (strOk l m (n : Int)) (turnL key from_ text) er out → K (.tuple #[.slice p' out.length c', .int .i64 er]) w') :
    callF Try.prog F_ref06_Turn #[.slice p l c, .slice q m d, .slice t n e] w K := by
  by_cases hok : strOk l m (n : Int)
  · obtain ⟨h1, h2, h3, h4⟩ := id hok
    refine refTurn_c hx hl hc (by omega) hy hm (by omega) ht hn (by omega) fun p' c' w' f hO => ?_
    have hlen : (turnL key from_ text).length = n := by unfold turnL; rw [xorL_len (strL_len _ _ _), hn]
    have := h p' c' 0 (turnL key from_ text) w' f (by rw [hlen]; exact hO) (.inl ⟨hok, rfl, rfl⟩)
    rw [hlen] at this
    exact this
  · exact refTurn_bad_c hok (h none 0 11 [] w (Fr.refl _ _) (OB.nil _ _) (.inr ⟨hok, rfl, rfl⟩))
theorem StreamAny_c {z : Int} (hx : Row w p (key.map vb)) (hl : l = key.length) (hc : l ≤ c) (hy : Row w q (from_.map vb)) (hm : m = from_.length) (hd : m ≤ d) {K : Value → World → Prop}
    (h : ∀ p' c' er out w', Fr [] w w' → OB w' p' out.length c' out w.heap.size → outIs (strOk l m z) (strL key from_ z.toNat) er out → K (.tuple #[.slice p' out.length c', .int .i64 er]) w') :
    callF Try.prog F_count_Stream #[.slice p l c, .slice q m d, .int .i64 z] w K := by
  by_cases hok : strOk l m z
  · obtain ⟨h1, h2, h3, h4⟩ := id hok
    obtain ⟨n, rfl⟩ := Int.eq_ofNat_of_zero_le h3
    refine Stream_c hx hl hc (by omega) hy hm hd (by omega) n (by omega) fun p' c' w' f hO => ?_
    have := h p' c' 0 (strL key from_ n) w' f (by rw [strL_len]; exact hO) (.inl ⟨hok, rfl, rfl⟩)
    rw [strL_len] at this
    exact this
  · exact Stream_bad_c hx hl hc hok fun w' f => h none 0 11 [] w' f (OB.nil _ _) (.inr ⟨hok, rfl, rfl⟩)
theorem turnL_len (key from_ text : List UInt8) : (turnL key from_ text).length = text.length := by unfold turnL; rw [xorL_len (strL_len _ _ _)]
end

set_option maxHeartbeats 1000000 in
theorem CountStreams_c {w : World} {p0 p1 p2 : Option Addr} {l0 c0 l1 c1 l2 c2 : Nat} {key from_ text : List UInt8} (h0 : Row w p0 (key.map vb)) (hl0 : l0 = key.length) (hc0 : l0 ≤ c0) (h1 : Row w p1 (from_.map vb)) (hl1 : l1 = from_.length) (hc1 : l1 ≤ c1) (h2 : Row w p2 (text.map vb)) (hl2 : l2 = text.length) (z : Int)
    {K : Value → World → Prop} (h : ∀ w', Fr [] w w' → K (.bool true) w') : callF Try.prog F_law06_CountStreams #[.slice p0 l0 c0, .slice p1 l1 c1, .slice p2 l2 c2, .int .i64 z] w K := by
  apply law06_CountStreams_call
  unfold law06_CountStreams
  refine alive06_c fun w1 f1 => ⟨_, rfl, cond_f ?_⟩
  refine cond_d (fun _ => h w1 f1) fun k0 => cond_d (fun _ => h w1 f1) fun k1 => cond_d (fun _ => h w1 f1) fun k2 => ?_
  have fin : ¬ (200 < z ∧ z ≤ 65535) → law06_CountStreams_j4 p0 l0 c0 p1 l1 c1 p2 l2 c2 z false w1 K := by
    intro hz
    unfold law06_CountStreams_j4
    refine CopyBytes_c (h2.fr0 f1) hl2 (by omega) fun po co w2 f2 hO hpo => ⟨_, _, _, rfl, ?_⟩
    have f02 := f1.then f2
    refine TurnAny_c (h0.fr0 f02) hl0 hc0 (h1.fr0 f02) hl1 hc1 hO.row hl2 fun pa ca ea oa w3 f3 ha ia => ⟨_, _, _, _, rfl, ?_⟩
    have f03 := f02.then f3
    refine refTurnAny_c (h0.fr0 f03) hl0 hc0 (h1.fr0 f03) hl1 (h2.fr0 f03) hl2 fun pb cb eb ob w4 f4 hb ib => ⟨_, _, _, _, rfl, ?_⟩
    obtain ⟨rfl, rfl⟩ := outIs.eq ia ib
    have f04 := f03.then f4
    refine StreamAny_c (h0.fr0 f04) hl0 hc0 (h1.fr0 f04) hl1 hc1 fun ps cs es os w5 f5 hs is => ⟨_, _, _, _, rfl, ?_⟩
    have f05 := f04.then f5
    have holen : oa.length ≤ 65535 := by rcases ia with ⟨⟨_, _, _, _⟩, x2, x3⟩ | ⟨x1, x2, x3⟩ <;> rw [x3]; rw [turnL_len]; omega; simp
    refine SameBytes_c (ha.row.fr0 (f4.then f5)) rfl (hb.row.fr0 f5) rfl (by omega) fun w6 f6 => ⟨_, rfl, ?_⟩
    rw [decide_eq_true rfl]
    refine cond_f (cond_ne (fun hne => absurd rfl hne) fun _ => ?_)
    have f06 := f05.then f6
    refine SameBytes_c (hO.row.fr0 (((f3.then f4).then f5).then f6)) hl2 (h2.fr0 f06) hl2 (by omega) fun w7 f7 => ⟨_, rfl, ?_⟩
    rw [decide_eq_true rfl]
    refine cond_f ?_
    have f07 := f06.then f7
    have bad : ¬ strOk l0 l1 z → law06_CountStreams_j2 p0 l0 c0 p1 l1 c1 z false ps os.length cs es true w7 K := by
      intro hbad
      unfold law06_CountStreams_j2
      rcases is with ⟨x1, x2, x3⟩ | ⟨x1, x2, x3⟩
      · exact absurd x1 hbad
      · rw [x2, x3]
        exact cond_t (cond_t (h w7 f07))
    unfold law06_CountStreams_j3
    unfold strOk at bad
    refine cond_d (fun hz0 => bad (by omega)) fun hz0 => cond_d (fun hz1 => bad (by omega)) fun hz1 => cond_ne (fun hne => bad (by omega)) fun he0 => ?_
    by_cases he1 : (l1 : Int) = 16
    · have : ((l1 : Int) != 16) = false := by rw [he1]; rfl
      rw [this]
      unfold law06_CountStreams_j2
      refine cond_f ?_
      unfold law06_CountStreams_j1
      rcases is with ⟨x1, x2, x3⟩ | ⟨x1, x2, x3⟩
      · rw [x2, x3]
        refine cond_t ?_
        obtain ⟨n, rfl⟩ := Int.eq_ofNat_of_zero_le (show 0 ≤ z by omega)
        refine refStream_c (h0.fr0 f07) hl0 hc0 (by omega) (h1.fr0 f07) hl1 (by omega) n (by omega) fun pr cr w8 f8 hr => ⟨_, _, _, rfl, ?_⟩
        rw [x3] at hs
        refine SameBytes_c (hs.row.fr0 ((f6.then f7).then f8)) rfl hr.row (strL_len _ _ _).symm (by rw [strL_len]; omega) fun w9 f9 => ⟨_, rfl, ?_⟩
        rw [decide_eq_true (show strL key from_ ((n : Int)).toNat = strL key from_ n by rw [Int.toNat_natCast])]
        exact h w9 ((f07.then f8).then f9)
      · exact absurd (by unfold strOk; omega) x1
    · have : ((l1 : Int) != 16) = true := by simpa using he1
      rw [this]
      exact bad (by omega)
  refine cond_d (fun hz => cond_d (fun _ => h w1 f1) fun hz1 => fin (by omega)) fun hz => fin (by omega)
end Go.Sh
end

section
namespace Go.Sh
open Go Go.Fw Go.Proofs
set_option maxRecDepth 100000
set_option linter.unusedVariables false

theorem turnL_twice (key from_ text : List UInt8) : turnL key from_ (turnL key from_ text) = text := by
  unfold turnL
  rw [xorL_len (strL_len _ _ _)]
  exact xorL_twice (strL_len _ _ _)
theorem xorL_take (xs ys : List UInt8) (n : Nat) : (xorL xs ys).take n = xorL (xs.take n) (ys.take n) := by unfold xorL; rw [List.take_zipWith]
theorem turnL_take (key : List UInt8) {from_ : List UInt8} (h : from_.length = 16) (text : List UInt8) {n : Nat} (hn : n ≤ text.length) : (turnL key from_ text).take n = turnL key from_ (text.take n) := by
  unfold turnL
  rw [xorL_take, strL_take key h hn, List.length_take, Nat.min_eq_left hn]
set_option maxHeartbeats 2000000 in
theorem CountBack_c {w : World} {p0 p1 p2 : Option Addr} {l0 c0 l1 c1 l2 c2 : Nat} {key from_ text : List UInt8} (h0 : Row w p0 (key.map vb)) (hl0 : l0 = key.length) (hc0 : l0 ≤ c0) (h1 : Row w p1 (from_.map vb)) (hl1 : l1 = from_.length) (hc1 : l1 ≤ c1) (h2 : Row w p2 (text.map vb)) (hl2 : l2 = text.length) (b n : Nat) (hb : b < 256) (hn : n < 256)
    {K : Value → World → Prop} (h : ∀ w', Fr [] w w' → K (.bool true) w') : callF Try.prog F_law06_CountBack #[.slice p0 l0 c0, .slice p1 l1 c1, .slice p2 l2 c2, .int .u8 (b : Int), .int .u8 (n : Int)] w K := by
  apply law06_CountBack_call
  unfold law06_CountBack
  refine alive06_c fun w1 f1 => ⟨_, rfl, cond_f ?_⟩
  refine cond_ne (fun _ => h w1 f1) fun k0 => cond_ne (fun _ => h w1 f1) fun k1 => cond_d (fun _ => h w1 f1) fun k2 => ?_
  unfold law06_CountBack_j3
  have hk : key.length = 16 := by omega
  have hf : from_.length = 16 := by omega
  refine Turn_c (h0.fr0 f1) hl0 hc0 hk (h1.fr0 f1) hl1 hc1 hf (h2.fr0 f1) hl2 (by omega) fun pa ca w2 f2 ha => ⟨_, _, _, _, rfl, ?_⟩
  have f02 := f1.then f2
  refine Turn_c (h0.fr0 f02) hl0 hc0 hk (h1.fr0 f02) hl1 hc1 hf ha.row (by rw [turnL_len]; exact hl2) (by omega) fun pb cb w3 f3 hb3 => ⟨_, _, _, _, rfl, ?_⟩
  rw [turnL_twice] at hb3
  have f03 := f02.then f3
  refine cond_f (cond_f ?_)
  refine SameBytes_c hb3.row hl2 (h2.fr0 f03) hl2 (by omega) fun w4 f4 => ⟨_, rfl, ?_⟩
  rw [decide_eq_true rfl]
  refine cond_f (cond_ne (fun hne => absurd rfl hne) fun _ => ?_)
  have f04 := f03.then f4
  unfold law06_CountBack_j2
  have hk8 : b % 8 < 8 := Nat.mod_lt _ (by omega)
  have e0 : IntKind.i64.wrap (Int.tmod (b : Int) 8) = ((b % 8 : Nat) : Int) := by
    have : Int.tmod (b : Int) 8 = ((b % 8 : Nat) : Int) := rfl
    rw [this]; exact wrap64 (by omega) (by omega)
  obtain ⟨k, hkk⟩ : ∃ k, k = b % 8 := ⟨_, rfl⟩
  rw [← hkk] at hk8 e0
  have e1 : IntKind.u64.wrap (k : Int) = (k : Int) := wrapu64 (by omega) (by omega)
  have e2 : IntKind.i64.wrap (n : Int) = (n : Int) := wrap64 (by omega) (by omega)
  have e3 : IntKind.i64.wrap (16 * (k : Int)) = ((16 * k : Nat) : Int) := by rw [wrap64 (by omega) (by omega)]; omega
  have e4 : IntKind.i64.wrap (((16 * k : Nat) : Int) + (n : Int)) = ((16 * k + n : Nat) : Int) := by rw [wrap64 (by omega) (by omega)]; omega
  rw [e0, e1, e2, e3, e4]
  refine After_c (n := k) (h1.fr0 f04) hl1 hc1 hf (by omega) fun pt ct w5 f5 ht => ⟨_, _, _, _, rfl, ?_⟩
  have f05 := f04.then f5
  refine Stream_c (n := 16 * k + n) (h0.fr0 f05) hl0 hc0 hk (h1.fr0 f05) hl1 hc1 hf (by omega) fun ps cs w6 f6 hs => ⟨_, _, _, _, rfl, ?_⟩
  have f06 := f05.then f6
  have htl := afterL_len k hf
  refine Stream_c (n := n) (h0.fr0 f06) hl0 hc0 hk (ht.row.fr0 f6) htl.symm (by have := ht.cap; omega) htl (by omega) fun pu cu w7 f7 hu => ⟨_, _, _, _, rfl, ?_⟩
  have f07 := f06.then f7
  refine cond_f (cond_f (cond_f (cond_ne (fun hne => absurd rfl hne) fun _ => ?_)))
  have hcap := hs.cap
  refine ⟨_, _, _, PuSl (s := 1) (kl := .i64) (kh := .i64) (lo := some ((16 * k : Nat) : Int)) (hi := none) (by kernel_rfl) (by show 0 ≤ ((16 * k : Nat) : Int); omega) (by show ((16 * k : Nat) : Int) ≤ ((16 * k + n : Nat) : Int); omega) (by show ((16 * k + n : Nat) : Int) ≤ (cs : Int); omega), ?_⟩
  have hp := (hs.fr0 f7).part (a := 16 * k) (b := 16 * k + n) (by omega) (Nat.le_refl _)
  rw [List.take_of_length_le (by rw [strL_len]; exact Nat.le_refl _), strL_drop key hf] at hp
  refine SameBytes_c hp.row (by rw [strL_len]; show 16 * k + n - 16 * k = n; omega) hu.row (strL_len _ _ _).symm (by show 16 * k + n - 16 * k < _; omega) fun w8 f8 => ⟨_, rfl, ?_⟩
  rw [decide_eq_true rfl]
  refine cond_f ?_
  have f08 := f07.then f8
  unfold law06_CountBack_j1
  have e5 : IntKind.u64.wrap (n : Int) = (n : Int) := wrapu64 (by omega) (by omega)
  have e6 : IntKind.u64.wrap ((k : Int) + (n : Int)) = ((k + n : Nat) : Int) := by rw [wrapu64 (by omega) (by omega)]; omega
  rw [e1, e5, e6]
  have ht8 := ((ht.fr0 f6).fr0 f7).fr0 f8
  refine After_c (n := n) ht8.row htl.symm (by have := ht.cap; omega) htl (by omega) fun px cx w9 f9 hx => ⟨_, _, _, _, rfl, ?_⟩
  have f09 := f08.then f9
  refine After_c (n := k + n) (h1.fr0 f09) hl1 hc1 hf (by omega) fun py cy w10 f10 hy => ⟨_, _, _, _, rfl, ?_⟩
  have f010 := f09.then f10
  refine After_c (n := 4294967296) (h1.fr0 f010) hl1 hc1 hf (by omega) fun pz cz w11 f11 hz => ⟨_, _, _, _, rfl, cond_t (cond_t (cond_t ?_))⟩
  have f011 := f010.then f11
  rw [afterL_add k n hf] at hx
  have ez : afterL from_ 4294967296 = from_ := by rw [← afterL_mod 4294967296]; exact afterL_zero hf
  rw [ez] at hz
  refine SameBytes_c (hx.row.fr0 (f10.then f11)) (afterL_len _ hf).symm (hy.row.fr0 f11) (afterL_len _ hf).symm (by omega) fun w12 f12 => ⟨_, rfl, ?_⟩
  rw [decide_eq_true rfl]
  refine cond_t ?_
  refine SameBytes_c (hz.row.fr0 f12) hf.symm (h1.fr0 (f011.then f12)) hl1 (by omega) fun w13 f13 => ⟨_, rfl, ?_⟩
  rw [decide_eq_true rfl]
  exact h w13 ((f011.then f12).then f13)

set_option maxHeartbeats 2000000 in
theorem CountTurns_c {w : World} {p0 p1 p2 p3 : Option Addr} {l0 c0 l1 c1 l2 c2 l3 c3 : Nat} {key from_ a b : List UInt8} (h0 : Row w p0 (key.map vb)) (hl0 : l0 = key.length) (hc0 : l0 ≤ c0) (h1 : Row w p1 (from_.map vb)) (hl1 : l1 = from_.length) (hc1 : l1 ≤ c1) (h2 : Row w p2 (a.map vb)) (hl2 : l2 = a.length) (h3 : Row w p3 (b.map vb)) (hl3 : l3 = b.length) (hc3 : l3 ≤ c3)
    {K : Value → World → Prop} (h : ∀ w', Fr [] w w' → K (.bool true) w') : callF Try.prog F_law06_CountTurns #[.slice p0 l0 c0, .slice p1 l1 c1, .slice p2 l2 c2, .slice p3 l3 c3] w K := by
  apply law06_CountTurns_call
  unfold law06_CountTurns
  refine alive06_c fun w1 f1 => ⟨_, rfl, cond_f ?_⟩
  refine cond_ne (fun _ => h w1 f1) fun k0 => cond_ne (fun _ => h w1 f1) fun k1 => cond_d (fun _ => h w1 f1) fun k2 => cond_d (fun _ => h w1 f1) fun k3 => cond_d (fun _ => h w1 f1) fun k4 => ?_
  unfold law06_CountTurns_j2
  have hk : key.length = 16 := by omega
  have hf : from_.length = 16 := by omega
  refine Turn_c (h0.fr0 f1) hl0 hc0 hk (h1.fr0 f1) hl1 hc1 hf (h2.fr0 f1) hl2 (by omega) fun px cx w2 f2 hx => ⟨_, _, _, _, rfl, ?_⟩
  have f02 := f1.then f2
  refine Turn_c (h0.fr0 f02) hl0 hc0 hk (h1.fr0 f02) hl1 hc1 hf (h3.fr0 f02) hl3 (by omega) fun py cy w3 f3 hy => ⟨_, _, _, _, rfl, ?_⟩
  have f03 := f02.then f3
  refine ⟨_, _, _, PuSl (s := 1) (kl := .i64) (kh := .i64) (lo := none) (hi := some (l2 : Int)) (by kernel_rfl) (by show (0 : Int) ≤ 0; omega) (by show (0 : Int) ≤ (l2 : Int); omega) (by show (l2 : Int) ≤ (c3 : Int); omega), ?_⟩
  have e2 : (Option.getD (some (l2 : Int)) (l3 : Int)).toNat - (Option.getD (none : Option Int) 0).toNat = l2 := by show ((l2 : Int)).toNat - 0 = l2; omega
  rw [e2]
  refine Turn_c (h0.fr0 f03) hl0 hc0 hk (h1.fr0 f03) hl1 hc1 hf (Row.front (h3.fr0 f03) c3 l2) (by simp; omega) (by omega) fun pz cz w4 f4 hz => ⟨_, _, _, _, rfl, ?_⟩
  have f04 := f03.then f4
  refine cond_f (cond_f (cond_f (cond_ne (fun hne => absurd rfl hne) fun _ => cond_ne (fun hne => absurd rfl hne) fun _ => ?_)))
  have hycap := hy.cap
  refine ⟨_, _, _, PuSl (s := 1) (kl := .i64) (kh := .i64) (lo := none) (hi := some (l2 : Int)) (by kernel_rfl) (by show (0 : Int) ≤ 0; omega) (by show (0 : Int) ≤ (l2 : Int); omega) (by show (l2 : Int) ≤ (cy : Int); omega), ?_⟩
  rw [e2]
  have hyf := Row.front (hy.row.fr0 f4) cy l2
  rw [turnL_take key hf b (by omega)] at hyf
  have htk : (b.take l2).length = l2 := by rw [List.length_take]; omega
  refine SameBytes_c hyf (by rw [turnL_len, htk]) hz.row (by rw [turnL_len, htk]) (by omega) fun w5 f5 => ⟨_, rfl, ?_⟩
  rw [decide_eq_true rfl]
  refine cond_f ?_
  have f05 := f04.then f5
  unfold law06_CountTurns_j1
  refine LoopS.ind (fun k us w' => ∃ i : Nat, i + k = l2 ∧ us = [.slice p2 l2 c2, .slice p3 l3 c3, .bool false, .slice px l2 cx, .slice py l3 cy, .int .i64 (i : Int)] ∧ Fr [] w5 w') l2 ⟨0, by omega, rfl, Fr.refl _ _⟩ ?_
  rintro k us r w6 I μ hgo ⟨i, hi, rfl, f6⟩
  refine ⟨_, _, _, _, _, _, _, _, _, _, _, _, _, _, rfl, cond_d (fun hlt => ?_) (fun hlt => h w6 (f05.then f6))⟩
  have hil : i < l2 := by omega
  have f26 := (((f3.then f4).then f5).then f6)
  have f36 := ((f4.then f5).then f6)
  have f06 := f05.then f6
  obtain ⟨a1, ha1, ca1⟩ := row_get (t := 50) (by kernel_rfl) (hx.row.fr0 f26) (c := cx) (l := l2) (by rw [turnL_len]; exact hl2) hil (k := .i64)
  obtain ⟨a2, ha2, ca2⟩ := row_get (t := 50) (by kernel_rfl) (hy.row.fr0 f36) (c := cy) (l := l3) (by rw [turnL_len]; exact hl3) (i := i) (by omega) (k := .i64)
  obtain ⟨a3, ha3, ca3⟩ := row_get (t := 50) (by kernel_rfl) (h2.fr0 f06) (c := c2) hl2 hil (k := .i64)
  obtain ⟨a4, ha4, ca4⟩ := row_get (t := 50) (by kernel_rfl) (h3.fr0 f06) (c := c3) hl3 (i := i) (by omega) (k := .i64)
  have ex : (turnL key from_ a).getD i 0 = fl (strL key from_ a.length) i ^^^ a.getD i 0 := by unfold turnL; exact xorL_getD (strL_len _ _ _) (by omega)
  have ey : (turnL key from_ b).getD i 0 = fl (strL key from_ a.length) i ^^^ b.getD i 0 := by
    have h1 : (turnL key from_ b).getD i 0 = fl (strL key from_ b.length) i ^^^ b.getD i 0 := by unfold turnL; exact xorL_getD (strL_len _ _ _) (by omega)
    rw [h1]
    congr 1
    have := strL_take key hf (m := a.length) (n := b.length) (by omega)
    rw [← this]
    unfold fl
    rw [List.getD_eq_getElem?_getD, List.getD_eq_getElem?_getD, List.getElem?_take, if_pos (by omega)]
  refine ⟨fun w' => Fr [] w6 w', Drw.intro fun w7 f7 s7 => ?_⟩
  refine ⟨a1, ha1, a2, ha2, a3, ha3, a4, ha4, _, ⟨f7, fun w' hw' => Ld.cell (by kernel_rfl) (hw'.cell ca1 (by simp))⟩, _, ⟨f7, fun w' hw' => Ld.cell (by kernel_rfl) (hw'.cell ca2 (by simp))⟩, _, ⟨f7, fun w' hw' => Ld.cell (by kernel_rfl) (hw'.cell ca3 (by simp))⟩, _, Ld.cell (by kernel_rfl) (f7.cell ca4 (by simp)), .inl rfl, ?_⟩
  rw [xor8, xor8, ex, ey]
  have exy : (fl (strL key from_ a.length) i ^^^ a.getD i 0) ^^^ (fl (strL key from_ a.length) i ^^^ b.getD i 0) = a.getD i 0 ^^^ b.getD i 0 := by
    generalize fl (strL key from_ a.length) i = s
    rw [xor_comm8 s (a.getD i 0), xor_assoc8, ← xor_assoc8 s s, xor_self8, zero_xor8]
  rw [exy]
  refine cond_ne (fun hne => absurd rfl hne) fun _ => ?_
  rw [wrap64 (by omega) (by omega)]
  exact hgo _ _ _ (k - 1) (by omega) ⟨i + 1, by omega, rfl, f6.then f7⟩
end Go.Sh
end
