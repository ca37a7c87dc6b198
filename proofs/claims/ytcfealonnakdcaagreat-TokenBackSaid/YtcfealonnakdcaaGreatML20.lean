/- A part of a proof of a given law of this program: lemmas, printed forms of its functions, contracts. It has no conditions of its own. -/
import Derived.Test.YtcfealonnakdcaaGreatMT
import Derived.Test.YtcfealonnakdcaaGreatML7
import Derived.Test.YtcfealonnakdcaaGreatMSh8

section
namespace Go.Sh
open Go Go.Fw Go.Proofs
set_option maxRecDepth 100000
set_option linter.unusedVariables false
theorem findIdx_find {α : Type} (p : α → Bool) : ∀ l : List α, l[l.findIdx p]? = l.find? p
  | [] => rfl
  | x :: l => by
    by_cases h : p x = true
    · simp [List.findIdx_cons, h]
    · have h' : p x = false := by simpa using h
      simp [List.findIdx_cons, h', findIdx_find p l]
theorem hasK_find {ks : List KE} {s : Int} : hasK ks s ↔ (ks.find? (isSq s)).isSome := by
  rw [← findIdx_find]
  unfold hasK idxK
  simp
theorem keyK_find {ks : List KE} {s : Int} : keyK ks s = ((ks.find? (isSq s)).map KE.key).getD [] := by
  unfold keyK idxK
  rw [findIdx_find]
theorem stepK_find {ks : List KE} {x : RC} {s : Int} (hx : x.sq ≠ s) (hs : hasK ks s) : (stepK ks x).find? (isSq s) = ks.find? (isSq s) := by
  unfold stepK
  split
  · unfold insK
    split
    · rw [List.find?_append]
      have := hasK_find.1 hs
      obtain ⟨e, he⟩ := Option.isSome_iff_exists.1 this
      rw [he]; rfl
    · rfl
  · split
    · unfold retK
      split
      · rename_i hr
        by_cases hi : idxK ks x.sq < ks.length
        · have e1 : ks = ks.take (idxK ks x.sq) ++ (ks[idxK ks x.sq] :: ks.drop (idxK ks x.sq + 1)) := by
            rw [← List.drop_eq_getElem_cons hi, List.take_append_drop]
          obtain ⟨e, he, hes⟩ := hasK_at (show hasK ks x.sq from hi)
          have hp : isSq s ks[idxK ks x.sq] = false := by
            rw [List.getElem?_eq_getElem hi] at he
            have := Option.some.inj he
            rw [this]
            unfold isSq
            exact decide_eq_false (by rw [hes]; exact hx)
          obtain ⟨A, hA⟩ : ∃ A, A = ks.take (idxK ks x.sq) := ⟨_, rfl⟩
          obtain ⟨B, hB⟩ : ∃ B, B = ks.drop (idxK ks x.sq + 1) := ⟨_, rfl⟩
          obtain ⟨c, hc⟩ : ∃ c, c = ks[idxK ks x.sq] := ⟨_, rfl⟩
          rw [← hA, ← hB, ← hc] at e1
          rw [← hc] at hp
          rw [← hA, ← hB, e1, List.find?_append, List.find?_append, List.find?_cons, hp]
        · rw [List.take_of_length_le (by omega), List.drop_of_length_le (by omega), List.append_nil]
      · rfl
    · rfl
theorem stepK_has {ks : List KE} {x : RC} {s : Int} (hx : x.sq ≠ s) (hs : hasK ks s) : hasK (stepK ks x) s ∧ keyK (stepK ks x) s = keyK ks s := by
  have := stepK_find hx hs
  exact ⟨hasK_find.2 (by rw [this]; exact hasK_find.1 hs), by rw [keyK_find, this, ← keyK_find]⟩
theorem shortP_cons {xs r : List UInt8} (h : xs.length ≤ 255) : shortP (0, UInt8.ofNat xs.length :: (xs ++ r)) = (xs, (0, r)) := by
  have e0 : (fl (UInt8.ofNat xs.length :: (xs ++ r)) 0).toNat = xs.length := by
    show (UInt8.ofNat xs.length).toNat = _
    simp; omega
  unfold shortP
  rw [if_pos ⟨rfl, by show (fl (UInt8.ofNat xs.length :: (xs ++ r)) 0).toNat + 1 ≤ _; rw [e0]; simp⟩]
  show (((UInt8.ofNat xs.length :: (xs ++ r)).drop 1).take (fl (UInt8.ofNat xs.length :: (xs ++ r)) 0).toNat, (0, (UInt8.ofNat xs.length :: (xs ++ r)).drop ((fl (UInt8.ofNat xs.length :: (xs ++ r)) 0).toNat + 1))) = _
  rw [e0, List.drop_succ_cons, List.drop_succ_cons, List.drop_zero, List.take_left, List.drop_left]
theorem untx_text {f : TF} (hl : ¬ longF f) (he : f.exp < 18446744073709551616) : untx (textL f) = f.ut 0 := by
  have hlf : f.od.length ≤ 20 ∧ f.sc.length ≤ 20 := by unfold longF at hl; omega
  have e8 : (putL f.exp 8).length = 8 := putL_len _ _
  have eT : textL f = putL f.exp 8 ++ (UInt8.ofNat f.od.length :: (f.od ++ (UInt8.ofNat f.sc.length :: (f.sc ++ [])))) := by simp [textL]
  have e1 : numP 8 (0, textL f) = (f.exp, (0, UInt8.ofNat f.od.length :: (f.od ++ (UInt8.ofNat f.sc.length :: (f.sc ++ []))))) := by
    unfold numP
    rw [if_pos ⟨rfl, by show 8 ≤ (textL f).length; rw [textL_len]; omega⟩]
    show (numL ((textL f).take 8), (0, (textL f).drop 8)) = _
    rw [eT, List.take_left' e8, List.drop_left' e8, num_put 8 f.exp (by simpa using he)]
  unfold untx
  rw [e1, shortP_cons (by omega), shortP_cons (by omega)]
  rw [if_neg (by show ¬ (endP (0, []) ≠ 0); decide), if_neg (by show ¬ (20 < f.od.length ∨ 20 < f.sc.length); omega)]
  rfl
theorem seal_len {ks : List KE} {s : Int} {nonce client : List UInt8} {f : TF} (h : sealE ks s nonce client f = 0) : (hasK ks s ∧ nonce.length = 12 ∧ client.length ≤ 64 ∧ ¬ longF f) ∧ (sealL ks s nonce client f).length = 29 + (textL f).length := by
  have h1 : hasK ks s := by
    by_cases hh : hasK ks s
    · exact hh
    · unfold sealE at h; rw [if_pos hh] at h; omega
  have h2 : ¬ (nonce.length ≠ 12 ∨ 64 < client.length) := fun hh => by unfold sealE at h; rw [if_neg (fun x => x h1), if_pos hh] at h; omega
  have h3 : ¬ longF f := fun hh => by unfold sealE at h; rw [if_neg (fun x => x h1), if_neg h2, if_pos hh] at h; omega
  refine ⟨⟨h1, by omega, by omega, h3⟩, ?_⟩
  have hlf : f.od.length ≤ 20 ∧ f.sc.length ≤ 20 := by unfold longF at h3; omega
  have hll := textL_len f
  have hok : okG nonce.length [textL f, UInt8.ofNat s.toNat :: client] := okG_iff.2 ⟨by omega, by omega, by rw [List.length_cons]; omega⟩
  unfold sealL
  rw [if_pos h, List.length_cons, List.length_append, (okG_back hok).2.2]; omega
theorem open_seal {ks : List KE} {s : Int} {nonce client : List UInt8} {f : TF} {now : Nat} (h : sealE ks s nonce client f = 0) (hs : 0 ≤ s ∧ s < 256) (he : f.exp < 18446744073709551616) :
    openU ks client (sealL ks s nonce client f) now = if f.exp < now then .bad 20 else f.ut 0 := by
  obtain ⟨⟨h1, h2, h3, h4⟩, hlen⟩ := seal_len h
  obtain ⟨n, rfl⟩ := Int.eq_ofNat_of_zero_le hs.1
  have hlf : f.od.length ≤ 20 ∧ f.sc.length ≤ 20 := by unfold longF at h4; omega
  have hll := textL_len f
  obtain ⟨key, hkey⟩ : ∃ key, key = keyK ks (n : Int) := ⟨_, rfl⟩
  have hok : okG nonce.length [textL f, UInt8.ofNat n :: client] := okG_iff.2 ⟨by omega, by omega, by rw [List.length_cons]; omega⟩
  obtain ⟨b1, b2, b3⟩ := okG_back (key := key) hok
  obtain ⟨S, hS⟩ : ∃ S, S = slL key nonce (textL f) (UInt8.ofNat n :: client) := ⟨_, rfl⟩
  have hT : sealL ks (n : Int) nonce client f = UInt8.ofNat n :: (nonce ++ S) := by unfold sealL; rw [if_pos h, Int.toNat_natCast, ← hkey, ← hS]
  rw [← hS] at b1 b2 b3
  obtain ⟨T, hTT⟩ : ∃ T, T = sealL ks (n : Int) nonce client f := ⟨_, rfl⟩
  rw [← hTT] at hT hlen ⊢
  have e0 : tk0 T = n := by
    rw [hT]
    show (UInt8.ofNat n).toNat = n
    simp; omega
  have eN : tkN T = nonce := by
    rw [hT]
    unfold tkN
    rw [List.take_succ_cons, List.drop_succ_cons, List.drop_zero, List.take_left' h2]
  have eS : tkS T = S := by
    rw [hT]
    unfold tkS
    rw [List.drop_succ_cons, List.drop_left' h2]
  have eE : unsE ks client T = 0 := by
    unfold unsE
    rw [e0, eN, eS, ← hkey, if_neg (by omega), if_neg (fun x => x h1), if_neg (by omega), if_neg (fun x => x b1)]
  have eL : unsL ks client T = textL f := by
    unfold unsL
    rw [if_pos eE, e0, eN, eS, ← hkey, b2]
  unfold openU
  rw [if_neg (fun x => x eE), eL, untx_text h4 he, if_neg (fun x => x rfl)]
  rfl
def f20 : TF := ⟨100, [1, 2], [3], none, 0, none, 0⟩
def t20 : List UInt8 := [0, 0, 0, 0, 0, 0, 0, 100, 2, 1, 2, 1, 3]
def c20 : List UInt8 := [3, 136, 218, 206, 96, 182, 163, 246, 241, 41, 192, 184, 114]
def ks20 : List KE := [⟨5, Z16⟩]
theorem text20 : textL f20 = t20 := by kernel_rfl
theorem turn20 : gturnL z16 z12 t20 = c20 := by
  have e : strL z16 (afterL (firstL z12) 1) 13 = cG.take 13 := by
    show (strB z16 (afterL (firstL z12) 1) 1).take 13 = _
    show ([] ++ aencL z16 (afterL (afterL (firstL z12) 1) 0)).take 13 = _
    rw [afterL_zero rfl, g_str]; rfl
  unfold gturnL turnL
  show xorL (strL z16 (afterL (firstL z12) 1) 13) t20 = _
  rw [e]; decide
theorem hash20 : ¬ (ghashL 0x66e94bd4ef8a2c3b884cfa59ca342b2e [5, 8] c20 = ghashL 0x66e94bd4ef8a2c3b884cfa59ca342b2e [5, 9] c20) := by decide +kernel
theorem seal20 : sealE ks20 5 z12 [9] f20 = 0 := by decide
theorem sealL20 : sealL ks20 5 z12 [9] f20 = 5 :: (z12 ++ slL z16 z12 t20 [5, 9]) := by
  unfold sealL
  rw [if_pos seal20, text20]
  rfl
theorem bad20 : openU ks20 [8] (sealL ks20 5 z12 [9] f20) 0 = .bad 13 := by
  have hok : okG z12.length [t20, [5, 9]] := by decide
  have hlen := (seal_len seal20).2
  obtain ⟨T, hT⟩ : ∃ T, T = sealL ks20 5 z12 [9] f20 := ⟨_, rfl⟩
  have hT2 := hT.trans sealL20
  rw [← hT] at hlen ⊢
  obtain ⟨S, hS⟩ : ∃ S, S = slL z16 z12 t20 [5, 9] := ⟨_, rfl⟩
  rw [← hS] at hT2
  have hS2 : S = c20 ++ gtagL z16 z12 c20 [5, 9] := by rw [hS]; unfold slL; rw [if_pos hok, turn20]
  have hSl : S.length = 29 := by rw [hS2, List.length_append, gtagL_len]; rfl
  have e0 : tk0 T = 5 := by rw [hT2]; rfl
  have eN : tkN T = z12 := by rw [hT2]; unfold tkN; rw [List.take_succ_cons, List.drop_succ_cons, List.drop_zero, List.take_left' (by rfl)]
  have eS : tkS T = S := by rw [hT2]; unfold tkS; rw [List.drop_succ_cons, List.drop_left' (by rfl)]
  have ht : S.take (S.length - 16) = c20 := by rw [hSl, hS2, List.take_left' (by rfl)]
  have hd : S.drop (S.length - 16) = gtagL z16 z12 c20 [5, 9] := by rw [hSl, hS2, List.drop_left' (by rfl)]
  have hop : opE z16 z12 S [5, 8] = 13 := by
    unfold opE
    rw [ht, hd]
    rw [if_pos (by show okG 12 [c20, [5, 8]]; decide), if_neg (by rw [hSl]; decide), if_neg fun hh => ?_]
    unfold gtagL at hh
    have := xorL_inj (by rw [ghashL_len, aencL_len]) (by rw [ghashL_len, aencL_len]) hh
    rw [g_key] at this
    exact hash20 this
  have hkey : keyK ks20 (5 : Nat) = z16 := by rfl
  have eE : unsE ks20 [8] T = 13 := by
    unfold unsE
    rw [if_neg (by rw [hlen, text20]; decide), e0, if_neg (by decide), if_neg (by rw [hlen, text20]; decide), eN, eS]
    have : (5 : Nat) = ((5 : Nat)) := rfl
    rw [hkey, if_pos (by show opE z16 z12 S [5, 8] ≠ 0; rw [hop]; decide)]
  unfold openU
  rw [if_pos (by rw [eE]; decide), eE]
def FrM (a m : Nat) (w w' : World) : Prop := ∃ L, (∀ z ∈ L, a ≤ z ∧ z < m) ∧ Fr L w w'
theorem FrM.of0 {a m : Nat} {w w' : World} (f : Fr [] w w') : FrM a m w w' := ⟨[], by simp, f⟩
theorem FrM.of {a m : Nat} {w w' : World} {L : List Nat} (f : Fr L w w') (h : ∀ z ∈ L, a ≤ z ∧ z < m) : FrM a m w w' := ⟨L, h, f⟩
theorem FrM.trans {a m : Nat} {w w1 w2 : World} (h : FrM a m w w1) (k : FrM a m w1 w2) : FrM a m w w2 := by
  obtain ⟨L, h1, h2⟩ := h
  obtain ⟨M, k1, k2⟩ := k
  exact ⟨L ++ M, fun z hz => by rcases List.mem_append.1 hz with hz | hz; exact h1 z hz; exact k1 z hz, (h2.mono (fun z hz => List.mem_append_left _ hz)).trans k2 (fun z hz => .inl (List.mem_append_right _ hz))⟩
theorem FrM.then {a m : Nat} {w w1 w2 : World} (h : FrM a m w w1) (k : Fr [] w1 w2) : FrM a m w w2 := h.trans (.of0 k)
theorem FrM.size {a m : Nat} {w w' : World} (h : FrM a m w w') : w.heap.size ≤ w'.heap.size := by obtain ⟨L, _, h2⟩ := h; exact h2.size
theorem FrM.news {a m : Nat} {w0 w w' : World} (h : FrM a m w w') (f : Fr [] w0 w) (ha : w0.heap.size ≤ a) : Fr [] w0 w' := by
  obtain ⟨L, h1, h2⟩ := h
  exact f.trans h2 fun z hz => .inr (by have := h1 z hz; omega)
theorem OB.frM {a m : Nat} {w w' : World} {q : Option Addr} {l d lo : Nat} {xs : List UInt8} (hO : OB w q l d xs lo) (h : FrM a m w w') (hm : m ≤ lo) : OB w' q l d xs lo := by
  obtain ⟨L, h1, h2⟩ := h
  exact hO.fr h2 fun z hz hm2 => by have := h1 z hm2; have := hO.2.2 z hz; omega
theorem TAt.frM {a m k : Nat} {w w' : World} {f : TF} (hT : TAt w k f) (h : FrM a m w w') (hm : m ≤ k) : TAt w' k f := by
  obtain ⟨L, h1, h2⟩ := h
  exact hT.fr h2 fun hm2 => by have := h1 k hm2; omega
theorem TF.own.frM {a m lo : Nat} {w w' : World} {f : TF} (hT : TF.own w f lo) (h : FrM a m w w') (hm : m ≤ lo) : TF.own w' f lo := ⟨hT.o1.frM h hm, hT.o2.frM h hm, hT.e⟩
end Go.Sh
end

section
namespace Go.Sh
open Go Go.Fw Go.Proofs
set_option maxRecDepth 100000
set_option linter.unusedVariables false
section
variable {w : World} {K : Value → World → Prop}
theorem long20_c {f : TF} (hk : ∀ w' bb, Fr [] w w' → (bb = false → f.od.length ≤ 300 ∧ f.sc.length ≤ 300) → K (.bool bb) w') : callF Tryz.prog F_law20_long #[f.a] w K := by
  apply law20_long_call
  unfold law20_long
  refine newT f fun w1 f1 hT s1 => ⟨_, _, _, hT.ldO, cond_d (fun _ => hk w1 true f1 (fun hh => by cases hh)) fun h1 => ⟨_, _, _, hT.ldS, hk w1 _ f1 fun hh => ?_⟩⟩
  have := of_decide_eq_false hh
  omega
theorem of20_c {f : TF} (hf : TF.ok w f) (hb1 : f.od.length ≤ 1000000) (hb2 : f.sc.length ≤ 1000000) (hk : ∀ u w', Fr [] w w' → TF.own w' u w.heap.size → u.exp = f.exp → u.od = f.od → u.sc = f.sc → K u.a w') : callF Tryz.prog F_law20_Of #[f.a] w K := by
  apply law20_Of_call
  unfold law20_Of
  refine newT f fun w1 f1 hT s1 => ?_
  obtain ⟨k1, hk1⟩ : ∃ k, k = w.heap.size := ⟨_, rfl⟩
  rw [← hk1] at hT ⊢
  refine newZ (s := 3) (by kernel_rfl) fun w2 g2 f2 hB2 s2 => ?_
  obtain ⟨k2, hk2⟩ : ∃ k, k = w1.heap.size := ⟨_, rfl⟩
  rw [← hk2] at hB2 ⊢
  have hT2 := hT.fr0 f2
  refine ⟨fun w' => TAt w' k1 f, Drw.intro fun w3 f3 s3 => ?_⟩
  have hT3 := hT2.fr0 f3
  refine ⟨_, ⟨hT3, fun w' hw' => hw'.ldE⟩, _, _, _, ⟨hT3, fun w' hw' => hw'.ldO⟩, _, _, _, ⟨hT3, fun w' hw' => hw'.ldS⟩, ?_⟩
  have f03 := (f1.then f2).then f3
  have hf3 := hf.fr0 f03
  refine CopyOB_c hf3.r1 rfl (by omega) fun q4 d4 w4 f4 hO4 => ⟨_, _, _, rfl, .inr (hT3.fr0 f4), ?_⟩
  refine CopyOB_c (hf3.fr0 f4).r2 rfl (by omega) fun q5 d5 w5 f5 hO5 => ⟨_, _, _, rfl, .inr ((hT3.fr0 f4).fr0 f5), ?_⟩
  obtain ⟨u, hu⟩ : ∃ u : TF, u = ⟨f.exp, f.od, f.sc, q4, d4, q5, d5⟩ := ⟨_, rfl⟩
  have hua : (.agg #[.int .u64 (f.exp : Int), .slice q4 f.od.length d4, .slice q5 f.sc.length d5] : Value) = u.a := by rw [hu]; rfl
  rw [hua]
  have hB5 := ((hB2.fr0 f3).fr0 f4).fr0 f5
  have m1 := f1.size; have m2 := f2.size; have m3 := f3.size; have m4 := f4.size; have m5 := f5.size
  have hk2l := hB2.lt
  refine stoTAt (by kernel_rfl) hB5 u fun w6 f6 hT6 s6 => ⟨_, _, rfl, hT6.ldG, ?_⟩
  refine hk u w6 (((f03.then f4).then f5).st f6 (by omega)) ?_ (by rw [hu]) (by rw [hu]) (by rw [hu])
  rw [hu]
  exact ⟨((hO4.fr0 f5).fr_sep f6 (by omega)).mono (by omega), (hO5.fr_sep f6 (by omega)).mono (by omega), hf.e⟩
structure Both (w0 w : World) (b : Nat) (p : Option Addr) (es : List RE) (lo r : Nat) (q : Option Addr) (rs : List RR) (lo2 : Nat) (N : Int) : Prop where
  R : RingAt w b p es N lo
  S : RefAt w r q rs lo2
  A : Apart b p es r q rs
  f : Fr [] w0 w
  b0 : w0.heap.size ≤ b
  l0 : w0.heap.size ≤ lo
  r0 : w0.heap.size ≤ r
  m0 : w0.heap.size ≤ lo2
theorem Both.step {w0 w w' : World} {b lo r lo2 : Nat} {p q : Option Addr} {es : List RE} {rs : List RR} {N : Int} (h : Both w0 w b p es lo r q rs lo2 N) (f : Fr ((b :: blks p) ++ (r :: blks q)) w w') : Fr [] w0 w' :=
  h.f.trans f fun k hk => by
    rcases List.mem_append.1 hk with hk | hk
    · rcases List.mem_cons.1 hk with rfl | hk
      · exact .inr h.b0
      · have := (h.R.arr k hk).1; have := h.l0; right; omega
    · rcases List.mem_cons.1 hk with rfl | hk
      · exact .inr h.r0
      · have := (h.S.arr k hk).1; have := h.m0; right; omega
theorem Both.fr0 {w0 w w' : World} {b lo r lo2 : Nat} {p q : Option Addr} {es : List RE} {rs : List RR} {N : Int} (h : Both w0 w b p es lo r q rs lo2 N) (f : Fr [] w w') : Both w0 w' b p es lo r q rs lo2 N :=
  ⟨h.R.fr0 f, h.S.fr0 f, h.A, h.f.then f, h.b0, h.l0, h.r0, h.m0⟩
theorem Both.box {w0 w w' : World} {b lo r lo2 : Nat} {p q : Option Addr} {es : List RE} {rs : List RR} {N N' : Int} {L : List Nat} (h : Both w0 w b p es lo r q rs lo2 N) (hL : ∀ z ∈ L, inR es z) (f : Fr L w w') (hR : RingAt w' b p es N' lo) (hoff : KeyOff es rs) : Both w0 w' b p es lo r q rs lo2 N' :=
  ⟨hR, h.S.fr f fun k hk => offS_of h.A hoff (hL k hk), h.A, h.f.trans f fun k hk => by obtain ⟨e, he, h1, h2⟩ := hL k hk; have := (h.R.ent e he).2.1; have := h.l0; right; omega, h.b0, h.l0, h.r0, h.m0⟩
set_option maxHeartbeats 2000000 in
theorem rings20_c {p0 : Option Addr} {l0 c0 : Nat} {cs : List RC} (h0 : Row w p0 (cs.flatMap RC.v)) (hok : ∀ x ∈ cs, RC.ok w x) (hl0 : l0 = cs.length) (hfew : fewC cs)
    (hk : ∀ b p es lo r q rs lo2 w', Both w w' b p es lo r q rs lo2 1 → es.map RE.ke = rs.map RR.ke → KeyOff es rs → K (.tuple #[.pointer (some ⟨b, 0, none⟩), .pointer (some ⟨r, 0, none⟩)]) w') :
    callF Tryz.prog F_law20_Rings #[.slice p0 l0 c0] w K := by
  apply law20_Rings_call
  unfold law20_Rings
  refine ringNew_c fun w2 f2 hR2 s2 => ⟨_, rfl, refNew_c fun w3 f3 hS3 s3 => ⟨_, _, ptrNil (by kernel_rfl), cond_f ?_⟩⟩
  obtain ⟨b, hb⟩ : ∃ b, b = w.heap.size := ⟨_, rfl⟩
  obtain ⟨lo, hlo⟩ : ∃ lo, lo = w2.heap.size := ⟨_, rfl⟩
  rw [← hlo] at hR2
  rw [← hb] at hR2 ⊢
  obtain ⟨r, hr⟩ : ∃ r, r = w2.heap.size := ⟨_, rfl⟩
  obtain ⟨lo2, hlo2⟩ : ∃ lo2, lo2 = w3.heap.size := ⟨_, rfl⟩
  rw [← hlo2] at hS3
  rw [← hr] at hS3 ⊢
  have f03 := f2.then f3
  have n2 := f2.size; have n3 := f03.size
  have hA3 : Apart b none [] r none [] := Apart.new (lo2 := 0) hR2 (by omega)
  refine LoopS.ind (fun k us w' => ∃ (i : Nat) (p q : Option Addr) (es : List RE) (rs : List RR), i + k = l0 ∧ us = [.slice p0 l0 c0, .pointer none, .pointer none, .pointer (some ⟨b, 0, none⟩), .pointer (some ⟨r, 0, none⟩), .int .i64 (i : Int)] ∧ Both w w' b p es lo r q rs lo2 1 ∧ es.map RE.ke = rs.map RR.ke ∧ KeyOff es rs) l0 ⟨0, none, none, [], [], by omega, rfl, ⟨hR2.fr0 f3, hS3, hA3, f03, by omega, by omega, by omega, by omega⟩, rfl, fun z ⟨e, he, _⟩ => by simp at he⟩ ?_
  rintro k us rr w5 I μ hgo ⟨i, p, q, es, rs, hi, rfl, hB5, hm5, hoff⟩
  refine ⟨_, _, _, _, _, _, _, _, rfl, cond_d (fun g2 => ?_) fun _ => ?_⟩
  · obtain ⟨x, g, o, hx, hxm, ha, hld, _⟩ := rcallAt (c0 := c0) (h0.fr0 hB5.f) hl0 (i := i) (by omega)
    refine ⟨_, ha, _, _, _, _, _, hld, ?_⟩
    have hxa := hok x hxm
    refine Do19x_c hB5.R (by omega) hB5.S hB5.A (hxa.fr0 hB5.f) (fun w' f => hxa.1.fr0 (hB5.R.news hB5.f f hB5.b0 hB5.l0)) (hfew.2 x hxm) fun w6 p6 es6 q6 rs6 bb f6 hR6 hS6 hA6 _ _ _ ho6 hm6 hn6 _ => ⟨_, rfl, ?_⟩
    have hl60 : cs.length ≤ 60 := hfew.1
    have ew : IntKind.i64.wrap ((i : Int) + 1) = ((i + 1 : Nat) : Int) := by rw [wrap64 (by omega) (by omega)]; omega
    rw [ew]
    exact hgo _ _ _ (k - 1) (by omega) ⟨i + 1, p6, q6, es6, rs6, by omega, rfl, ⟨hR6, hS6, hA6, hB5.step f6, hB5.b0, hB5.l0, hB5.r0, hB5.m0⟩, by rw [hm6, hn6, hm5], ho6 hoff⟩
  · exact hk b p es lo r q rs lo2 w5 hB5 hm5 hoff
end
end Go.Sh
end

section
namespace Go.Sh
open Go Go.Fw Go.Proofs
set_option maxRecDepth 100000
set_option linter.unusedVariables false
theorem seal_congr {ks : List KE} {s : Int} {nonce client : List UInt8} {f g : TF} (h1 : f.exp = g.exp) (h2 : f.od = g.od) (h3 : f.sc = g.sc) : sealE ks s nonce client f = sealE ks s nonce client g ∧ sealL ks s nonce client f = sealL ks s nonce client g := by
  have e1 : textL f = textL g := textL_congr h1 h2 h3
  have e2 : longF f ↔ longF g := longF_congr h2 h3
  have e3 : sealE ks s nonce client f = sealE ks s nonce client g := by unfold sealE; simp only [e2]
  exact ⟨e3, by unfold sealL; rw [e3, e1]⟩
theorem open20a : openU ks20 [9] (sealL ks20 5 z12 [9] f20) 100 = f20.ut 0 := by rw [open_seal seal20 (by omega) (by decide), if_neg (by decide)]
theorem open20b : openU ks20 [9] (sealL ks20 5 z12 [9] f20) 101 = .bad 20 := by rw [open_seal seal20 (by omega) (by decide), if_pos (by decide)]
theorem open20c : openU ks20 [] (List.replicate 29 0) 0 = .bad 17 := by kernel_rfl
theorem len20 : (sealL ks20 5 z12 [9] f20).length = 42 := by rw [(seal_len seal20).2, text20]; rfl
theorem untx20 : untx t20 = f20.ut 0 := by rw [← text20]; exact untx_text (by decide) (by decide)
theorem untx20b : untx (t20.take 6) = .bad 12 := by kernel_rfl
theorem seq20 : seqT (sealL ks20 5 z12 [9] f20) = (5, true) := by rw [sealL20]; rfl
theorem ut_inj {f g : TF} {e : Int} (h : f.ut (g.ut e).e = g.ut e) : f.exp = g.exp ∧ f.od = g.od ∧ f.sc = g.sc := by
  unfold TF.ut at h
  injection h with _ h1 h2 h3
  exact ⟨h1, h2, h3⟩
section
variable {w : World} {K : Value → World → Prop}
set_option maxHeartbeats 8000000 in
theorem alive20_c (h : ∀ w', Fr [] w w' → K (.bool true) w') : callF Tryz.prog F_law20_alive #[] w K := by
  apply law20_alive_call
  unfold law20_alive
  refine ringNew_c fun w1 f1 hR1 s1 => ⟨_, rfl, _, _, ptrNil (by kernel_rfl), cond_f ?_⟩
  obtain ⟨b, hb⟩ : ∃ b, b = w.heap.size := ⟨_, rfl⟩
  rw [← hb] at hR1 ⊢
  refine mkN (n := 16) (c := 16) (by omega) (by omega) fun kp w2 f2 hO2 s2 => ?_
  have hR2 := (hR1.fr0 f2).reset
  have hZ : (List.replicate 16 0 : List UInt8) = Z16 := rfl
  rw [hZ] at hO2
  obtain ⟨lo, hlo⟩ : ∃ lo, lo = w2.heap.size := ⟨_, rfl⟩
  rw [← hlo] at hR2
  have f02 := f1.then f2
  refine ringInstall2_c (s := 5) hR2 (by omega) hO2.row hO2.2.1 hO2.cap fun w4 p es f4 hR4 _ _ hm => ⟨_, rfl, ?_⟩
  have hm : es.map RE.ke = ks20 := hm.trans (by rfl)
  have m02 := f02.size
  have f04 := hR2.news f02 f4 (by omega) (by omega)
  have m04 := f04.size
  refine cond_fl (by decide) ?_
  obtain ⟨m, hmm⟩ : ∃ m, m = w4.heap.size := ⟨_, rfl⟩
  have hin : ∀ z, inR es z → w.heap.size ≤ z ∧ z < m := fun z ⟨e, he, h1, h2⟩ => by have := (hR4.ent e he).2.1; have := (hR4.ent e he).1.lh; omega
  have hno : ∀ z, m ≤ z → ¬ inR es z := fun z hz hh => by have := hin z hh; omega
  have step : ∀ {wa wb : World} {L : List Nat}, (∀ z ∈ L, inR es z) → Fr L wa wb → FrM w.heap.size m wa wb := fun hL f => FrM.of f fun z hz => hin z (hL z hz)
  unfold law20_alive_j1
  refine mkL (n := 2) (xs := [1, 2]) rfl rfl (by kernel_rfl) fun p5 w5 f5 hO5 s5 => ?_
  refine mkL (n := 1) (xs := [3]) rfl rfl (by kernel_rfl) fun p6 w6 f6 hO6 s6 => ?_
  obtain ⟨u, hu⟩ : ∃ u : TF, u = ⟨100, [1, 2], [3], p5, 2, p6, 1⟩ := ⟨_, rfl⟩
  have hua : (.agg #[.int .u64 100, .slice p5 2 2, .slice p6 1 1] : Value) = u.a := by rw [hu]; rfl
  rw [hua]
  refine putT u fun w7 f7 hT7 => ?_
  obtain ⟨k2, hk2⟩ : ∃ k, k = w6.heap.size := ⟨_, rfl⟩
  rw [← hk2] at hT7 ⊢
  have m5 := f5.size; have m6 := f6.size; have m7 := f7.size
  have hU7 : TF.own w7 u m := by rw [hu]; exact ⟨((hO5.fr0 f6).fr0 f7).mono (by omega), (hO6.fr0 f7).mono (by omega), by show 100 < _; omega⟩
  refine mkN (n := 12) (c := 12) (by omega) (by omega) fun pn w8 f8 hO8 s8 => ?_
  have hz12 : (List.replicate 12 0 : List UInt8) = z12 := rfl
  rw [hz12] at hO8
  refine mkL (n := 1) (xs := [9]) rfl rfl (by kernel_rfl) fun p9 w9 f9 hO9 s9 => ?_
  have m8 := f8.size
  have f79 := f8.then f9
  have hR9 := (((hR4.fr0 f5).fr0 f6).fr0 f7).fr0 f79
  have hO8' : OB w9 pn 12 12 z12 m := (hO8.fr0 f9).mono (by omega)
  have hs1 := seal_congr (ks := ks20) (s := 5) (nonce := z12) (client := [9]) (f := u) (g := f20) (by rw [hu]; rfl) (by rw [hu]; rfl) (by rw [hu]; rfl)
  refine ⟨_, _, _, _, _, _, _, (hT7.fr0 f79).ldF, tokSeal_c (s := 5) hR9 (by omega) hO8'.row hO8'.2.1 (by omega) (by omega) (fun _ z hz => hno z (hO8'.2.2 z hz)) hO9.row rfl (by omega) (by omega) (hU7.fr0 f79).ok fun qT dT L10 w10 hL10 f10 hR10 hO10 => ⟨_, _, _, _, rfl, ?_⟩⟩
  rw [hm, hs1.1, hs1.2]
  rw [hm, hs1.2] at hO10
  obtain ⟨T, hT⟩ : ∃ T, T = sealL ks20 5 z12 [9] f20 := ⟨_, rfl⟩
  have o1 := open20a; have o2 := open20b; have o3 := bad20; have o4 := len20; have o5 := seq20
  rw [← hT] at o1 o2 o3 o4 o5 hO10 ⊢
  have g910 := step hL10 f10
  have m9 := f9.size; have m10 := f10.size
  have hO10m := hO10.mono (show m ≤ w9.heap.size by omega)
  have hqT : 0 < T.length → ∀ z ∈ blks qT, ¬ inR es z := fun _ z hz => hno z (hO10m.2.2 z hz)
  refine mkL (n := 1) (xs := [9]) rfl rfl (by kernel_rfl) fun p11 w11 f11 hO11 s11 => ?_
  refine tokOpen_c (now := 100) (hR10.fr0 f11) (by omega) hO11.row rfl (by omega) (by omega) (hO10m.fr0 f11).row rfl hO10.cap (by omega) hqT fun u1 L12 w12 hL12 f12 hR12 hU12 hu1 => ⟨_, _, _, _, _, _, _, _, rfl, ?_⟩
  rw [hm, o1] at hu1
  rw [hm, o1]
  have g1012 := (FrM.of0 (a := w.heap.size) (m := m) f11).trans (step hL12 f12)
  have m1012 := g1012.size
  refine putT u1 fun w13 f13 hT13 => ?_
  obtain ⟨k6, hk6⟩ : ∃ k, k = w12.heap.size := ⟨_, rfl⟩
  rw [← hk6] at hT13 ⊢
  refine mkL (n := 1) (xs := [9]) rfl rfl (by kernel_rfl) fun p14 w14 f14 hO14 s14 => ?_
  have g1014 := (g1012.then f13).then f14
  refine tokOpen_c (now := 101) ((hR12.fr0 f13).fr0 f14) (by omega) hO14.row rfl (by omega) (by omega) (hO10m.frM g1014 (Nat.le_refl _)).row rfl hO10.cap (by omega) hqT fun u2 L15 w15 hL15 f15 hR15 hU15 hu2 => ⟨_, _, _, _, _, _, _, _, rfl, ?_⟩
  rw [hm, o2]
  have g1415 := step hL15 f15
  refine putT u2 fun w16 f16 hT16 => ?_
  refine mkL (n := 1) (xs := [8]) rfl rfl (by kernel_rfl) fun p17 w17 f17 hO17 s17 => ?_
  have g1417 := (g1415.then f16).then f17
  have g1017 := g1014.trans g1417
  refine tokOpen_c (now := 0) ((hR15.fr0 f16).fr0 f17) (by omega) hO17.row rfl (by omega) (by omega) (hO10m.frM g1017 (Nat.le_refl _)).row rfl hO10.cap (by omega) hqT fun u3 L18 w18 hL18 f18 hR18 hU18 hu3 => ⟨_, _, _, _, _, _, _, _, rfl, ?_⟩
  rw [hm, o3]
  have g1718 := step hL18 f18
  refine putT u3 fun w19 f19 hT19 => ?_
  have g1019 := (g1017.trans g1718).then f19
  have g919 := g910.trans g1019
  have hT9 := hT7.fr0 f79
  have hmk2 : m ≤ k2 := by omega
  have hT19' := hT9.frM g919 hmk2
  have hU19 := (hU7.fr0 f79).frM g919 (Nat.le_refl _)
  have hO819 := hO8'.frM g919 (Nat.le_refl _)
  refine ⟨_, _, _, _, _, _, _, hT19'.ldF, tokSeal_c (s := 6) (client := []) (hR18.fr0 f19) (by omega) hO819.row hO8'.2.1 (by omega) (by omega) (fun _ z hz => hno z (hO8'.2.2 z hz)) (Row.nil _ _) rfl (by omega) (by omega) hU19.ok fun q20 d20 L20 w20 hL20 f20' hR20 hO20 => ⟨_, _, _, _, rfl, ?_⟩⟩
  have e17 : sealE ks20 6 z12 [] u = 17 := by unfold sealE; rw [if_pos (by decide)]
  rw [hm, e17]
  have g1920 := step hL20 f20'
  refine mkN (n := 29) (c := 29) (by omega) (by omega) fun p21 w21 f21 hO21 s21 => ?_
  have m20 := f20'.size
  have hm20 : m ≤ w20.heap.size := by have := g919.size; omega
  refine tokOpen_c (now := 0) (client := []) (hR20.fr0 f21) (by omega) (Row.nil _ _) rfl (by omega) (by omega) hO21.row hO21.2.1 hO21.cap (by omega) (fun _ z hz => hno z (by have := hO21.2.2 z hz; omega)) fun u4 L22 w22 hL22 f22 hR22 hU22 hu4 => ⟨_, _, _, _, _, _, _, _, rfl, ?_⟩
  rw [hm, open20c]
  have g1922 := (g1920.then f21).trans (step hL22 f22)
  refine putT u4 fun w24 f24 hT24 => ?_
  have g1924 := g1922.then f24
  have g924 := g919.trans g1924
  have hT24' := hT9.frM g924 hmk2
  have hU24 := (hU7.fr0 f79).frM g924 (Nat.le_refl _)
  have htr : textR u = t20 := by
    have : textL u = t20 := by rw [hu]; exact text20
    unfold textR
    rw [if_neg (by rw [hu]; unfold longF; simp), this]
  have hte : textE u = 0 := by unfold textE; rw [if_neg (by rw [hu]; unfold longF; simp)]
  refine ⟨_, _, _, _, _, _, _, hT24'.ldF, tokText_c hU24.ok fun q25 d25 w25 f25 hO25 => ⟨_, _, _, _, rfl, ?_⟩⟩
  rw [htr] at hO25
  rw [htr, hte]
  refine tokUntext_c hO25.row rfl hO25.cap (by decide) fun u5 w26 f26 hU26 hu5 => ⟨_, _, _, _, _, _, _, _, rfl, ?_⟩
  rw [untx20] at hu5
  rw [untx20]
  refine putT u5 fun w28 f28 hT28 => ?_
  obtain ⟨k18, hk18⟩ : ∃ k, k = w26.heap.size := ⟨_, rfl⟩
  rw [← hk18] at hT28 ⊢
  have f2528 := f26.then f28
  have e6 : IntKind.i64.wrap (Int.tdiv ((t20.length : Nat) : Int) 2) = ((6 : Nat) : Int) := by decide
  rw [e6]
  refine slTo (hO25.fr0 f2528).row rfl (n := 6) (by decide) hO25.cap fun q29 d29 hq29 hl29 hd29 hb29 => ?_
  refine tokUntext_c hq29 hl29 hd29 (by decide) fun u6 w30 f30 hU30 hu6 => ⟨_, _, _, _, _, _, _, _, rfl, ?_⟩
  rw [untx20b]
  refine putT u6 fun w31 f31 hT31 => ?_
  have f2431 := f25.then (f2528.then (f30.then f31))
  have g1031 := ((g1019.trans g1924).then f2431)
  refine tokSeq_c (hO10m.frM g1031 (Nat.le_refl _)).row rfl ⟨_, _, rfl, ?_⟩
  rw [o5]
  refine mkL (n := 1) (xs := [128]) rfl rfl (by kernel_rfl) fun p33 w33 f33 hO33 s33 => ?_
  refine tokSeq_c hO33.row rfl ⟨_, _, rfl, ?_⟩
  have es128 : seqT [128] = (0, false) := by decide
  rw [es128, seal20]
  refine cond_tr (by rfl) (cond_tr (by rfl) (cond_tr (by rfl) (cond_tr (by rfl) (cond_tr (by rfl) (cond_tr (by rfl) (cond_tr (by rfl) (cond_tr (by rfl) (cond_tr (by rfl) (cond_tr (by rfl) (cond_tr (by rfl) (cond_tr (by rfl) ?_)))))))))))
  rw [o4]
  refine cond_tr (by rfl) ?_
  have f2433 := f2431.then f33
  have g1233 : FrM w.heap.size m w13 w33 := (((((FrM.of0 f14).trans g1417).trans g1718).then f19).trans g1924).then f2433
  have hmk6 : m ≤ k6 := by have := g910.size; have := m1012; omega
  have hT633 := hT13.frM g1233 hmk6
  have hT233 := hT24'.fr0 f2433
  have hU233 := hU24.fr0 f2433
  have m11 := f11.size
  have hU133 := (hU12.fr0 f13).frM g1233 (show m ≤ w11.heap.size by have := g910.size; omega)
  obtain ⟨a1, a2, a3⟩ := ut_inj hu1
  obtain ⟨b1, b2, b3⟩ := ut_inj hu5
  have c1 : u.exp = 100 := by rw [hu]
  have c2 : u.od = [1, 2] := by rw [hu]
  have c3 : u.sc = [3] := by rw [hu]
  refine ⟨_, _, _, _, _, _, _, hT633.ldF, _, _, _, _, _, _, _, hT233.ldF, tokSame_c hU133.ok hU233.ok fun w35 f35 => ⟨_, rfl, ?_⟩⟩
  rw [decide_eq_true ⟨by rw [a1, c1]; rfl, by rw [a2, c2]; rfl, by rw [a3, c3]; rfl⟩]
  have f2835 := (f30.then f31).then (f33.then f35)
  refine cond_t ⟨_, _, _, _, _, _, _, (hT28.fr0 f2835).ldF, _, _, _, _, _, _, _, (hT233.fr0 f35).ldF, tokSame_c ((hU26.fr0 f28).fr0 f2835).ok (hU233.fr0 f35).ok fun w36 f36 => ⟨_, rfl, ?_⟩⟩
  rw [decide_eq_true ⟨by rw [b1, c1]; rfl, by rw [b2, c2]; rfl, by rw [b3, c3]; rfl⟩]
  have f3336 := f35.then f36
  refine cond_t ⟨_, _, _, _, _, _, _, (hT633.fr0 f3336).ldF, tokSame_c (g := tf0) (hU133.fr0 f3336).ok (tf0_own _ 0).ok fun w37 f37 => ⟨_, rfl, ?_⟩⟩
  rw [decide_eq_false (fun hh => by rw [a1] at hh; exact absurd hh.1 (by decide))]
  refine cond_t (mkL (n := 13) (xs := t20) rfl rfl (by kernel_rfl) fun p38 w38 f38 hO38 s38 => ?_)
  have f2538 := ((f2528.then f2835).then f36).then (f37.then f38)
  refine SameBytes_c (hO25.fr0 f2538).row rfl hO38.row rfl (by decide) fun w39 f39 => ⟨_, rfl, ?_⟩
  rw [decide_eq_true rfl]
  have g439 : FrM w.heap.size m w4 w39 := ((((FrM.of0 (((f5.then f6).then f7).then f79)).trans g924).then f25).then f2538).then f39
  exact h w39 (g439.news f04 (Nat.le_refl _))
end
end Go.Sh
end

section
namespace Go.Sh
open Go Go.Fw Go.Proofs
set_option maxRecDepth 100000
set_option linter.unusedVariables false
theorem sealL_le (ks : List KE) (s : Int) (nonce client : List UInt8) (f : TF) : (sealL ks s nonce client f).length ≤ 100 := by
  by_cases h : sealE ks s nonce client f = 0
  · obtain ⟨⟨_, _, _, h4⟩, h5⟩ := seal_len h
    rw [h5, textL_len]
    unfold longF at h4; omega
  · unfold sealL; rw [if_neg h]; simp
theorem textR_le (f : TF) : (textR f).length ≤ 50 := by
  unfold textR
  split
  · simp
  · rename_i h; rw [textL_len]; unfold longF at h; omega
section
variable {w : World} {K : Value → World → Prop}
theorem RingAt.notIn {w1 : World} {b lo : Nat} {p q : Option Addr} {es : List RE} {N : Int} {xs : List UInt8} (hR : RingAt w1 b p es N lo) (h : Row w q (xs.map vb)) (hl : w.heap.size ≤ lo) : 0 < xs.length → ∀ z ∈ blks q, ¬ inR es z := fun h0 z hz ⟨e, he, h1, h2⟩ => by
  have := rowLt h hl h0 z hz; have := (hR.ent e he).2.1; omega
theorem fields_of {w : World} {cs : Array Value} (h : DecL w [.int .u64, .bytes, .bytes] cs.toList) : ∃ f : TF, TF.ok w f ∧ cs = #[.int .u64 (f.exp : Int), .slice f.p1 f.od.length f.c1, .slice f.p2 f.sc.length f.c2] := by
  obtain ⟨a1, r1, e1, ⟨n, rfl, hn⟩, a2, r2, e2, ⟨q, xs, c, rfl, hc, _, hR⟩, a3, r3, e3, ⟨q2, ys, c2, rfl, hc2, _, hR2⟩, rfl⟩ := h
  have hn' : 0 ≤ n ∧ n < 18446744073709551616 := by
    simp [Lit.wf, IntKind.min, IntKind.max, IntKind.bits, IntKind.signed] at hn; omega
  obtain ⟨m, rfl⟩ := Int.eq_ofNat_of_zero_le hn'.1
  refine ⟨⟨m, xs, ys, q, c, q2, c2⟩, ⟨hR, hc, hR2, hc2, by show m < _; omega⟩, ?_⟩
  apply Array.ext'
  rw [e1, e2, e3]
  simp
set_option maxHeartbeats 4000000 in
theorem TokenSeals_c {p0 p2 p3 : Option Addr} {l0 c0 l2 c2 l3 c3 : Nat} {cs : List RC} {seq : Int} {nonce client : List UInt8} {f : TF} (h0 : Row w p0 (cs.flatMap RC.v)) (hok : ∀ x ∈ cs, RC.ok w x) (hl0 : l0 = cs.length)
    (h2 : Row w p2 (nonce.map vb)) (hl2 : l2 = nonce.length) (hc2 : l2 ≤ c2) (h3 : Row w p3 (client.map vb)) (hl3 : l3 = client.length) (hc3 : l3 ≤ c3) (hf : TF.ok w f) (h : ∀ w', Fr [] w w' → K (.bool true) w') :
    callF Tryz.prog F_law20_TokenSeals #[.slice p0 l0 c0, .int .i64 seq, .slice p2 l2 c2, .slice p3 l3 c3, f.a] w K := by
  apply law20_TokenSeals_call
  unfold law20_TokenSeals
  refine newT f fun w1 f1 hT1 s1 => ?_
  obtain ⟨k9, hk9⟩ : ∃ k, k = w.heap.size := ⟨_, rfl⟩
  rw [← hk9] at hT1 ⊢
  refine alive20_c fun w2 f2 => ⟨_, rfl, cond_f ?_⟩
  have f02 := f1.then f2
  refine Great19_c (h0.fr0 f02) hl0 ⟨_, rfl, cond_t (h w2 f02)⟩ fun hfew => ⟨_, rfl, cond_f ?_⟩
  refine cond_d (fun _ => h w2 f02) fun g2 => cond_d (fun _ => h w2 f02) fun g3 => ?_
  refine ⟨_, _, _, _, _, _, _, (hT1.fr0 f2).ldF, long20_c fun w3 bb f3 hbb => ⟨_, rfl, ?_⟩⟩
  have f03 := f02.then f3
  cases bb with
  | true => exact cond_t (h w3 f03)
  | false =>
    obtain ⟨hb1, hb2⟩ := hbb rfl
    refine cond_f ?_
    unfold law20_TokenSeals_j1
    refine rings20_c (h0.fr0 f03) (fun x hx => (hok x hx).fr0 f03) hl0 hfew fun b p es lo r q rs lo2 w4 hB hm hko => ⟨_, _, rfl, _, _, ptrNil (by kernel_rfl), cond_f ?_⟩
    have f04 := f03.then hB.f
    have n03 := f03.size
    have hll : w.heap.size ≤ lo := by have := hB.l0; omega
    refine CopyOB_c (h3.fr0 f04) hl3 (by omega) fun qo do_ w5 f5 hO5 => ⟨_, _, _, rfl, ?_⟩
    have hB5 := hB.fr0 f5
    have f05 := f04.then f5
    have hT5 := hT1.fr0 (f2.then (f3.then hB5.f))
    refine ⟨_, _, _, _, _, _, _, hT5.ldF, tokSeal_c (s := seq) hB5.R (by omega) (h2.fr0 f05) hl2 hc2 (by omega) (hB5.R.notIn h2 hll) hO5.row hO5.2.1 hO5.cap (by omega) (hf.fr0 f05) fun qs ds L w6 hL f6 hR6 hO6 => ⟨_, _, _, _, rfl, ?_⟩⟩
    have hB6 := hB5.box hL f6 hR6 hko
    have hT6 := hT1.fr0 (f2.then (f3.then hB6.f))
    have f06 := f03.then hB6.f
    refine ⟨_, _, _, _, _, _, _, hT6.ldF, of20_c (hf.fr0 f06) (by omega) (by omega) fun u w7 f7 hU7 u1 u2 u3 => ?_⟩
    obtain ⟨e1, e2⟩ := seal_congr (ks := rs.map RR.ke) (s := seq) (nonce := nonce) (client := client) u1 u2 u3
    refine ⟨_, _, _, _, _, _, _, rfl, ?_⟩
    have f07 := f06.then f7
    refine refSeal_c (f := u) (hB6.S.fr0 f7) (fun hs => ?_) (h2.fr0 f07) hl2 (h3.fr0 f07) hl3 (by omega) hU7.ok fun qr dr w8 f8 hO8 => ⟨_, _, _, _, rfl, ?_⟩
    · rw [← hm] at hs
      obtain ⟨e, _, he, hem⟩ := hB6.R.sq hs
      have := (hB6.R.ent e hem).2.2
      omega
    rw [e1, e2, ← hm]
    rw [e2, ← hm] at hO8
    have hle := sealL_le (es.map RE.ke) seq nonce client f
    have f68 := f7.then f8
    refine cond_eq (fun _ => ?_) fun hh => absurd rfl hh
    refine SameBytes_c (hO6.fr0 f68).row rfl hO8.row rfl (by omega) fun w9 f9 => ⟨_, rfl, ?_⟩
    rw [decide_eq_true rfl]
    have n5 := f5.size
    have hO59 : OB w9 qo l3 do_ client w4.heap.size := by
      have hx := hO5.fr f6 fun k hk hm2 => by
        obtain ⟨e, he, _, h2⟩ := hL k hm2
        have := (hB.R.ent e he).1.lh; have := hO5.2.2 k hk; omega
      exact hx.fr0 (f68.then f9)
    have f09 := f06.then (f68.then f9)
    refine cond_t (SameBytes_c hO59.row hO5.2.1 (h3.fr0 f09) hl3 (by omega) fun w10 f10 => ⟨_, rfl, ?_⟩)
    rw [decide_eq_true rfl]
    exact h w10 (f09.then f10)
set_option maxHeartbeats 4000000 in
theorem TokenOpens_c {p0 p1 p2 : Option Addr} {l0 c0 l1 c1 l2 c2 now : Nat} {cs : List RC} {client tok : List UInt8} (h0 : Row w p0 (cs.flatMap RC.v)) (hok : ∀ x ∈ cs, RC.ok w x) (hl0 : l0 = cs.length)
    (h1 : Row w p1 (client.map vb)) (hl1 : l1 = client.length) (hc1 : l1 ≤ c1) (h2 : Row w p2 (tok.map vb)) (hl2 : l2 = tok.length) (hc2 : l2 ≤ c2) (h : ∀ w', Fr [] w w' → K (.bool true) w') :
    callF Tryz.prog F_law20_TokenOpens #[.slice p0 l0 c0, .slice p1 l1 c1, .slice p2 l2 c2, .int .u64 (now : Int)] w K := by
  apply law20_TokenOpens_call
  unfold law20_TokenOpens
  refine alive20_c fun w2 f02 => ⟨_, rfl, cond_f ?_⟩
  refine Great19_c (h0.fr0 f02) hl0 ⟨_, rfl, cond_t (h w2 f02)⟩ fun hfew => ⟨_, rfl, cond_f ?_⟩
  refine cond_d (fun _ => h w2 f02) fun g2 => cond_d (fun _ => h w2 f02) fun g3 => ?_
  unfold law20_TokenOpens_j1
  refine rings20_c (h0.fr0 f02) (fun x hx => (hok x hx).fr0 f02) hl0 hfew fun b p es lo r q rs lo2 w4 hB hm hko => ⟨_, _, rfl, _, _, ptrNil (by kernel_rfl), cond_f ?_⟩
  have f04 := f02.then hB.f
  have n02 := f02.size
  have hll : w.heap.size ≤ lo := by have := hB.l0; omega
  refine CopyOB_c (h2.fr0 f04) hl2 (by omega) fun qo do_ w5 f5 hO5 => ⟨_, _, _, rfl, ?_⟩
  have hB5 := hB.fr0 f5
  have f05 := f04.then f5
  have n5 := f5.size
  have hoff : ∀ z ∈ blks qo, ¬ inR es z := fun z hz ⟨e, he, _, h2⟩ => by have := (hB.R.ent e he).1.lh; have := hO5.2.2 z hz; omega
  refine tokOpen_c (now := now) hB5.R (by omega) (h1.fr0 f05) hl1 hc1 (by omega) hO5.row hO5.2.1 hO5.cap (by omega) (fun _ => hoff) fun u L w6 hL f6 hR6 hU6 hu => ⟨_, _, _, _, _, _, _, _, rfl, ?_⟩
  have hB6 := hB5.box hL f6 hR6 hko
  have f06 := f02.then hB6.f
  refine putT u fun w7 f7 hT7 => ?_
  obtain ⟨k12, hk12⟩ : ∃ k, k = w6.heap.size := ⟨_, rfl⟩
  rw [← hk12] at hT7 ⊢
  have f07 := f06.then f7
  refine refOpen_c (now := now) (hB6.S.fr0 f7) (h1.fr0 f07) hl1 (by omega) (h2.fr0 f07) hl2 hc2 (by omega) fun v w8 f8 hV8 hv => ⟨_, _, _, _, _, _, _, _, rfl, ?_⟩
  refine putG v fun w9 f9 hT9 => ?_
  obtain ⟨k14, hk14⟩ : ∃ k, k = w8.heap.size := ⟨_, rfl⟩
  rw [← hk14] at hT9 ⊢
  rw [← hm] at hv ⊢
  have hT79 := (hT7.fr0 f8).fr0 f9
  have f79 := f8.then f9
  refine ⟨fun w' => TAt w' k12 u ∧ TAt w' k14 v, Drw.intro fun w10 fa sa => ?_⟩
  have hSS : TAt w10 k12 u ∧ TAt w10 k14 v := ⟨hT79.fr0 fa, hT9.fr0 fa⟩
  refine cond_eq (fun _ => ?_) fun hh => absurd rfl hh
  refine ⟨_, _, _, _, _, _, _, ⟨hSS, fun w' hw' => hw'.1.ldF⟩, _, _, _, _, _, _, _, ⟨hSS, fun w' hw' => hw'.2.ldG⟩, ?_⟩
  have f710 := f79.then fa
  have huv : u.ut (openU (es.map RE.ke) client tok now).e = v.ut (openU (es.map RE.ke) client tok now).e := hu.trans hv.symm
  unfold TF.ut at huv
  injection huv with _ x1 x2 x3
  have hul : u.od.length ≤ 300 ∧ u.sc.length ≤ 300 := by
    have hb : ∀ t : UT, (t = untx (unsL (es.map RE.ke) client tok) ∨ ∃ e, t = .bad e) → t.od.length ≤ 300 ∧ t.sc.length ≤ 300 := by
      rintro t (rfl | ⟨e, rfl⟩)
      · unfold untx
        split
        · simp [UT.bad]
        · split
          · simp [UT.bad]
          · rename_i hh
            show (shortP _).1.length ≤ 300 ∧ (shortP _).1.length ≤ 300
            omega
      · simp [UT.bad]
    have ho : openU (es.map RE.ke) client tok now = untx (unsL (es.map RE.ke) client tok) ∨ ∃ e, openU (es.map RE.ke) client tok now = .bad e := by
      unfold openU
      split
      · exact .inr ⟨_, rfl⟩
      · split
        · exact .inr ⟨_, rfl⟩
        · split
          · exact .inr ⟨_, rfl⟩
          · exact .inl rfl
    have := hb _ ho
    rw [← hu] at this
    exact this
  refine of20_c ((hU6.fr0 f7).fr0 f710).ok (by omega) (by omega) fun u2 w11 f11 hU11 y1 y2 y3 => ⟨_, _, _, _, _, _, _, rfl, .inr ⟨hSS.1.fr0 f11, hSS.2.fr0 f11⟩, ?_⟩
  refine refTSame_c (f := u2) (g := v) hU11.ok ((hV8.fr0 f9).fr0 (fa.then f11)).ok fun w12 f12 => ⟨_, rfl, ?_⟩
  rw [decide_eq_true ⟨by rw [y1, x1], by rw [y2, x2], by rw [y3, x3]⟩]
  have f712 := f710.then (f11.then f12)
  have hO512 : OB w12 qo l2 do_ tok w4.heap.size := (hO5.fr f6 fun k hk hm2 => hoff k hk (hL k hm2)).fr0 (f7.then f712)
  have f012 := f07.then f712
  refine cond_t (SameBytes_c hO512.row hO5.2.1 (h2.fr0 f012) hl2 (by omega) fun w13 f13 => ⟨_, rfl, ?_⟩)
  rw [decide_eq_true rfl]
  exact h w13 (f012.then f13)
theorem Texts_j1_c {k3 k4 : Nat} {f o : TF} (h3 : TAt w k3 f) (h4 : TAt w k4 o) (hf : TF.ok w f) (ho : TF.ok w o) (b1 : f.od.length ≤ 300 ∧ f.sc.length ≤ 300) (b2 : o.od.length ≤ 300 ∧ o.sc.length ≤ 300) (h : ∀ w', Fr [] w w' → K (.bool true) w') :
    law20_TokenTexts_j1 ⟨k3, 0, none⟩ ⟨k4, 0, none⟩ false w K := by
  unfold law20_TokenTexts_j1
  refine ⟨fun w' => TAt w' k3 f ∧ TAt w' k4 o, Drw.intro fun w1 f1 s1 => ?_⟩
  have hS : TAt w1 k3 f ∧ TAt w1 k4 o := ⟨h3.fr0 f1, h4.fr0 f1⟩
  have kp : ∀ {w'}, Fr [] w1 w' → TAt w' k3 f ∧ TAt w' k4 o := fun {w'} f => ⟨hS.1.fr0 f, hS.2.fr0 f⟩
  refine ⟨_, _, _, _, _, _, _, ⟨hS, fun w' hw' => hw'.1.ldF⟩, _, _, _, _, _, _, _, ⟨hS, fun w' hw' => hw'.2.ldF⟩, _, _, _, _, _, _, _, ⟨hS, fun w' hw' => hw'.1.ldF⟩, _, _, _, _, _, _, _, ⟨hS, fun w' hw' => hw'.2.ldF⟩, ?_⟩
  refine tokSame_c (hf.fr0 f1) (ho.fr0 f1) fun w2 f2 => ⟨_, rfl, .inr (kp f2), ?_⟩
  have f02 := f1.then f2
  refine of20_c (hf.fr0 f02) (by omega) (by omega) fun u w3 f3 hU3 u1 u2 u3 => ⟨_, _, _, _, _, _, _, rfl, .inr (kp (f2.then f3)), ?_⟩
  have f03 := f02.then f3
  refine of20_c (ho.fr0 f03) (by omega) (by omega) fun v w4 f4 hV4 v1 v2 v3 => ⟨_, _, _, _, _, _, _, rfl, .inr (kp ((f2.then f3).then f4)), ?_⟩
  refine refTSame_c (f := u) (g := v) (hU3.fr0 f4).ok hV4.ok fun w5 f5 => ⟨_, rfl, .inr (kp (((f2.then f3).then f4).then f5)), ?_⟩
  rw [u1, u2, u3, v1, v2, v3]
  have f15 := ((f2.then f3).then f4).then f5
  have f05 := f1.then f15
  refine cond_tr (beq_self_eq_true _) ⟨_, _, _, _, _, _, _, ⟨kp f15, fun w' hw' => hw'.1.ldF⟩, _, _, _, _, _, _, _, (kp f15).1.ldF, .inl rfl, ?_⟩
  refine tokSame_c (hf.fr0 f05) (hf.fr0 f05) fun w6 f6 => ⟨_, rfl, ?_⟩
  rw [decide_eq_true ⟨rfl, rfl, rfl⟩]
  exact h w6 (f05.then f6)
theorem Texts_j2_c {p2 q : Option Addr} {l2 c2 d : Nat} {k3 k4 : Nat} {f o : TF} {b : List UInt8} (h2 : Row w p2 (b.map vb)) (hl2 : l2 = b.length) (hq : Row w q (b.map vb)) (h3 : TAt w k3 f) (h4 : TAt w k4 o) (hf : TF.ok w f) (ho : TF.ok w o) (b1 : f.od.length ≤ 300 ∧ f.sc.length ≤ 300) (b2 : o.od.length ≤ 300 ∧ o.sc.length ≤ 300) (h : ∀ w', Fr [] w w' → K (.bool true) w') :
    law20_TokenTexts_j2 p2 l2 c2 ⟨k3, 0, none⟩ ⟨k4, 0, none⟩ false q l2 d w K := by
  unfold law20_TokenTexts_j2
  have fin := Texts_j1_c h3 h4 hf ho b1 b2 h
  refine tokSeq_c hq hl2 ⟨_, _, rfl, ?_⟩
  by_cases h0 : b.length = 0
  · have e : seqT b = (0, false) := by unfold seqT; rw [if_pos (.inl h0)]
    rw [e]
    exact cond_d (fun hh => by omega) fun _ => cond_eq (fun _ => cond_f (cond_f fin)) fun hh => by omega
  · obtain ⟨a, ha, hca⟩ := row_get (t := T_S_uint8) (by kernel_rfl) h2 (c := c2) hl2 (i := 0) (by omega) (k := .i64)
    have hld : Ld Tryz.prog T_uint8 (.pointer (some a)) w (.int .u8 ((fl b 0).toNat : Int)) := Ld.cell (by kernel_rfl) hca
    have h256 := (fl b 0).toNat_lt
    refine cond_d (fun _ => ⟨_, ha, _, hld, ?_⟩) fun hh => by omega
    by_cases h128 : (fl b 0).toNat < 128
    · have e : seqT b = (((fl b 0).toNat : Int), true) := by unfold seqT; rw [if_neg (by omega)]
      rw [e]
      refine cond_d (fun _ => cond_f ⟨_, ha, _, hld, ?_⟩) fun hh => by omega
      rw [wrap64 (by omega) (by omega)]
      refine cond_ne (fun hh => absurd rfl hh) fun _ => cond_eq (fun hh => by omega) fun _ => ⟨_, ha, _, hld, cond_d (fun hh => by omega) fun _ => fin⟩
    · have e : seqT b = (0, false) := by unfold seqT; rw [if_pos (.inr (by omega))]
      rw [e]
      refine cond_d (fun hh => by omega) fun _ => cond_eq (fun hh => by omega) fun _ => ⟨_, ha, _, hld, cond_d (fun _ => cond_f (cond_f fin)) fun hh => by omega⟩
set_option maxHeartbeats 4000000 in
theorem TokenTexts_c {p2 : Option Addr} {l2 c2 : Nat} {f o : TF} {b : List UInt8} (hf : TF.ok w f) (ho : TF.ok w o) (h2 : Row w p2 (b.map vb)) (hl2 : l2 = b.length) (hc2 : l2 ≤ c2) (h : ∀ w', Fr [] w w' → K (.bool true) w') :
    callF Tryz.prog F_law20_TokenTexts #[f.a, o.a, .slice p2 l2 c2] w K := by
  apply law20_TokenTexts_call
  unfold law20_TokenTexts
  refine newT f fun w1 f1 hT1 s1 => newT o fun w2 f2 hT2 s2 => ?_
  obtain ⟨k3, hk3⟩ : ∃ k, k = w.heap.size := ⟨_, rfl⟩
  rw [← hk3] at hT1 ⊢
  obtain ⟨k4, hk4⟩ : ∃ k, k = w1.heap.size := ⟨_, rfl⟩
  rw [← hk4] at hT2 ⊢
  refine alive20_c fun w3 f3 => ⟨_, rfl, cond_f ?_⟩
  have f03 := (f1.then f2).then f3
  have hT13 := (hT1.fr0 f2).fr0 f3
  have hT23 := hT2.fr0 f3
  refine ⟨_, _, _, _, _, _, _, hT13.ldF, long20_c fun w4 bb f4 hbb => ⟨_, rfl, ?_⟩⟩
  have f04 := f03.then f4
  cases bb with
  | true => exact cond_t (h w4 f04)
  | false =>
  have b1 := hbb rfl
  refine cond_f ⟨_, _, _, _, _, _, _, (hT23.fr0 f4).ldF, long20_c fun w5 bb f5 hbb => ⟨_, rfl, ?_⟩⟩
  have f05 := f04.then f5
  cases bb with
  | true => exact cond_t (h w5 f05)
  | false =>
  have b2 := hbb rfl
  refine cond_f (cond_d (fun _ => h w5 f05) fun g2 => ?_)
  unfold law20_TokenTexts_j3
  have hT15 := (hT13.fr0 f4).fr0 f5
  have hT25 := (hT23.fr0 f4).fr0 f5
  refine ⟨_, _, _, _, _, _, _, hT15.ldF, tokText_c (hf.fr0 f05) fun qa da w6 f6 hO6 => ⟨_, _, _, _, rfl, ?_⟩⟩
  have f06 := f05.then f6
  refine ⟨_, _, _, _, _, _, _, (hT15.fr0 f6).ldF, of20_c (hf.fr0 f06) (by omega) (by omega) fun u w7 f7 hU7 u1 u2 u3 => ⟨_, _, _, _, _, _, _, rfl, ?_⟩⟩
  have eT : textR u = textR f ∧ textE u = textE f := by
    have e1 : textL u = textL f := textL_congr u1 u2 u3
    have e2 : longF u ↔ longF f := longF_congr u2 u3
    constructor
    · unfold textR; simp only [e2, e1]
    · unfold textE; simp only [e2]
  refine refText_c (f := u) hU7.ok fun qb db w8 f8 hO8 => ⟨_, _, _, _, rfl, ?_⟩
  rw [eT.1] at hO8
  rw [eT.1, eT.2]
  have f68 := f7.then f8
  have f08 := f06.then f68
  refine CopyOB_c (h2.fr0 f08) hl2 (by omega) fun qo do_ w9 f9 hO9 => ⟨_, _, _, rfl, ?_⟩
  refine tokUntext_c hO9.row hO9.2.1 hO9.cap (by omega) fun x w10 f10 hX10 hx => ⟨_, _, _, _, _, _, _, _, rfl, ?_⟩
  refine putT x fun w11 f11 hT11 => ?_
  obtain ⟨k12, hk12⟩ : ∃ k, k = w10.heap.size := ⟨_, rfl⟩
  rw [← hk12] at hT11 ⊢
  have f811 := (f9.then f10).then f11
  have f011 := f08.then f811
  refine refUntext_c (h2.fr0 f011) hl2 hc2 (by omega) fun y w12 f12 hY12 hy => ⟨_, _, _, _, _, _, _, _, rfl, ?_⟩
  refine putG y fun w13 f13 hT13' => ?_
  obtain ⟨k14, hk14⟩ : ∃ k, k = w12.heap.size := ⟨_, rfl⟩
  rw [← hk14] at hT13' ⊢
  have f1113 := f12.then f13
  refine ⟨fun w' => TAt w' k12 x ∧ TAt w' k14 y, Drw.intro fun w14 f14 s14 => ?_⟩
  have hSS : TAt w14 k12 x ∧ TAt w14 k14 y := ⟨(hT11.fr0 f1113).fr0 f14, hT13'.fr0 f14⟩
  have f1114 := f1113.then f14
  have f814 := f811.then f1114
  have htl := textR_le f
  refine cond_ne (fun hh => absurd rfl hh) fun _ => ?_
  refine SameBytes_c (hO6.fr0 (f68.then f814)).row rfl (hO8.fr0 f814).row rfl (by omega) fun w15 f15 => ⟨_, rfl, .inr ⟨hSS.1.fr0 f15, hSS.2.fr0 f15⟩, ?_⟩
  rw [decide_eq_true rfl]
  refine cond_f (cond_ne (fun hh => absurd rfl hh) fun _ => ?_)
  have hS15 : TAt w15 k12 x ∧ TAt w15 k14 y := ⟨hSS.1.fr0 f15, hSS.2.fr0 f15⟩
  refine ⟨_, _, _, _, _, _, _, ⟨hS15, fun w' hw' => hw'.1.ldF⟩, _, _, _, _, _, _, _, ⟨hS15, fun w' hw' => hw'.2.ldG⟩, ?_⟩
  have hxy : x.ut (untx b).e = y.ut (untx b).e := hx.trans hy.symm
  unfold TF.ut at hxy
  injection hxy with _ z1 z2 z3
  have hxl : x.od.length ≤ 300 ∧ x.sc.length ≤ 300 := by
    have hb : (untx b).od.length ≤ 300 ∧ (untx b).sc.length ≤ 300 := by
      unfold untx
      split
      · simp [UT.bad]
      · split
        · simp [UT.bad]
        · rename_i hh
          show (shortP _).1.length ≤ 300 ∧ (shortP _).1.length ≤ 300
          omega
    rw [← hx] at hb
    exact hb
  have f1115 := f1114.then f15
  refine of20_c ((hX10.fr0 f11).fr0 f1115).ok (by omega) (by omega) fun x2 w16 f16 hX16 y1 y2 y3 => ⟨_, _, _, _, _, _, _, rfl, .inr ⟨hS15.1.fr0 f16, hS15.2.fr0 f16⟩, ?_⟩
  refine refTSame_c (f := x2) (g := y) hX16.ok ((hY12.fr0 f13).fr0 ((f14.then f15).then f16)).ok fun w17 f17 => ⟨_, rfl, ?_⟩
  rw [decide_eq_true ⟨by rw [y1, z1], by rw [y2, z2], by rw [y3, z3]⟩]
  have f1117 := f1115.then (f16.then f17)
  have f017 := f011.then f1117
  have hO917 := hO9.fr0 ((f10.then f11).then f1117)
  refine cond_f (SameBytes_c hO917.row hO9.2.1 (h2.fr0 f017) hl2 (by omega) fun w18 f18 => ⟨_, rfl, ?_⟩)
  rw [decide_eq_true rfl]
  have f018 := f017.then f18
  have f518 := f6.then (f68.then (f811.then (f1117.then f18)))
  exact cond_f (Texts_j2_c (h2.fr0 f018) hl2 (hO917.fr0 f18).row (hT15.fr0 f518) (hT25.fr0 f518) (hf.fr0 f018) (ho.fr0 f018) b1 b2 fun w' f => h w' (f018.then f))
end
end Go.Sh
end

section
namespace Go.Sh
open Go Go.Fw Go.Proofs
set_option maxRecDepth 100000
set_option linter.unusedVariables false
theorem seal_inj {ks : List KE} {s : Int} {n1 n2 client : List UInt8} {f g : TF} (hs : 0 ≤ s ∧ s < 256) (h1 : sealE ks s n1 client f = 0) (h2 : sealE ks s n2 client g = 0) (hf : f.exp < 18446744073709551616) (hg : g.exp < 18446744073709551616)
    (h : sealL ks s n1 client f = sealL ks s n2 client g) : n1 = n2 ∧ f.exp = g.exp ∧ f.od = g.od ∧ f.sc = g.sc := by
  obtain ⟨⟨_, a2, a3, a4⟩, _⟩ := seal_len h1
  obtain ⟨⟨_, b2, b3, b4⟩, _⟩ := seal_len h2
  have e := h
  unfold sealL at e
  rw [if_pos h1, if_pos h2] at e
  have e2 := (List.cons.inj e).2
  have hn : n1 = n2 := (List.append_inj e2 (by omega)).1
  refine ⟨hn, ?_⟩
  have o1 := open_seal (now := 0) h1 hs hf
  have o2 := open_seal (now := 0) h2 hs hg
  rw [h, o2] at o1
  rw [if_neg (by omega), if_neg (by omega)] at o1
  unfold TF.ut at o1
  injection o1 with _ x1 x2 x3
  exact ⟨x1.symm, x2.symm, x3.symm⟩
theorem sealE_okE {ks : List KE} {s : Int} {nonce client : List UInt8} {f : TF} (h1 : nonce.length = 12) (h2 : client.length ≤ 64) (h3 : f.od.length ≤ 20 ∧ f.sc.length ≤ 20) : sealE ks s nonce client f = if hasK ks s then 0 else 17 := by
  unfold sealE
  by_cases h : hasK ks s
  · rw [if_neg (fun x => x h), if_neg (by omega), if_neg (by unfold longF; omega), if_pos h]
  · rw [if_pos h, if_neg h]
theorem seal_head {ks : List KE} {s : Int} {nonce client : List UInt8} {f : TF} (h : sealE ks s nonce client f = 0) (hs : 0 ≤ s ∧ s < 256) : ((fl (sealL ks s nonce client f) 0).toNat : Int) = s ∧ ((sealL ks s nonce client f).take 13).drop 1 = nonce := by
  obtain ⟨⟨_, h2, _, _⟩, _⟩ := seal_len h
  unfold sealL
  rw [if_pos h]
  constructor
  · show ((UInt8.ofNat s.toNat).toNat : Int) = s
    simp; omega
  · rw [List.take_succ_cons, List.drop_succ_cons, List.drop_zero, List.take_left' h2]
theorem retK_not {ks : List KE} {s : Int} (hpw : ks.Pairwise fun x y => x.sq ≠ y.sq) (h0 : retR ks s = 0) (hs : hasK ks s) : ¬ hasK (retK ks s) s := by
  unfold retK
  rw [if_pos h0]
  have hi : idxK ks s < ks.length := hs
  obtain ⟨e, he, hes⟩ := hasK_at hs
  have hei : ks[idxK ks s] = e := by rw [List.getElem?_eq_getElem hi] at he; exact Option.some.inj he
  apply idxK_no
  intro j hj x hx hxs
  have hxm := List.mem_of_getElem? hx
  rcases List.mem_append.1 hxm with hm | hm
  · obtain ⟨k, hk, hkx⟩ := List.getElem_of_mem hm
    rw [List.length_take] at hk
    rw [List.getElem_take] at hkx
    have := (List.pairwise_iff_getElem.1 hpw) k (idxK ks s) (by omega) hi (by omega)
    rw [hkx, hei] at this
    omega
  · obtain ⟨k, hk, hkx⟩ := List.getElem_of_mem hm
    rw [List.length_drop] at hk
    rw [List.getElem_drop] at hkx
    have := (List.pairwise_iff_getElem.1 hpw) (idxK ks s) (idxK ks s + 1 + k) hi (by omega) (by omega)
    rw [hkx, hei] at this
    omega
section
variable {w : World} {K : Value → World → Prop}
theorem RingAt.pwS {b lo : Nat} {p : Option Addr} {es : List RE} {N : Int} (h : RingAt w b p es N lo) : (es.map RE.ke).Pairwise fun x y => x.sq ≠ y.sq := by
  rw [List.pairwise_map]
  exact h.pw.imp fun hh => hh.2
theorem RingAt.sq0 {b lo : Nat} {p : Option Addr} {es : List RE} {N : Int} (h : RingAt w b p es N lo) {s : Int} (hs : hasK (es.map RE.ke) s) : 0 ≤ s ∧ s < 128 := by
  obtain ⟨e, _, he, hem⟩ := h.sq hs
  have := (h.ent e hem).2.2
  omega
set_option maxHeartbeats 8000000 in
theorem TokenBack_c {p0 p2 p3 : Option Addr} {l0 c0 l2 c2 l3 c3 now : Nat} {cs : List RC} {seq : Int} {nonce client : List UInt8} {f : TF} (h0 : Row w p0 (cs.flatMap RC.v)) (hok : ∀ x ∈ cs, RC.ok w x) (hl0 : l0 = cs.length)
    (h2 : Row w p2 (nonce.map vb)) (hl2 : l2 = nonce.length) (hc2 : l2 ≤ c2) (h3 : Row w p3 (client.map vb)) (hl3 : l3 = client.length) (hc3 : l3 ≤ c3) (hf : TF.ok w f) (h : ∀ w', Fr [] w w' → K (.bool true) w') :
    callF Tryz.prog F_law20_TokenBack #[.slice p0 l0 c0, .int .i64 seq, .slice p2 l2 c2, .slice p3 l3 c3, f.a, .int .u64 (now : Int)] w K := by
  apply law20_TokenBack_call
  unfold law20_TokenBack
  refine newT f fun w1 f1 hT1 s1 => ?_
  obtain ⟨k10, hk10⟩ : ∃ k, k = w.heap.size := ⟨_, rfl⟩
  rw [← hk10] at hT1 ⊢
  refine alive20_c fun w2 f2 => ⟨_, rfl, cond_f ?_⟩
  have f02 := f1.then f2
  refine Great19_c (h0.fr0 f02) hl0 ⟨_, rfl, cond_t (h w2 f02)⟩ fun hfew => ⟨_, rfl, cond_f ?_⟩
  have hT2 := hT1.fr0 f2
  refine cond_ne (fun _ => h w2 f02) fun g2 => cond_d (fun _ => h w2 f02) fun g3 => ⟨_, _, _, hT2.ldO, cond_d (fun _ => h w2 f02) fun g4 => ⟨_, _, _, hT2.ldS, cond_d (fun _ => h w2 f02) fun g5 => ?_⟩⟩
  have hlf : f.od.length ≤ 20 ∧ f.sc.length ≤ 20 := by omega
  have hnl : ¬ longF f := by unfold longF; omega
  unfold law20_TokenBack_j4
  have etE : textE f = 0 := by unfold textE; rw [if_neg hnl]
  have etR : textR f = textL f := by unfold textR; rw [if_neg hnl]
  have etl := textL_len f
  refine ⟨_, _, _, _, _, _, _, hT2.ldF, tokText_c (hf.fr0 f02) fun qa da w3 f3 hO3 => ⟨_, _, _, _, rfl, ?_⟩⟩
  rw [etR] at hO3
  rw [etR, etE]
  have hux := untx_text hnl hf.e
  refine tokUntext_c hO3.row rfl hO3.cap (by omega) fun u w4 f4 hU4 hu => ⟨_, _, _, _, _, _, _, _, rfl, ?_⟩
  rw [hux] at hu
  rw [hux]
  obtain ⟨u1, u2, u3⟩ := ut_inj hu
  refine putT u fun w5 f5 hT5 => ?_
  obtain ⟨k15, hk15⟩ : ∃ k, k = w4.heap.size := ⟨_, rfl⟩
  rw [← hk15] at hT5 ⊢
  have f25 := (f3.then f4).then f5
  have f05 := f02.then f25
  have hT25 := hT2.fr0 f25
  refine cond_f (cond_fl rfl ⟨_, _, _, _, _, _, _, hT5.ldF, _, _, _, _, _, _, _, hT25.ldF, tokSame_c (hU4.fr0 f5).ok (hf.fr0 f05) fun w6 f6 => ⟨_, rfl, ?_⟩⟩)
  rw [decide_eq_true ⟨u1, u2, u3⟩]
  have hT6 := hT25.fr0 f6
  have f06 := f05.then f6
  refine cond_f ⟨_, _, _, hT6.ldO, _, _, _, hT6.ldS, ?_⟩
  rw [wrap64 (n := 10 + (f.od.length : Int)) (by omega) (by omega), wrap64 (by omega) (by omega)]
  refine cond_ne (fun hh => by omega) fun _ => ?_
  unfold law20_TokenBack_j3
  refine rings20_c (h0.fr0 f06) (fun x hx => (hok x hx).fr0 f06) hl0 hfew fun b p es lo r q rs lo2 w7 hB hm hko => ⟨_, _, rfl, _, _, ptrNil (by kernel_rfl), cond_f ?_⟩
  have f07 := f06.then hB.f
  have n06 := f06.size
  have hll : w.heap.size ≤ lo := by have := hB.l0; omega
  have hT7 := hT6.fr0 hB.f
  refine ⟨_, _, _, _, _, _, _, hT7.ldF, tokSeal_c (s := seq) hB.R (by omega) (h2.fr0 f07) hl2 hc2 (by omega) (hB.R.notIn h2 hll) (h3.fr0 f07) hl3 hc3 (by omega) (hf.fr0 f07) fun qs ds L w8 hL f8 hR8 hO8 => ⟨_, _, _, _, rfl, ?_⟩⟩
  have hB8 := hB.box hL f8 hR8 hko
  have f08 := f06.then hB8.f
  have eE := sealE_okE (ks := es.map RE.ke) (s := seq) (nonce := nonce) (client := client) (f := f) (by omega) (by omega) hlf
  by_cases hs : hasK (es.map RE.ke) seq
  · rw [if_pos hs] at eE
    have hs0 := hR8.sq0 hs
    obtain ⟨T, hT⟩ : ∃ T, T = sealL (es.map RE.ke) seq nonce client f := ⟨_, rfl⟩
    have hlen := (seal_len eE).2
    have hhd := (seal_head eE (by omega)).1
    have hop := fun now => open_seal (now := now) eE (by omega) hf.e
    rw [← hT] at hlen hhd hop hO8 ⊢
    rw [eE]
    have n7 := hB.f.size; have n8 := f8.size
    refine cond_f (tokSeq_c hO8.row rfl ⟨_, _, rfl, ?_⟩)
    have esq : seqT T = (seq, true) := by unfold seqT; rw [if_neg (by omega), hhd]
    rw [esq]
    refine cond_f (cond_ne (fun hh => absurd rfl hh) fun _ => ?_)
    rw [wrap64 (by omega) (by omega)]
    refine cond_ne (fun hh => by omega) fun _ => ?_
    unfold law20_TokenBack_j2
    have hoff : ∀ z ∈ blks qs, ¬ inR es z := fun z hz ⟨e, he, _, h2⟩ => by have := (hB.R.ent e he).1.lh; have := hO8.2.2 z hz; omega
    refine tokOpen_c (now := now) hR8 (by omega) (h3.fr0 f08) hl3 hc3 (by omega) hO8.row rfl hO8.cap (by omega) (fun _ => hoff) fun v L9 w9 hL9 f9 hR9 hV9 hv => ⟨_, _, _, _, _, _, _, _, rfl, ?_⟩
    have hB9 := hB8.box hL9 f9 hR9 hko
    rw [hop] at hv ⊢
    have hO9 : OB w9 qs T.length ds T w7.heap.size := hO8.fr f9 fun k hk hm2 => hoff k hk (hL9 k hm2)
    refine putT v fun w10 f10 hT10 => ?_
    obtain ⟨k24, hk24⟩ : ∃ k, k = w9.heap.size := ⟨_, rfl⟩
    rw [← hk24] at hT10 ⊢
    have hB10 := hB9.fr0 f10
    have f010 := f06.then hB10.f
    have hT710 : TAt w10 k10 f := hT6.fr0 hB10.f
    have j1 : ∀ w', Fr [] w10 w' → law20_TokenBack_j1 seq p3 l3 c3 (now : Int) false (some ⟨b, 0, none⟩) qs T.length ds w' K := by
      intro w11 f11
      unfold law20_TokenBack_j1
      have hB11 := hB10.fr0 f11
      have hO11 := (hO9.fr0 f10).fr0 f11
      have hR0 : retR (es.map RE.ke) seq = 0 := by unfold retR; rw [if_neg (by omega), if_pos hs]
      refine ringRetire_c (s := seq) hB11.R fun w12 es' f12 hR12 hes' _ hm12 => ⟨_, rfl, ?_⟩
      rw [hR0]
      refine cond_f ?_
      have f012 : Fr [] w w12 := hB11.R.news (f06.then hB11.f) f12 (by have := hB11.b0; omega) hll
      have hO12 : OB w12 qs T.length ds T w7.heap.size := hO11.fr f12 fun k hk hm2 => by
        have h1 := hB.R.lt k
        have := hO8.2.2 k hk
        by_cases hk2 : k ∈ b :: blks p
        · have := h1 hk2; omega
        · exact hk2 hm2
      have hoff' : ∀ z ∈ blks qs, ¬ inR es' z := fun z hz ⟨e, he, h12⟩ => hoff z hz ⟨e, hes' e he, h12⟩
      have hno : ¬ hasK (es'.map RE.ke) seq := by rw [hm12]; exact retK_not hB11.R.pwS hR0 hs
      refine tokOpen_c (now := now) hR12 (by omega) (h3.fr0 f012) hl3 hc3 (by omega) hO12.row rfl hO12.cap (by omega) (fun _ => hoff') fun x L13 w13 hL13 f13 hR13 hX13 hx => ⟨_, _, _, _, _, _, _, _, rfl, ?_⟩
      have eo : openU (es'.map RE.ke) client T now = .bad 17 := by
        have e0 : (tk0 T : Int) = seq := hhd
        have eu : unsE (es'.map RE.ke) client T = 17 := by unfold unsE; rw [if_neg (by omega), e0, if_pos hno]
        unfold openU
        rw [if_pos (by rw [eu]; decide), eu]
      rw [eo]
      refine putT x fun w14 f14 hT14 => ?_
      have f013 : Fr [] w w13 := f012.trans f13 fun z hz => by
        obtain ⟨e, he, h1, _⟩ := hL13 z hz
        have := (hR12.ent e he).2.1; right; omega
      exact h w14 (f013.then f14)
    refine ⟨_, hT710.ldE, ?_⟩
    by_cases hnow : f.exp < now
    · rw [if_pos hnow] at hv ⊢
      refine cond_d (fun hh => by omega) fun _ => ?_
      refine ⟨_, hT710.ldE, cond_d (fun _ => cond_fl rfl ⟨_, _, _, _, _, _, _, hT10.ldF, tokSame_c (g := tf0) (hV9.fr0 f10).ok (tf0_own _ 0).ok fun w11 f11 => ⟨_, rfl, ?_⟩⟩) fun hh => by omega⟩
      have hv' := hv
      unfold TF.ut UT.bad at hv'
      injection hv' with _ y1 y2 y3
      rw [decide_eq_true ⟨y1, y2, y3⟩]
      exact cond_f (j1 w11 f11)
    · rw [if_neg hnow] at hv ⊢
      obtain ⟨v1, v2, v3⟩ := ut_inj hv
      refine cond_d (fun _ => ?_) fun hh => by omega
      refine cond_fl rfl ⟨_, _, _, _, _, _, _, hT10.ldF, _, _, _, _, _, _, _, hT710.ldF, tokSame_c (hV9.fr0 f10).ok (hf.fr0 f010) fun w11 f11 => ⟨_, rfl, ?_⟩⟩
      rw [decide_eq_true ⟨v1, v2, v3⟩]
      exact cond_f ⟨_, (hT710.fr0 f11).ldE, cond_d (fun hh => by omega) fun _ => j1 w11 f11⟩
  · rw [if_neg hs] at eE
    rw [eE]
    refine cond_t (ringKey_c hR8 (fun e q9 d9 w9 hh _ _ _ _ _ => absurd hh hs) fun q9 d9 w9 _ f9 _ => ⟨_, _, _, _, rfl, cond_t ?_⟩)
    exact h w9 (f08.then f9)
set_option maxHeartbeats 8000000 in
theorem TokenApart_c {p0 p2 p3 p4 : Option Addr} {l0 c0 l2 c2 l3 c3 l4 c4 : Nat} {cs : List RC} {seq : Int} {nonce other client : List UInt8} {f g : TF} (h0 : Row w p0 (cs.flatMap RC.v)) (hok : ∀ x ∈ cs, RC.ok w x) (hl0 : l0 = cs.length)
    (h2 : Row w p2 (nonce.map vb)) (hl2 : l2 = nonce.length) (hc2 : l2 ≤ c2) (h3 : Row w p3 (other.map vb)) (hl3 : l3 = other.length) (hc3 : l3 ≤ c3) (h4 : Row w p4 (client.map vb)) (hl4 : l4 = client.length) (hc4 : l4 ≤ c4) (hf : TF.ok w f) (hg : TF.ok w g) (h : ∀ w', Fr [] w w' → K (.bool true) w') :
    callF Tryz.prog F_law20_TokenApart #[.slice p0 l0 c0, .int .i64 seq, .slice p2 l2 c2, .slice p3 l3 c3, .slice p4 l4 c4, f.a, g.a] w K := by
  apply law20_TokenApart_call
  unfold law20_TokenApart
  refine newT f fun w1 f1 hT1 s1 => newT g fun w2 f2 hG2 s2 => ?_
  obtain ⟨k12, hk12⟩ : ∃ k, k = w.heap.size := ⟨_, rfl⟩
  rw [← hk12] at hT1 ⊢
  obtain ⟨k13, hk13⟩ : ∃ k, k = w1.heap.size := ⟨_, rfl⟩
  rw [← hk13] at hG2 ⊢
  refine alive20_c fun w3 f3 => ⟨_, rfl, cond_f ?_⟩
  have f03 := (f1.then f2).then f3
  refine Great19_c (h0.fr0 f03) hl0 ⟨_, rfl, cond_t (h w3 f03)⟩ fun hfew => ⟨_, rfl, cond_f ?_⟩
  have hT3 := (hT1.fr0 f2).fr0 f3
  have hG3 := hG2.fr0 f3
  refine cond_ne (fun _ => h w3 f03) fun g2 => cond_ne (fun _ => h w3 f03) fun g3 => cond_d (fun _ => h w3 f03) fun g4 => ?_
  refine ⟨_, _, _, hT3.ldO, cond_d (fun _ => h w3 f03) fun g5 => ⟨_, _, _, hT3.ldS, cond_d (fun _ => h w3 f03) fun g6 => ⟨_, _, _, hG3.ldO, cond_d (fun _ => h w3 f03) fun g7 => ⟨_, _, _, hG3.ldS, cond_d (fun _ => h w3 f03) fun g8 => ?_⟩⟩⟩⟩
  have hlf : f.od.length ≤ 20 ∧ f.sc.length ≤ 20 := by omega
  have hlg : g.od.length ≤ 20 ∧ g.sc.length ≤ 20 := by omega
  unfold law20_TokenApart_j4
  refine rings20_c (h0.fr0 f03) (fun x hx => (hok x hx).fr0 f03) hl0 hfew fun b p es lo r q rs lo2 w4 hB hm hko => ⟨_, _, rfl, _, _, ptrNil (by kernel_rfl), cond_f ?_⟩
  have f04 := f03.then hB.f
  have n03 := f03.size
  have hll : w.heap.size ≤ lo := by have := hB.l0; omega
  refine ⟨_, _, _, _, _, _, _, (hT3.fr0 hB.f).ldF, tokSeal_c (s := seq) hB.R (by omega) (h2.fr0 f04) hl2 hc2 (by omega) (hB.R.notIn h2 hll) (h4.fr0 f04) hl4 hc4 (by omega) (hf.fr0 f04) fun q5 d5 L5 w5 hL5 f5 hR5 hO5 => ⟨_, _, _, _, rfl, ?_⟩⟩
  have hB5 := hB.box hL5 f5 hR5 hko
  have f05 := f03.then hB5.f
  refine ⟨_, _, _, _, _, _, _, (hG3.fr0 hB5.f).ldF, tokSeal_c (s := seq) hR5 (by omega) (h3.fr0 f05) hl3 hc3 (by omega) (hR5.notIn h3 hll) (h4.fr0 f05) hl4 hc4 (by omega) (hg.fr0 f05) fun q6 d6 L6 w6 hL6 f6 hR6 hO6 => ⟨_, _, _, _, rfl, ?_⟩⟩
  have hB6 := hB5.box hL6 f6 hR6 hko
  have f06 := f03.then hB6.f
  have eA := sealE_okE (ks := es.map RE.ke) (s := seq) (nonce := nonce) (client := client) (f := f) (by omega) (by omega) hlf
  have eB := sealE_okE (ks := es.map RE.ke) (s := seq) (nonce := other) (client := client) (f := g) (by omega) (by omega) hlg
  by_cases hs : hasK (es.map RE.ke) seq
  · rw [if_pos hs] at eA eB
    have hs0 := hR6.sq0 hs
    have hs1 : 0 ≤ seq ∧ seq < 256 := by omega
    have lA := (seal_len eA).2; have lB := (seal_len eB).2
    have tA := textL_len f; have tB := textL_len g
    obtain ⟨hA1, hA2⟩ := seal_head eA hs1
    obtain ⟨hB1, hB2⟩ := seal_head eB hs1
    have hinj := seal_inj (n1 := nonce) (n2 := other) hs1 eA eB hf.e hg.e
    have hcon : nonce = other → f.exp = g.exp → f.od = g.od → f.sc = g.sc → sealL (es.map RE.ke) seq nonce client f = sealL (es.map RE.ke) seq other client g := fun x a b c => by rw [x, (seal_congr a b c).2]
    obtain ⟨A, hA⟩ : ∃ A, A = sealL (es.map RE.ke) seq nonce client f := ⟨_, rfl⟩
    obtain ⟨B, hBB⟩ : ∃ B, B = sealL (es.map RE.ke) seq other client g := ⟨_, rfl⟩
    rw [← hA] at lA hA1 hA2 hO5 hinj hcon ⊢
    rw [← hBB] at lB hB1 hB2 hO6 hinj hcon ⊢
    rw [eA, eB]
    have n4 := hB.f.size; have n5 := f5.size
    have hO56 : OB w6 q5 A.length d5 A w4.heap.size := hO5.fr f6 fun k hk hm2 => by
      obtain ⟨e, he, _, h12⟩ := hL6 k hm2
      have := (hB.R.ent e he).1.lh; have := hO5.2.2 k hk; omega
    refine cond_fl rfl ?_
    unfold law20_TokenApart_j3
    refine cond_fl rfl ?_
    unfold law20_TokenApart_j2
    have hT6 := hT3.fr0 hB6.f
    have hG6 := hG3.fr0 hB6.f
    refine ⟨_, _, _, hT6.ldO, _, _, _, hT6.ldS, ?_⟩
    rw [wrap64 (n := 39 + (f.od.length : Int)) (by omega) (by omega), wrap64 (by omega) (by omega)]
    refine cond_ne (fun hh => by omega) fun _ => ?_
    obtain ⟨a, ha, hca⟩ := hO56.get (k := .i64) (i := 0) (by omega)
    refine ⟨_, ha, _, Ld.cell (by kernel_rfl) hca, ?_⟩
    have h256 := (fl A 0).toNat_lt
    rw [wrap64 (by omega) (by omega)]
    refine cond_ne (fun hh => absurd hA1 hh) fun _ => ?_
    refine slMid hO56.row rfl (a := 1) (b := 13) (by omega) (by omega) hO56.cap fun qa da hqa hla hda hba => ?_
    rw [hA2] at hqa hla
    refine SameBytes_c hqa hla (h2.fr0 f06) hl2 (by omega) fun w7 f7 => ⟨_, rfl, ?_⟩
    rw [decide_eq_true rfl]
    have f07 := f06.then f7
    refine cond_f ?_
    refine slMid (hO6.fr0 f7).row rfl (a := 1) (b := 13) (by omega) (by omega) hO6.cap fun qb db hqb hlb hdb hbb => ?_
    rw [hB2] at hqb hlb
    refine SameBytes_c hqb hlb (h3.fr0 f07) hl3 (by omega) fun w8 f8 => ⟨_, rfl, ?_⟩
    rw [decide_eq_true rfl]
    have f08 := f07.then f8
    refine cond_f ?_
    unfold law20_TokenApart_j1
    have f68 := f7.then f8
    refine SameBytes_c (hO56.fr0 f68).row rfl (hO6.fr0 f68).row rfl (by omega) fun w9 f9 => ⟨_, rfl, ?_⟩
    have f09 := f08.then f9
    refine SameBytes_c (h2.fr0 f09) hl2 (h3.fr0 f09) hl3 (by omega) fun w10 f10 => ⟨_, rfl, ?_⟩
    have f010 := f09.then f10
    have f610 := f68.then (f9.then f10)
    refine cond_d (fun hn => ?_) fun hn => ?_
    · refine ⟨_, _, _, _, _, _, _, (hT6.fr0 f610).ldF, _, _, _, _, _, _, _, (hG6.fr0 f610).ldF, tokSame_c (hf.fr0 f010) (hg.fr0 f010) fun w11 f11 => ⟨_, rfl, ?_⟩⟩
      have e : decide (A = B) = decide (f.exp = g.exp ∧ f.od = g.od ∧ f.sc = g.sc) := decide_eq_decide.2 ⟨fun hh => (hinj hh).2, fun hh => hcon hn hh.1 hh.2.1 hh.2.2⟩
      rw [e, beq_self_eq_true]
      exact h w11 (f010.then f11)
    · have e : decide (A = B) = false := decide_eq_false fun hh => hn (hinj hh).1
      rw [e]
      exact h w10 f010
  · rw [if_neg hs] at eA eB
    rw [eA, eB]
    refine cond_tr rfl ?_
    unfold law20_TokenApart_j3
    exact cond_t (cond_tr rfl (h w6 f06))
set_option maxHeartbeats 8000000 in
theorem TokenKeys_c {p0 p1 p3 p4 : Option Addr} {l0 c0 l1 c1 l3 c3 l4 c4 : Nat} {cs ms : List RC} {seq : Int} {nonce client : List UInt8} {f : TF} (h0 : Row w p0 (cs.flatMap RC.v)) (hok : ∀ x ∈ cs, RC.ok w x) (hl0 : l0 = cs.length) (h1 : Row w p1 (ms.flatMap RC.v)) (hokm : ∀ x ∈ ms, RC.ok w x) (hl1 : l1 = ms.length)
    (h3 : Row w p3 (nonce.map vb)) (hl3 : l3 = nonce.length) (hc3 : l3 ≤ c3) (h4 : Row w p4 (client.map vb)) (hl4 : l4 = client.length) (hc4 : l4 ≤ c4) (hf : TF.ok w f) (h : ∀ w', Fr [] w w' → K (.bool true) w') :
    callF Tryz.prog F_law20_TokenKeys #[.slice p0 l0 c0, .slice p1 l1 c1, .int .i64 seq, .slice p3 l3 c3, .slice p4 l4 c4, f.a] w K := by
  apply law20_TokenKeys_call
  unfold law20_TokenKeys
  refine newT f fun w1 f1 hT1 s1 => ?_
  obtain ⟨k11, hk11⟩ : ∃ k, k = w.heap.size := ⟨_, rfl⟩
  rw [← hk11] at hT1 ⊢
  refine alive20_c fun w2 f2 => ⟨_, rfl, cond_f ?_⟩
  have f02 := f1.then f2
  refine Great19_c (h0.fr0 f02) hl0 ⟨_, rfl, cond_t (h w2 f02)⟩ fun hfew => ⟨_, rfl, cond_f ?_⟩
  refine Great19_c (h1.fr0 f02) hl1 ⟨_, rfl, cond_t (h w2 f02)⟩ fun hfewm => ⟨_, rfl, cond_f ?_⟩
  have hT2 := hT1.fr0 f2
  refine cond_ne (fun _ => h w2 f02) fun g2 => cond_d (fun _ => h w2 f02) fun g3 => ⟨_, _, _, hT2.ldO, cond_d (fun _ => h w2 f02) fun g4 => ⟨_, _, _, hT2.ldS, cond_d (fun _ => h w2 f02) fun g5 => ?_⟩⟩
  have hlf : f.od.length ≤ 20 ∧ f.sc.length ≤ 20 := by omega
  unfold law20_TokenKeys_j1
  refine rings20_c (h0.fr0 f02) (fun x hx => (hok x hx).fr0 f02) hl0 hfew fun b p es lo r q rs lo2 w4 hB hm hko => ⟨_, _, rfl, _, _, ptrNil (by kernel_rfl), cond_f ?_⟩
  have f04 := f02.then hB.f
  have n02 := f02.size
  have hll : w.heap.size ≤ lo := by have := hB.l0; omega
  refine ⟨_, _, _, _, _, _, _, (hT2.fr0 hB.f).ldF, tokSeal_c (s := seq) hB.R (by omega) (h3.fr0 f04) hl3 hc3 (by omega) (hB.R.notIn h3 hll) (h4.fr0 f04) hl4 hc4 (by omega) (hf.fr0 f04) fun q5 d5 L5 w5 hL5 f5 hR5 hO5 => ⟨_, _, _, _, rfl, ?_⟩⟩
  have hB5 := hB.box hL5 f5 hR5 hko
  have f05 := f02.then hB5.f
  have eA := sealE_okE (ks := es.map RE.ke) (s := seq) (nonce := nonce) (client := client) (f := f) (by omega) (by omega) hlf
  by_cases hs : hasK (es.map RE.ke) seq
  · rw [if_pos hs] at eA
    rw [eA]
    have hs0 := hR5.sq0 hs
    obtain ⟨ks0, hks0⟩ : ∃ ks0, ks0 = es.map RE.ke := ⟨_, rfl⟩
    have hop : ∀ ks : List KE, hasK ks seq → keyK ks seq = keyK ks0 seq → openU ks client (sealL ks0 seq nonce client f) f.exp = f.ut 0 := by
      intro ks hk1 hk2
      have e1 : sealE ks seq nonce client f = 0 := by rw [sealE_okE (by omega) (by omega) hlf, if_pos hk1]
      have e0 : sealE ks0 seq nonce client f = 0 := by rw [hks0]; exact eA
      have e2 : sealL ks0 seq nonce client f = sealL ks seq nonce client f := by unfold sealL; rw [if_pos e0, if_pos e1, hk2]
      rw [e2, open_seal e1 (by omega) hf.e, if_neg (by omega)]
    rw [← hks0] at hO5 ⊢
    obtain ⟨T, hT⟩ : ∃ T, T = sealL ks0 seq nonce client f := ⟨_, rfl⟩
    have hTl := sealL_le ks0 seq nonce client f
    rw [← hT] at hO5 hop hTl ⊢
    refine cond_fl rfl ?_
    have n4 := hB.f.size; have n5 := f5.size
    refine LoopS.ind (fun k us w' => ∃ (i : Nat) (p q : Option Addr) (es : List RE) (rs : List RR), i + k = l1 ∧ us = [.slice p1 l1 c1, .int .i64 seq, .slice p4 l4 c4, .pointer (some ⟨k11, 0, none⟩), .bool false, .pointer (some ⟨b, 0, none⟩), .pointer (some ⟨r, 0, none⟩), .slice q5 T.length d5, .int .i64 (i : Int)] ∧ Both w2 w' b p es lo r q rs lo2 (2 + (i : Int)) ∧ KeyOff es rs ∧ hasK (es.map RE.ke) seq ∧ keyK (es.map RE.ke) seq = keyK ks0 seq ∧ OB w' q5 T.length d5 T w4.heap.size ∧ (∀ z ∈ blks q5, offR b p es z ∧ z ∉ r :: blks q)) l1
      ⟨0, p, q, es, rs, by omega, rfl, ⟨hB5.R.mono (by omega), hB5.S, hB5.A, hB5.f, hB5.b0, hB5.l0, hB5.r0, hB5.m0⟩, hko, hs, by rw [hks0], hO5, fun z hz => ⟨offR_new hB.R (hO5.2.2 z hz), (offS_new hB.S (hO5.2.2 z hz)).1⟩⟩ ?_
    rintro k us rr w6 I μ hgo ⟨i, p', q', es', rs', hi, rfl, hB6, hko6, hs6, hk6, hO6, hoff6⟩
    have hl60 : ms.length ≤ 60 := hfewm.1
    have ew : IntKind.i64.wrap ((i : Int) + 1) = ((i + 1 : Nat) : Int) := by rw [wrap64 (by omega) (by omega)]; omega
    have f06 := f02.then hB6.f
    refine ⟨_, _, _, _, _, _, _, _, _, _, _, _, _, _, _, rfl, cond_d (fun g6 => ?_) fun _ => h w6 f06⟩
    obtain ⟨x, gg, o, hx, hxm, ha, hld, _⟩ := rcallAt (c0 := c1) (h1.fr0 f06) hl1 (i := i) (by omega)
    have hsq : Ld Tryz.prog T_int (.pointer (some ((⟨gg, o, none⟩ : Addr).add 1))) w6 (.int .i64 x.sq) := by
      obtain ⟨g2, o2, ha2, _, hc2⟩ := (h1.fr0 f06).cellAt (P := Tryz.prog) (t := T_S_law19_Call) (s := 3) (by kernel_rfl) (k := .i64) (l := l1) (c := c1) (i := i) (by rw [fm_len RC.v_len, hl1]) (by omega) (by omega)
      have := ha.symm.trans ha2
      have he : (⟨gg, o, none⟩ : Addr) = ⟨g2, o2, none⟩ := by simpa using this
      rw [he, add_mk]
      exact Ld.cell (by kernel_rfl) (hc2 1 _ (by omega) (fm_get RC.v_len hx rfl))
    refine ⟨_, ha, _, hsq, ?_⟩
    rw [ew]
    refine cond_eq (fun _ => ?_) fun hne => ?_
    · refine hgo _ _ _ (k - 1) (by omega) ⟨i + 1, p', q', es', rs', by omega, rfl, ⟨hB6.R.mono (by omega), hB6.S, hB6.A, hB6.f, hB6.b0, hB6.l0, hB6.r0, hB6.m0⟩, hko6, hs6, hk6, hO6, hoff6⟩
    · have hxa := hokm x hxm
      refine ⟨_, ha, _, _, _, _, _, hld, ?_⟩
      refine Do19x_c hB6.R (by omega) hB6.S hB6.A (hxa.fr0 f06) (fun w' f => hxa.1.fr0 (hB6.R.news f06 f (by have := hB6.b0; omega) (by have := hB6.l0; omega))) (hfewm.2 x hxm) fun w7 p7 es7 q7 rs7 bb f7 hR7 hS7 hA7 hp7 hq7 he7 ho7 hm7 hn7 _ => ⟨_, rfl, ?_⟩
      have hB7 : Both w2 w7 b p7 es7 lo r q7 rs7 lo2 (2 + (i : Int)) := ⟨hR7, hS7, hA7, hB6.step f7, hB6.b0, hB6.l0, hB6.r0, hB6.m0⟩
      have hko7 := ho7 hko6
      obtain ⟨hs7, hk7⟩ := stepK_has (x := x) hne hs6
      rw [← hm7] at hs7 hk7
      have hO7 : OB w7 q5 T.length d5 T w4.heap.size := hO6.fr f7 fun z hz hm2 => by
        rcases List.mem_append.1 hm2 with hh | hh
        · exact (hoff6 z hz).1.1 hh
        · exact (hoff6 z hz).2 hh
      have f07 := f02.then hB7.f
      have hzl : ∀ z ∈ blks q5, z < w6.heap.size := hO6.lt
      have hoR7 : ∀ z ∈ blks q5, offR b p7 es7 z := fun z hz => offR_step (hoff6 z hz).1 (hzl z hz) hp7 he7
      have hnR7 : ∀ z ∈ blks q5, ¬ inR es7 z := fun z hz ⟨e, he, a1, a2⟩ => by have := (hoR7 z hz).2 e he; omega
      have hT7 := hT2.fr0 hB7.f
      refine ⟨_, hT7.ldE, ?_⟩
      refine tokOpen_c (now := f.exp) hR7 (by omega) (h4.fr0 f07) hl4 hc4 (by omega) hO7.row rfl hO7.cap (by omega) (fun _ => hnR7) fun v L8 w8 hL8 f8 hR8 hV8 hv => ⟨_, _, _, _, _, _, _, _, rfl, ?_⟩
      have hB8 := hB7.box hL8 f8 hR8 hko7
      rw [hop _ hs7 (hk7.trans hk6)] at hv ⊢
      obtain ⟨v1, v2, v3⟩ := ut_inj hv
      refine putT v fun w9 f9 hT9 => ?_
      have hT79 := hT2.fr0 (hB8.f.then f9)
      have f09 := f02.then (hB8.f.then f9)
      refine cond_fl rfl ⟨_, _, _, _, _, _, _, hT9.ldF, _, _, _, _, _, _, _, hT79.ldF, tokSame_c (hV8.fr0 f9).ok (hf.fr0 f09) fun w10 f10 => ⟨_, rfl, ?_⟩⟩
      rw [decide_eq_true ⟨v1, v2, v3⟩]
      have f810 := f9.then f10
      refine cond_f (hgo _ _ _ (k - 1) (by omega) ⟨i + 1, p7, q7, es7, rs7, by omega, rfl, ?_, hko7, hs7, hk7.trans hk6, (hO7.fr f8 fun z hz hm2 => hnR7 z hz (hL8 z hm2)).fr0 f810, fun z hz => ⟨hoR7 z hz, ?_⟩⟩)
      · have := hB8.fr0 f810
        have e2 : (2 + (i : Int) + 1) = 2 + ((i + 1 : Nat) : Int) := by omega
        rw [e2] at this
        exact this
      · have hz6 := hzl z hz
        have ho6 := (hoff6 z hz).2
        intro hm2
        rcases List.mem_cons.1 hm2 with hh | hh
        · exact ho6 (by rw [hh]; exact List.mem_cons_self ..)
        · rcases hq7 z hh with h6 | h6
          · exact ho6 (List.mem_cons_of_mem _ h6)
          · omega
  · rw [if_neg hs] at eA
    rw [eA]
    exact cond_tr rfl (h w5 f05)
end
end Go.Sh
end
