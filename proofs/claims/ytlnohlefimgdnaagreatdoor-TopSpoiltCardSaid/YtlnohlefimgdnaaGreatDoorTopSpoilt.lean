/- TopSpoilt: the law returns true for every input, and leaves its arguments as they were; the library variables that the row lists are tied to the program text (the card). No condition of its own. -/
import Derived.Test.YtlnohlefimgdnaaGreatDoorCards
import Derived.Test.YtlnohlefimgdnaaGreatDoorTie
import Derived.LaidMore
import Derived.Lay
import Derived.SevenTiedAt
import Derived.Stop.Joined
import Derived.WalkKit
import Derived.ProofKit
import Derived.OpenShut
import Derived.ShutString
import Derived.ChangeOld
import Derived.Below
import Derived.Test.YtlnohlefimgdnaaGreatDoorHead
import Derived.Test.YtlnohlefimgdnaaGreatDoorMK0
import Derived.Test.YtlnohlefimgdnaaGreatDoorMC6
namespace Go.Proofs.YtlnohlefimgdnaaGreatDoor.topSpoilt
open Go.ChangeShapes Go.WideShapes Go.ChangeAt Go.RowKit
open Go.ChangeMaps (open_string shut_string)
open Go.Fw Go.Sh
set_option linter.unusedVariables false
set_option maxRecDepth 100000

theorem own : ownKnob Tryz.prog.godebug = none := by kernel_rfl

set_option maxRecDepth 100000 in
theorem walk (a0 : Option Addr) (len0 cap0 : Nat) (a1 : Int) (a2 : Option Addr) (len2 cap2 : Nat) (a3 : Option Addr) (len3 cap3 : Nat) (cs4 : Array Value) (a5 : Int) (a6 : Int) (w : World) (w0 : IsCame2 Tryz.prog w 22 (.slice a0 len0 cap0)) (w1 : (Lit.int .i64 a1).wf = true) (w2 : IsCame Tryz.prog w 23 (.slice a2 len2 cap2)) (w3 : IsCame Tryz.prog w 23 (.slice a3 len3 cap3)) (w4 : IsCame2 Tryz.prog w 26 (.agg cs4)) (w5 : (Lit.int .i64 a5).wf = true) (w6 : (Lit.int .u8 a6).wf = true) :
    Calls Tryz.prog 3 #[.slice a0 len0 cap0, .int .i64 a1, .slice a2 len2 cap2, .slice a3 len3 cap3, .agg cs4, .int .i64 a5, .int .u8 a6] w fun e w' => e = .returned (.bool true) ∧ Below w.heap.size w w' := by
  refine (callK_of_callF (K := fun v w' => v = .bool true ∧ Below w.heap.size w w') (by kernel_rfl) ?_).mono (fun e w' ⟨v, he, hv, hb⟩ => ⟨by rw [he, hv], hb⟩)
  obtain ⟨vss0, hv0, _, _, hX0, _, hD0⟩ := came_list (P := Tryz.prog) (e := T_law19_Call) (s := 3) (n := 5) (L := [.int .i64, .int .i64, .bytes]) (by kernel_rfl) (by kernel_rfl) (by omega) (by kernel_rfl) w0
  obtain ⟨c0, hok0, hl0, he0⟩ := rcalls_of vss0 hD0
  rw [he0] at hX0
  obtain ⟨b2, hl2, _, hc2, hX2⟩ := came_bytes (by kernel_rfl) w2
  obtain ⟨b3, hl3, _, hc3, hX3⟩ := came_bytes (by kernel_rfl) w3
  obtain ⟨f4, hf4, rfl⟩ := fields_of (came_struct (P := Tryz.prog) (n := 5) (L := [.int .u64, .bytes, .bytes]) (by kernel_rfl) w4)
  obtain ⟨y6, rfl⟩ := byte_of (n := a6) (by have := w6; simp [Lit.wf, IntKind.min, IntKind.max, IntKind.bits, IntKind.signed] at this; omega) (by have := w6; simp [Lit.wf, IntKind.min, IntKind.max, IntKind.bits, IntKind.signed] at this; omega)
  exact TopSpoilt_c (fun w K hk => alive_c hk) hX0 hok0 (by omega) hX2 hl2.symm hc2 hX3 hl3.symm hc3 hf4 fun w' hf => ⟨rfl, hf.below⟩

def laid : List (String × DataW Unit) := Rows.topSpoiltRow.laid
set_option maxRecDepth 100000 in
theorem lifted (os : Os) (started : os.Started) (H : Type) (enc : TypeId × Value → H) :
    ReturnsInHanded {} Tryz.checked os 3 .any (fun w args => (Rows.topSpoiltSpec.pre enc Tryz.prog Tryz.f3 Rows.topSpoiltRow.domain false w args ∧ laidMetH Tryz.prog laid w) ∧ sizedMet enc Tryz.prog Tryz.f3 (OpenSpec.ofChange Rows.topSpoiltSpec) false w args) (Rows.topSpoiltSpec.post enc Tryz.prog Tryz.f3 false true false false) := by
  refine returnsInHanded_of_change_and (C := Tryz.checked) (X := fun w _ => laidMetH Tryz.prog laid w) (fun _ _ _ hh h => h.of_heap hh) own started (by kernel_rfl) Tryz.func3
    (ChangeSpec.witness_shaped (enc := enc) (C := Tryz.checked) (os := os) (X := fun w _ => laidMetH Tryz.prog laid w) false (World.laidAll Tryz.prog os laid) #[.slice none 0 0, .int .i64 0, .slice none 0 0, .slice none 0 0, .agg #[.int .u64 0, .slice none 0 0, .slice none 0 0], .int .i64 0, .int .u8 0] 8 (World.laidAll_os _ _ _)
      (World.shaped_of_ZipB (by kernel_rfl) (by kernel_rfl)) (by kernel_rfl) (by kernel_rfl) (by kernel_rfl)
      (by rw [MakeChecks.laidMetH_plain _ _ _ (by kernel_rfl)]; exact laidMet_laidAll _ (by kernel_rfl) (by kernel_rfl))) ?_
  intro W base args ds gs before hval0 hW hcnd _ _ _
  have hval : ∀ (j : Nat) t v, Tryz.f3.params[j]? = some t → args[j]? = some v → Value.okWide Tryz.prog W .any base t v := hval0
  have hW' := hW
  obtain ⟨p, q, hA0, hV, rfl, hfz, hnd⟩ := hW
  have hA : DataW.TrodAll enc Tryz.prog W 0 (fun _ => true) true Tryz.f3.params.toList args.toList ds p := hA0
  rw [Tryz.params3] at hA hval
  obtain ⟨v0, vs0, d0, ds0, p0, q0, hargs, rfl, rfl, h0, r0⟩ := trodAll_cons hA
  obtain ⟨v1, vs1, d1, ds1, p1, q1, rfl, rfl, rfl, h1, r1⟩ := trodAll_cons r0
  obtain ⟨v2, vs2, d2, ds2, p2, q2, rfl, rfl, rfl, h2, r2⟩ := trodAll_cons r1
  obtain ⟨v3, vs3, d3, ds3, p3, q3, rfl, rfl, rfl, h3, r3⟩ := trodAll_cons r2
  obtain ⟨v4, vs4, d4, ds4, p4, q4, rfl, rfl, rfl, h4, r4⟩ := trodAll_cons r3
  obtain ⟨v5, vs5, d5, ds5, p5, q5, rfl, rfl, rfl, h5, r5⟩ := trodAll_cons r4
  obtain ⟨v6, vs6, d6, ds6, p6, q6, rfl, rfl, rfl, h6, r6⟩ := trodAll_cons r5
  obtain ⟨rfl, rfl, rfl⟩ := trodAll_nil r6
  obtain rfl : args = #[v0, v1, v2, v3, v4, v5, v6] := by cases args; simp_all
  obtain ⟨rfl, rfl⟩ := trodVars_none hV
  obtain ⟨a0, len0, cap0, rfl⟩ := okWide_slice Tryz.underlying22 (hval 0 22 v0 rfl rfl)
  have k0 := h0
  have lt0 : ∀ x ∈ p0, x.block < W.heap.size := by obtain ⟨m, hm⟩ := k0; exact DataW.trod_lt m _ _ _ hm
  have w0 := isCame2 h0
  obtain ⟨a1, rfl, rfl, rfl, w1⟩ := open_int Tryz.underlying3 (hval 1 3 v1 rfl rfl) h1
  obtain ⟨a2, len2, cap2, rfl⟩ := okWide_slice Tryz.underlying23 (hval 2 23 v2 rfl rfl)
  have k2 := h2
  have lt2 : ∀ x ∈ p2, x.block < W.heap.size := by obtain ⟨m, hm⟩ := k2; exact DataW.trod_lt m _ _ _ hm
  have w2 := isCame h2
  obtain ⟨a3, len3, cap3, rfl⟩ := okWide_slice Tryz.underlying23 (hval 3 23 v3 rfl rfl)
  have k3 := h3
  have lt3 : ∀ x ∈ p3, x.block < W.heap.size := by obtain ⟨m, hm⟩ := k3; exact DataW.trod_lt m _ _ _ hm
  have w3 := isCame h3
  obtain ⟨cs4, rfl, sz4⟩ := okWide_struct Tryz.underlying26 (hval 4 26 v4 rfl rfl)
  have k4 := h4
  have lt4 : ∀ x ∈ p4, x.block < W.heap.size := by obtain ⟨m, hm⟩ := k4; exact DataW.trod_lt m _ _ _ hm
  have w4 := isCame2 h4
  obtain ⟨a5, rfl, rfl, rfl, w5⟩ := open_int Tryz.underlying3 (hval 5 3 v5 rfl rfl) h5
  obtain ⟨a6, rfl, rfl, rfl, w6⟩ := open_int Tryz.underlying5 (hval 6 5 v6 rfl rfl) h6
  clear hA0 hval0
  refine (walk a0 len0 cap0 a1 a2 len2 cap2 a3 len3 cap3 cs4 a5 a6 W w0 w1 w2 w3 w4 w5 w6).mono fun e W' ⟨he, bel⟩ => ?_
  subst he
  exact ⟨_, rfl, _, _, _, [], _, [], hW', trodAll_mk1 (shut_bool Tryz.underlying4 _), (trodAll_cons_mk (Below.trod Head.laidOut (by kernel_rfl) (of_decide_eq_true (by kernel_rfl)) k0 bel lt0) (trodAll_cons_mk (shut_int Tryz.underlying3 w1) (trodAll_cons_mk (Below.trod Head.laidOut (by kernel_rfl) (of_decide_eq_true (by kernel_rfl)) k2 bel lt2) (trodAll_cons_mk (Below.trod Head.laidOut (by kernel_rfl) (of_decide_eq_true (by kernel_rfl)) k3 bel lt3) (trodAll_cons_mk (Below.trod Head.laidOut (by kernel_rfl) (of_decide_eq_true (by kernel_rfl)) k4 bel lt4) (trodAll_cons_mk (shut_int Tryz.underlying3 w5) (trodAll_cons_mk (shut_int Tryz.underlying5 w6) trodAll_mk0))))))), rfl, bel.frame _, fun h => by cases h⟩

theorem q1 : (Rows.topSpoiltRow.inPlace == Tryz.prog.inPlace 3) = true := by kernel_rfl
theorem q2 : (Rows.topSpoiltRow.unfollowed == Tryz.prog.unfollowed 3) = true := by kernel_rfl
theorem q3 : (Rows.topSpoiltRow.recurses == Tryz.prog.recurses 3) = true := by kernel_rfl
theorem q4 : (Rows.topSpoiltRow.named == Tryz.prog.varsNamed 3) = true := by kernel_rfl
theorem closed : joinedFacts Tryz.prog 3 Tryz.f3 Rows.topSpoiltSpec Rows.topSpoiltRow = true :=
  Head.joined_of (by kernel_rfl) Head.laidOut Head.rowed (by kernel_rfl) (by kernel_rfl) (by kernel_rfl) (by kernel_rfl) (by kernel_rfl) (by kernel_rfl) q1 q2 q3 q4 (by kernel_rfl) (by kernel_rfl) (by kernel_rfl) (by kernel_rfl) (by kernel_rfl) (by kernel_rfl) (by kernel_rfl) (by kernel_rfl) (by kernel_rfl) (Head.plain_eq Head.plain rfl) (by kernel_rfl) Head.heard Head.enter (Head.lift_eq Head.final rfl) (Head.make_eq Head.made rfl) (by kernel_rfl) (by kernel_rfl) (by kernel_rfl) (by kernel_rfl)

theorem over : Rows.topSpoiltRow.holds Tryz.pinned (OpenSpec.ofChange Rows.topSpoiltSpec) :=
  OpenClaim.holds_of_wide 3 Tryz.f3 rfl rfl rfl rfl rfl rfl rfl ⟨rfl, rfl, rfl, rfl, rfl⟩ rfl rfl rfl rfl rfl (by kernel_rfl) Tryz.func3 closed
    (of_decide_eq_true (by kernel_rfl)) (by unfold Func.isWrapper; first | (rw [if_pos (by decide +kernel)]; kernel_rfl) | (rw [if_neg (by decide +kernel)]; exact ⟨rfl, rfl⟩))
    (fun os started H enc _ => lifted os started H enc)

theorem named_f : Tryz.prog.funcNamed "crossway/crosswaytop.TopSpoilt" = some 3 := by kernel_rfl
theorem noStand : ([3, 5, 22, 23, 26].all fun u => !Tryz.prog.wantsStandIn u) = true := by kernel_rfl
theorem noStandOut : ∀ (f : FuncId) (fn : Func), Tryz.prog.funcNamed "crossway/crosswaytop.TopSpoilt" = some f → Tryz.prog.funcs[f]? = some fn → ∀ (j : Nat) t, fn.params[j]? = some t → Tryz.prog.wantsStandIn t = false := fun f fn hf hfn j t ht => by
  obtain rfl : f = 3 := Option.some.inj (named_f.symm.trans hf) |>.symm
  obtain rfl : fn = Tryz.f3 := (Option.some.inj (Tryz.func3.symm.trans hfn)).symm
  rw [Tryz.params3] at ht
  have hm : t ∈ [3, 5, 22, 23, 26] := by
    have h1 := Array.mem_of_getElem? ht
    simp only [List.mem_toArray, List.mem_cons, List.not_mem_nil, or_false] at h1
    rcases h1 with h1 | h1 | h1 | h1 | h1 | h1 | h1 <;> rw [h1] <;> decide
  simpa using List.all_eq_true.1 noStand t hm
theorem goes_of {P : Program} (h : P.funcs.any Func.goes = false) (f : FuncId) : P.goes f = false := by
  unfold Program.goes
  rw [h, Bool.and_false, Bool.or_false, List.any_eq_false]
  intro g _
  cases hg : P.funcs[g]? with
  | none => simp
  | some fn =>
    have := Array.any_eq_false.1 h
    obtain ⟨hlt, he⟩ := Array.getElem?_eq_some_iff.1 hg
    have h2 := this g hlt
    rw [he] at h2
    simpa using h2
theorem goesBy_of {P : Program} (h : P.funcs.any Func.goes = false) {c : OpenClaim} (hs : c.start = .entering) : false = c.goesBy P := by
  unfold OpenClaim.goesBy Program.goesAt Program.goesFrom
  rw [hs]
  cases P.funcNamed c.func with
  | none => rfl
  | some f => show false = (P.goes f || false); rw [goes_of h]; rfl
set_option maxRecDepth 100000 in
theorem none_goes : Tryz.prog.funcs.any Func.goes = false := by kernel_rfl
theorem mainIs : Tryz.prog.mainIs = some (true, ("6f3f6f7bacd98958c547b4bebaee837bed3f5c6c012679fe1a4cb02ee073f4c5").toList) := by kernel_rfl
theorem looksIs : true = Tryz.prog.looks [] := by kernel_rfl
theorem wfText : Rows.topSpoiltRow.wfByText (OpenSpec.ofChange Rows.topSpoiltSpec) = true := by kernel_rfl
/-- **The statement: the tied card.** -/
theorem proved : Rows.TopSpoiltCardSaid :=
  Claim7.holds_tied_plain_at .later [] [.data, .data, .data, .data, .sentinel, .sentinel, .pinned] true (true, "6f3f6f7bacd98958c547b4bebaee837bed3f5c6c012679fe1a4cb02ee073f4c5") true over (fun _ h => by cases h) wfText (fun _ h => by cases h) topSpoilt_row_tie rfl ⟨rfl, rfl⟩ mainIs rfl
    (fun f fn hf hfn => by
      obtain rfl : f = 3 := Option.some.inj (named_f.symm.trans hf) |>.symm
      obtain rfl : fn = Tryz.f3 := (Option.some.inj (Tryz.func3.symm.trans hfn)).symm
      exact ⟨looksIs, noStandOut 3 Tryz.f3 named_f Tryz.func3⟩)
    (goesBy_of none_goes rfl)
#print axioms proved
end Go.Proofs.YtlnohlefimgdnaaGreatDoor.topSpoilt
