/- TokenBack: the law returns true for every input, and leaves its arguments as they were. No condition. -/
import Derived.Test.YtcfealonnakdcaaGreatRows
import Derived.WalkKit
import Derived.ProofKit
import Derived.OpenShut
import Derived.ShutString
import Derived.ChangeOld
import Derived.Below
import Derived.Test.YtcfealonnakdcaaGreatHead
import Derived.Test.YtcfealonnakdcaaGreatML20
namespace Go.Proofs.YtcfealonnakdcaaGreat.tokenBack
open Go.ChangeShapes Go.WideShapes Go.ChangeAt Go.RowKit
open Go.ChangeMaps (open_string shut_string)
open Go.Fw Go.Sh
set_option linter.unusedVariables false

theorem own : ownKnob Tryz.prog.godebug = none := by kernel_rfl

set_option maxRecDepth 100000 in
theorem walk (a0 : Option Addr) (len0 cap0 : Nat) (a1 : Int) (a2 : Option Addr) (len2 cap2 : Nat) (a3 : Option Addr) (len3 cap3 : Nat) (cs4 : Array Value) (a5 : Int) (w : World) (w0 : IsCame2 Tryz.prog w 105 (.slice a0 len0 cap0)) (w1 : (Lit.int .i64 a1).wf = true) (w2 : IsCame Tryz.prog w 25 (.slice a2 len2 cap2)) (w3 : IsCame Tryz.prog w 25 (.slice a3 len3 cap3)) (w4 : IsCame2 Tryz.prog w 90 (.agg cs4)) (w5 : (Lit.int .u64 a5).wf = true) :
    Calls Tryz.prog 15 #[.slice a0 len0 cap0, .int .i64 a1, .slice a2 len2 cap2, .slice a3 len3 cap3, .agg cs4, .int .u64 a5] w fun e w' => e = .returned (.bool true) ∧ Below w.heap.size w w' := by
  refine (callK_of_callF (K := fun v w' => v = .bool true ∧ Below w.heap.size w w') (by kernel_rfl) ?_).mono (fun e w' ⟨v, he, hv, hb⟩ => ⟨by rw [he, hv], hb⟩)
  obtain ⟨vss0, hv0, _, _, hX0, _, hD0⟩ := came_list (P := Tryz.prog) (e := T_law19_Call) (s := 3) (n := 5) (L := [.int .i64, .int .i64, .bytes]) (by kernel_rfl) (by kernel_rfl) (by omega) (by kernel_rfl) w0
  obtain ⟨c0, hok0, hl0, he0⟩ := rcalls_of vss0 hD0
  rw [he0] at hX0
  obtain ⟨b2, hl2, _, hc2, hX2⟩ := came_bytes (by kernel_rfl) w2
  obtain ⟨b3, hl3, _, hc3, hX3⟩ := came_bytes (by kernel_rfl) w3
  obtain ⟨f4, hf4, rfl⟩ := fields_of (came_struct (P := Tryz.prog) (n := 5) (L := [.int .u64, .bytes, .bytes]) (by kernel_rfl) w4)
  obtain ⟨n5, rfl⟩ : ∃ n : Nat, a5 = (n : Int) := Int.eq_ofNat_of_zero_le (by simp [Lit.wf, IntKind.min, IntKind.max, IntKind.bits, IntKind.signed] at w5; omega)
  exact TokenBack_c hX0 hok0 (by omega) hX2 hl2.symm hc2 hX3 hl3.symm hc3 hf4 fun w' hf => ⟨rfl, hf.below⟩

set_option maxRecDepth 100000 in
theorem lifted (os : Os) (started : os.Started) (H : Type) (enc : TypeId × Value → H) :
    ReturnsInHanded {} Tryz.checked os 15 .any (Rows.tokenBackSpec.pre6 enc Tryz.prog Tryz.f15 Rows.tokenBackRow.domain false) (Rows.tokenBackSpec.post enc Tryz.prog Tryz.f15 false true false false) := by
  refine returnsInHanded_of_change (C := Tryz.checked) own started (by kernel_rfl) Tryz.func15
    (ChangeSpec.witness6 (enc := enc) (C := Tryz.checked) false ⟨#[], #[.slice none 0 0, .int .i64 0, .slice none 0 0, .slice none 0 0, .agg #[.int .u64 0, .slice none 0 0, .slice none 0 0], .int .u64 0], []⟩ 8 (by kernel_rfl) (by kernel_rfl) (by kernel_rfl) (by kernel_rfl)) ?_
  intro W base args ds gs before hval0 hW hcnd _
  have hval : ∀ (j : Nat) t v, Tryz.f15.params[j]? = some t → args[j]? = some v → Value.okWide Tryz.prog W .any base t v := hval0
  have hW' := hW
  obtain ⟨p, q, hA0, hV, rfl, hfz, hnd⟩ := hW
  have hA : DataW.TrodAll enc Tryz.prog W 0 (fun _ => true) true Tryz.f15.params.toList args.toList ds p := hA0
  rw [Tryz.params15] at hA hval
  obtain ⟨v0, vs0, d0, ds0, p0, q0, hargs, rfl, rfl, h0, r0⟩ := trodAll_cons hA
  obtain ⟨v1, vs1, d1, ds1, p1, q1, rfl, rfl, rfl, h1, r1⟩ := trodAll_cons r0
  obtain ⟨v2, vs2, d2, ds2, p2, q2, rfl, rfl, rfl, h2, r2⟩ := trodAll_cons r1
  obtain ⟨v3, vs3, d3, ds3, p3, q3, rfl, rfl, rfl, h3, r3⟩ := trodAll_cons r2
  obtain ⟨v4, vs4, d4, ds4, p4, q4, rfl, rfl, rfl, h4, r4⟩ := trodAll_cons r3
  obtain ⟨v5, vs5, d5, ds5, p5, q5, rfl, rfl, rfl, h5, r5⟩ := trodAll_cons r4
  obtain ⟨rfl, rfl, rfl⟩ := trodAll_nil r5
  obtain rfl : args = #[v0, v1, v2, v3, v4, v5] := by cases args; simp_all
  obtain ⟨rfl, rfl⟩ := trodVars_none hV
  obtain ⟨a0, len0, cap0, rfl⟩ := okWide_slice Tryz.underlying105 (hval 0 105 v0 rfl rfl)
  have k0 := h0
  have lt0 : ∀ x ∈ p0, x.block < W.heap.size := by obtain ⟨m, hm⟩ := k0; exact DataW.trod_lt m _ _ _ hm
  have w0 := isCame2 h0
  obtain ⟨a1, rfl, rfl, rfl, w1⟩ := open_int Tryz.underlying3 (hval 1 3 v1 rfl rfl) h1
  obtain ⟨a2, len2, cap2, rfl⟩ := okWide_slice Tryz.underlying25 (hval 2 25 v2 rfl rfl)
  have k2 := h2
  have lt2 : ∀ x ∈ p2, x.block < W.heap.size := by obtain ⟨m, hm⟩ := k2; exact DataW.trod_lt m _ _ _ hm
  have w2 := isCame h2
  obtain ⟨a3, len3, cap3, rfl⟩ := okWide_slice Tryz.underlying25 (hval 3 25 v3 rfl rfl)
  have k3 := h3
  have lt3 : ∀ x ∈ p3, x.block < W.heap.size := by obtain ⟨m, hm⟩ := k3; exact DataW.trod_lt m _ _ _ hm
  have w3 := isCame h3
  obtain ⟨cs4, rfl, sz4⟩ := okWide_struct Tryz.underlying90 (hval 4 90 v4 rfl rfl)
  have k4 := h4
  have lt4 : ∀ x ∈ p4, x.block < W.heap.size := by obtain ⟨m, hm⟩ := k4; exact DataW.trod_lt m _ _ _ hm
  have w4 := isCame2 h4
  obtain ⟨a5, rfl, rfl, rfl, w5⟩ := open_int Tryz.underlying88 (hval 5 88 v5 rfl rfl) h5
  clear hA0 hval0
  refine (walk a0 len0 cap0 a1 a2 len2 cap2 a3 len3 cap3 cs4 a5 W w0 w1 w2 w3 w4 w5).mono fun e W' ⟨he, bel⟩ => ?_
  subst he
  exact ⟨_, rfl, _, _, _, [], _, [], hW', trodAll_mk1 (shut_bool Tryz.underlying4 _), (trodAll_cons_mk (Below.trod Head.laidOut (by kernel_rfl) (of_decide_eq_true (by kernel_rfl)) k0 bel lt0) (trodAll_cons_mk (shut_int Tryz.underlying3 w1) (trodAll_cons_mk (Below.trod Head.laidOut (by kernel_rfl) (of_decide_eq_true (by kernel_rfl)) k2 bel lt2) (trodAll_cons_mk (Below.trod Head.laidOut (by kernel_rfl) (of_decide_eq_true (by kernel_rfl)) k3 bel lt3) (trodAll_cons_mk (Below.trod Head.laidOut (by kernel_rfl) (of_decide_eq_true (by kernel_rfl)) k4 bel lt4) (trodAll_cons_mk (shut_int Tryz.underlying88 w5) trodAll_mk0)))))), rfl, bel.frame _, fun h => by cases h⟩

theorem q1 : (Rows.tokenBackRow.inPlace == Tryz.prog.inPlace 15) = true := by kernel_rfl
theorem q2 : (Rows.tokenBackRow.unfollowed == Tryz.prog.unfollowed 15) = true := by kernel_rfl
theorem q3 : (Rows.tokenBackRow.recurses == Tryz.prog.recurses 15) = true := by kernel_rfl
theorem q4 : (Rows.tokenBackRow.named == Tryz.prog.varsNamed 15) = true := by kernel_rfl
theorem closed : joinedFacts Tryz.prog 15 Tryz.f15 Rows.tokenBackSpec Rows.tokenBackRow = true :=
  Head.joined_of (by kernel_rfl) Head.laidOut Head.rowed (by kernel_rfl) (by kernel_rfl) (by kernel_rfl) (by kernel_rfl) (by kernel_rfl) (by kernel_rfl) q1 q2 q3 q4 (by kernel_rfl) (by kernel_rfl) (by kernel_rfl) (by kernel_rfl) (by kernel_rfl) (by kernel_rfl) (by kernel_rfl) (by kernel_rfl) (by kernel_rfl) (Head.plain_eq Head.plain rfl) (by kernel_rfl) Head.heard Head.enter (Head.lift_eq Head.final rfl) (Head.make_eq Head.made rfl) (by kernel_rfl) (by kernel_rfl) (by kernel_rfl) (by kernel_rfl)

theorem over : Rows.tokenBackRow.holds Tryz.pinned (OpenSpec.ofChange Rows.tokenBackSpec) :=
  OpenClaim.holds_of_wide 15 Tryz.f15 rfl rfl rfl rfl rfl rfl rfl ⟨rfl, rfl, rfl, rfl, rfl⟩ rfl rfl rfl rfl rfl (by kernel_rfl) Tryz.func15 closed
    (of_decide_eq_true (by kernel_rfl)) (by unfold Func.isWrapper; first | (rw [if_pos (by decide +kernel)]; kernel_rfl) | (rw [if_neg (by decide +kernel)]; exact ⟨rfl, rfl⟩))
    (fun os started H enc _ => lifted os started H enc)

/-- **The statement.** -/
theorem proved : Rows.TokenBackSaid := over
#print axioms proved
end Go.Proofs.YtcfealonnakdcaaGreat.tokenBack
