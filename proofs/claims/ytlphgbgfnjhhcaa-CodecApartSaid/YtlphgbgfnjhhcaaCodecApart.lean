/- CodecApart: the law returns true for every input, and leaves its arguments as they were. No condition. -/
import Derived.Test.YtlphgbgfnjhhcaaRows
import Derived.WalkKit
import Derived.ProofKit
import Derived.OpenShut
import Derived.ShutString
import Derived.ChangeOld
import Derived.Below
import Derived.Test.YtlphgbgfnjhhcaaHead
import Derived.Test.YtlphgbgfnjhhcaaML17
namespace Go.Proofs.Ytlphgbgfnjhhcaa.codecApart
open Go.ChangeShapes Go.WideShapes Go.ChangeAt Go.RowKit
open Go.ChangeMaps (open_string shut_string)
open Go.Fw Go.Sh
set_option linter.unusedVariables false

theorem own : ownKnob Try.prog.godebug = none := by kernel_rfl

set_option maxRecDepth 100000 in
theorem walk (cs0 : Array Value) (a1 : Int) (a2 : Int) (a3 : Option Addr) (len3 cap3 : Nat) (a4 : Option Addr) (len4 cap4 : Nat) (a5 : Option Addr) (len5 cap5 : Nat) (a6 : Option Addr) (len6 cap6 : Nat) (w : World) (w0 : IsCame2 Try.prog w 102 (.agg cs0)) (w1 : (Lit.int .i64 a1).wf = true) (w2 : (Lit.int .i64 a2).wf = true) (w3 : IsCame Try.prog w 50 (.slice a3 len3 cap3)) (w4 : IsCame Try.prog w 50 (.slice a4 len4 cap4)) (w5 : IsCame Try.prog w 50 (.slice a5 len5 cap5)) (w6 : IsCame Try.prog w 50 (.slice a6 len6 cap6)) :
    Calls Try.prog 25 #[.agg cs0, .int .i64 a1, .int .i64 a2, .slice a3 len3 cap3, .slice a4 len4 cap4, .slice a5 len5 cap5, .slice a6 len6 cap6] w fun e w' => e = .returned (.bool true) ∧ Below w.heap.size w w' := by
  refine (callK_of_callF (K := fun v w' => v = .bool true ∧ Below w.heap.size w w') (by kernel_rfl) ?_).mono (fun e w' ⟨v, he, hv, hb⟩ => ⟨by rw [he, hv], hb⟩)
  obtain ⟨m, s, n, key, rfl, hk, _, _, _⟩ := came_cfg (n := 16) (by kernel_rfl) w0
  obtain ⟨xs, hx, _, hcx, hX⟩ := came_bytes (by kernel_rfl) w3
  obtain ⟨ys, hy, _, hcy, hY⟩ := came_bytes (by kernel_rfl) w4
  obtain ⟨zs, hz, _, hcz, hZ⟩ := came_bytes (by kernel_rfl) w5
  obtain ⟨us, hu, _, hcu, hU⟩ := came_bytes (by kernel_rfl) w6
  exact CodecApart_c a1 a2 hk hX hx.symm hcx hY hy.symm hcy hZ hz.symm hcz hU hu.symm hcu fun w' hf => ⟨rfl, hf.below⟩

set_option maxRecDepth 100000 in
theorem lifted (os : Os) (started : os.Started) (H : Type) (enc : TypeId × Value → H) :
    ReturnsInHanded {} Try.checked os 25 .any (Rows.codecApartSpec.pre6 enc Try.prog Try.f25 Rows.codecApartRow.domain false) (Rows.codecApartSpec.post enc Try.prog Try.f25 false true false false) := by
  refine returnsInHanded_of_change (C := Try.checked) own started (by kernel_rfl) Try.func25
    (ChangeSpec.witness6 (enc := enc) (C := Try.checked) false ⟨#[], #[.agg #[.int .i64 0, .int .i64 0, .int .i64 0, .int .u8 0, .int .u8 0, .int .u8 0, .int .u8 0, .int .u8 0, .int .u8 0, .int .u8 0, .int .u8 0, .int .u8 0, .int .u8 0, .int .u8 0, .int .u8 0, .int .u8 0, .int .u8 0, .int .u8 0, .int .u8 0], .int .i64 0, .int .i64 0, .slice none 0 0, .slice none 0 0, .slice none 0 0, .slice none 0 0], []⟩ 8 (by kernel_rfl) (by kernel_rfl) (by kernel_rfl) (by kernel_rfl)) ?_
  intro W base args ds gs before hval0 hW hcnd _
  have hval : ∀ (j : Nat) t v, Try.f25.params[j]? = some t → args[j]? = some v → Value.okWide Try.prog W .any base t v := hval0
  have hW' := hW
  obtain ⟨p, q, hA0, hV, rfl, hfz, hnd⟩ := hW
  have hA : DataW.TrodAll enc Try.prog W 0 (fun _ => true) true Try.f25.params.toList args.toList ds p := hA0
  rw [Try.params25] at hA hval
  obtain ⟨v0, vs0, d0, ds0, p0, q0, hargs, rfl, rfl, h0, r0⟩ := trodAll_cons hA
  obtain ⟨v1, vs1, d1, ds1, p1, q1, rfl, rfl, rfl, h1, r1⟩ := trodAll_cons r0
  obtain ⟨v2, vs2, d2, ds2, p2, q2, rfl, rfl, rfl, h2, r2⟩ := trodAll_cons r1
  obtain ⟨v3, vs3, d3, ds3, p3, q3, rfl, rfl, rfl, h3, r3⟩ := trodAll_cons r2
  obtain ⟨v4, vs4, d4, ds4, p4, q4, rfl, rfl, rfl, h4, r4⟩ := trodAll_cons r3
  obtain ⟨v5, vs5, d5, ds5, p5, q5, rfl, rfl, rfl, h5, r5⟩ := trodAll_cons r4
  obtain ⟨v6, vs6, d6, ds6, p6, q6, rfl, rfl, rfl, h6, r6⟩ := trodAll_cons r5
  obtain ⟨rfl, rfl, rfl⟩ := trodAll_nil r6
  obtain rfl : args = #[v0, v1, v2, v3, v4, v5, v6] := by cases args; simp_all
  obtain ⟨rfl, rfl⟩ := trodVars_none hV
  obtain ⟨cs0, rfl, sz0⟩ := okWide_struct Try.underlying102 (hval 0 102 v0 rfl rfl)
  have k0 := h0
  have lt0 : ∀ x ∈ p0, x.block < W.heap.size := by obtain ⟨m, hm⟩ := k0; exact DataW.trod_lt m _ _ _ hm
  have w0 := isCame2 h0
  obtain ⟨a1, rfl, rfl, rfl, w1⟩ := open_int Try.underlying3 (hval 1 3 v1 rfl rfl) h1
  obtain ⟨a2, rfl, rfl, rfl, w2⟩ := open_int Try.underlying3 (hval 2 3 v2 rfl rfl) h2
  obtain ⟨a3, len3, cap3, rfl⟩ := okWide_slice Try.underlying50 (hval 3 50 v3 rfl rfl)
  have k3 := h3
  have lt3 : ∀ x ∈ p3, x.block < W.heap.size := by obtain ⟨m, hm⟩ := k3; exact DataW.trod_lt m _ _ _ hm
  have w3 := isCame h3
  obtain ⟨a4, len4, cap4, rfl⟩ := okWide_slice Try.underlying50 (hval 4 50 v4 rfl rfl)
  have k4 := h4
  have lt4 : ∀ x ∈ p4, x.block < W.heap.size := by obtain ⟨m, hm⟩ := k4; exact DataW.trod_lt m _ _ _ hm
  have w4 := isCame h4
  obtain ⟨a5, len5, cap5, rfl⟩ := okWide_slice Try.underlying50 (hval 5 50 v5 rfl rfl)
  have k5 := h5
  have lt5 : ∀ x ∈ p5, x.block < W.heap.size := by obtain ⟨m, hm⟩ := k5; exact DataW.trod_lt m _ _ _ hm
  have w5 := isCame h5
  obtain ⟨a6, len6, cap6, rfl⟩ := okWide_slice Try.underlying50 (hval 6 50 v6 rfl rfl)
  have k6 := h6
  have lt6 : ∀ x ∈ p6, x.block < W.heap.size := by obtain ⟨m, hm⟩ := k6; exact DataW.trod_lt m _ _ _ hm
  have w6 := isCame h6
  clear hA0 hval0
  refine (walk cs0 a1 a2 a3 len3 cap3 a4 len4 cap4 a5 len5 cap5 a6 len6 cap6 W w0 w1 w2 w3 w4 w5 w6).mono fun e W' ⟨he, bel⟩ => ?_
  subst he
  exact ⟨_, rfl, _, _, _, [], _, [], hW', trodAll_mk1 (shut_bool Try.underlying4 _), (trodAll_cons_mk (Below.trod Head.laidOut (by kernel_rfl) (of_decide_eq_true (by kernel_rfl)) k0 bel lt0) (trodAll_cons_mk (shut_int Try.underlying3 w1) (trodAll_cons_mk (shut_int Try.underlying3 w2) (trodAll_cons_mk (Below.trod Head.laidOut (by kernel_rfl) (of_decide_eq_true (by kernel_rfl)) k3 bel lt3) (trodAll_cons_mk (Below.trod Head.laidOut (by kernel_rfl) (of_decide_eq_true (by kernel_rfl)) k4 bel lt4) (trodAll_cons_mk (Below.trod Head.laidOut (by kernel_rfl) (of_decide_eq_true (by kernel_rfl)) k5 bel lt5) (trodAll_cons_mk (Below.trod Head.laidOut (by kernel_rfl) (of_decide_eq_true (by kernel_rfl)) k6 bel lt6) trodAll_mk0))))))), rfl, bel.frame _, fun h => by cases h⟩

theorem q1 : (Rows.codecApartRow.inPlace == Try.prog.inPlace 25) = true := by kernel_rfl
theorem q2 : (Rows.codecApartRow.unfollowed == Try.prog.unfollowed 25) = true := by kernel_rfl
theorem q3 : (Rows.codecApartRow.recurses == Try.prog.recurses 25) = true := by kernel_rfl
theorem q4 : (Rows.codecApartRow.named == Try.prog.varsNamed 25) = true := by kernel_rfl
theorem closed : joinedFacts Try.prog 25 Try.f25 Rows.codecApartSpec Rows.codecApartRow = true :=
  Head.joined_of (by kernel_rfl) Head.laidOut Head.rowed (by kernel_rfl) (by kernel_rfl) (by kernel_rfl) (by kernel_rfl) (by kernel_rfl) (by kernel_rfl) q1 q2 q3 q4 (by kernel_rfl) (by kernel_rfl) (by kernel_rfl) (by kernel_rfl) (by kernel_rfl) (by kernel_rfl) (by kernel_rfl) (by kernel_rfl) (by kernel_rfl) (Head.plain_eq Head.plain rfl) (by kernel_rfl) Head.heard Head.enter (Head.lift_eq Head.final rfl) (Head.make_eq Head.made rfl) (by kernel_rfl) (by kernel_rfl) (by kernel_rfl) (by kernel_rfl)

theorem over : Rows.codecApartRow.holds Try.pinned (OpenSpec.ofChange Rows.codecApartSpec) :=
  OpenClaim.holds_of_wide 25 Try.f25 rfl rfl rfl rfl rfl rfl rfl ⟨rfl, rfl, rfl, rfl, rfl⟩ rfl rfl rfl rfl rfl (by kernel_rfl) Try.func25 closed
    (of_decide_eq_true (by kernel_rfl)) (by unfold Func.isWrapper; first | (rw [if_pos (by decide +kernel)]; kernel_rfl) | (rw [if_neg (by decide +kernel)]; exact ⟨rfl, rfl⟩))
    (fun os started H enc _ => lifted os started H enc)

/-- **The statement.** -/
theorem proved : Rows.CodecApartSaid := over
#print axioms proved
end Go.Proofs.Ytlphgbgfnjhhcaa.codecApart
