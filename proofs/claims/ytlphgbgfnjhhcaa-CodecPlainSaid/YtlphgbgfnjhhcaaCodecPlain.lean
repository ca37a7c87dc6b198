/- CodecPlain: the law returns true for every input, and leaves its arguments as they were. No condition. -/
import Derived.Test.YtlphgbgfnjhhcaaRows
import Derived.WalkKit
import Derived.ProofKit
import Derived.OpenShut
import Derived.ShutString
import Derived.ChangeOld
import Derived.Below
import Derived.Test.YtlphgbgfnjhhcaaHead
import Derived.Test.YtlphgbgfnjhhcaaML17
namespace Go.Proofs.Ytlphgbgfnjhhcaa.codecPlain
open Go.ChangeShapes Go.WideShapes Go.ChangeAt Go.RowKit
open Go.ChangeMaps (open_string shut_string)
open Go.Fw Go.Sh
set_option linter.unusedVariables false

theorem own : ownKnob Try.prog.godebug = none := by kernel_rfl

set_option maxRecDepth 100000 in
theorem walk (a0 : Int) (a1 : Option Addr) (len1 cap1 : Nat) (cs2 : Array Value) (w : World) (w0 : (Lit.int .i64 a0).wf = true) (w1 : IsCame Try.prog w 50 (.slice a1 len1 cap1)) (w2 : IsCame2 Try.prog w 102 (.agg cs2)) :
    Calls Try.prog 26 #[.int .i64 a0, .slice a1 len1 cap1, .agg cs2] w fun e w' => e = .returned (.bool true) ∧ Below w.heap.size w w' := by
  refine (callK_of_callF (K := fun v w' => v = .bool true ∧ Below w.heap.size w w') (by kernel_rfl) ?_).mono (fun e w' ⟨v, he, hv, hb⟩ => ⟨by rw [he, hv], hb⟩)
  obtain ⟨m, s, n, key, rfl, hk, _, _, _⟩ := came_cfg (n := 16) (by kernel_rfl) w2
  obtain ⟨xs, hx, _, hcx, hX⟩ := came_bytes (by kernel_rfl) w1
  exact CodecPlain_c a0 hk hX hx.symm hcx fun w' hf => ⟨rfl, hf.below⟩

set_option maxRecDepth 100000 in
theorem lifted (os : Os) (started : os.Started) (H : Type) (enc : TypeId × Value → H) :
    ReturnsInHanded {} Try.checked os 26 .any (Rows.codecPlainSpec.pre6 enc Try.prog Try.f26 Rows.codecPlainRow.domain false) (Rows.codecPlainSpec.post enc Try.prog Try.f26 false true false false) := by
  refine returnsInHanded_of_change (C := Try.checked) own started (by kernel_rfl) Try.func26
    (ChangeSpec.witness6 (enc := enc) (C := Try.checked) false ⟨#[], #[.int .i64 0, .slice none 0 0, .agg #[.int .i64 0, .int .i64 0, .int .i64 0, .int .u8 0, .int .u8 0, .int .u8 0, .int .u8 0, .int .u8 0, .int .u8 0, .int .u8 0, .int .u8 0, .int .u8 0, .int .u8 0, .int .u8 0, .int .u8 0, .int .u8 0, .int .u8 0, .int .u8 0, .int .u8 0]], []⟩ 8 (by kernel_rfl) (by kernel_rfl) (by kernel_rfl) (by kernel_rfl)) ?_
  intro W base args ds gs before hval0 hW hcnd _
  have hval : ∀ (j : Nat) t v, Try.f26.params[j]? = some t → args[j]? = some v → Value.okWide Try.prog W .any base t v := hval0
  have hW' := hW
  obtain ⟨p, q, hA0, hV, rfl, hfz, hnd⟩ := hW
  have hA : DataW.TrodAll enc Try.prog W 0 (fun _ => true) true Try.f26.params.toList args.toList ds p := hA0
  rw [Try.params26] at hA hval
  obtain ⟨v0, vs0, d0, ds0, p0, q0, hargs, rfl, rfl, h0, r0⟩ := trodAll_cons hA
  obtain ⟨v1, vs1, d1, ds1, p1, q1, rfl, rfl, rfl, h1, r1⟩ := trodAll_cons r0
  obtain ⟨v2, vs2, d2, ds2, p2, q2, rfl, rfl, rfl, h2, r2⟩ := trodAll_cons r1
  obtain ⟨rfl, rfl, rfl⟩ := trodAll_nil r2
  obtain rfl : args = #[v0, v1, v2] := by cases args; simp_all
  obtain ⟨rfl, rfl⟩ := trodVars_none hV
  obtain ⟨a0, rfl, rfl, rfl, w0⟩ := open_int Try.underlying3 (hval 0 3 v0 rfl rfl) h0
  obtain ⟨a1, len1, cap1, rfl⟩ := okWide_slice Try.underlying50 (hval 1 50 v1 rfl rfl)
  have k1 := h1
  have lt1 : ∀ x ∈ p1, x.block < W.heap.size := by obtain ⟨m, hm⟩ := k1; exact DataW.trod_lt m _ _ _ hm
  have w1 := isCame h1
  obtain ⟨cs2, rfl, sz2⟩ := okWide_struct Try.underlying102 (hval 2 102 v2 rfl rfl)
  have k2 := h2
  have lt2 : ∀ x ∈ p2, x.block < W.heap.size := by obtain ⟨m, hm⟩ := k2; exact DataW.trod_lt m _ _ _ hm
  have w2 := isCame2 h2
  clear hA0 hval0
  refine (walk a0 a1 len1 cap1 cs2 W w0 w1 w2).mono fun e W' ⟨he, bel⟩ => ?_
  subst he
  exact ⟨_, rfl, _, _, _, [], _, [], hW', trodAll_mk1 (shut_bool Try.underlying4 _), (trodAll_cons_mk (shut_int Try.underlying3 w0) (trodAll_cons_mk (Below.trod Head.laidOut (by kernel_rfl) (of_decide_eq_true (by kernel_rfl)) k1 bel lt1) (trodAll_cons_mk (Below.trod Head.laidOut (by kernel_rfl) (of_decide_eq_true (by kernel_rfl)) k2 bel lt2) trodAll_mk0))), rfl, bel.frame _, fun h => by cases h⟩

theorem q1 : (Rows.codecPlainRow.inPlace == Try.prog.inPlace 26) = true := by kernel_rfl
theorem q2 : (Rows.codecPlainRow.unfollowed == Try.prog.unfollowed 26) = true := by kernel_rfl
theorem q3 : (Rows.codecPlainRow.recurses == Try.prog.recurses 26) = true := by kernel_rfl
theorem q4 : (Rows.codecPlainRow.named == Try.prog.varsNamed 26) = true := by kernel_rfl
theorem closed : joinedFacts Try.prog 26 Try.f26 Rows.codecPlainSpec Rows.codecPlainRow = true :=
  Head.joined_of (by kernel_rfl) Head.laidOut Head.rowed (by kernel_rfl) (by kernel_rfl) (by kernel_rfl) (by kernel_rfl) (by kernel_rfl) (by kernel_rfl) q1 q2 q3 q4 (by kernel_rfl) (by kernel_rfl) (by kernel_rfl) (by kernel_rfl) (by kernel_rfl) (by kernel_rfl) (by kernel_rfl) (by kernel_rfl) (by kernel_rfl) (Head.plain_eq Head.plain rfl) (by kernel_rfl) Head.heard Head.enter (Head.lift_eq Head.final rfl) (Head.make_eq Head.made rfl) (by kernel_rfl) (by kernel_rfl) (by kernel_rfl) (by kernel_rfl)

theorem over : Rows.codecPlainRow.holds Try.pinned (OpenSpec.ofChange Rows.codecPlainSpec) :=
  OpenClaim.holds_of_wide 26 Try.f26 rfl rfl rfl rfl rfl rfl rfl ⟨rfl, rfl, rfl, rfl, rfl⟩ rfl rfl rfl rfl rfl (by kernel_rfl) Try.func26 closed
    (of_decide_eq_true (by kernel_rfl)) (by unfold Func.isWrapper; first | (rw [if_pos (by decide +kernel)]; kernel_rfl) | (rw [if_neg (by decide +kernel)]; exact ⟨rfl, rfl⟩))
    (fun os started H enc _ => lifted os started H enc)

/-- **The statement.** -/
theorem proved : Rows.CodecPlainSaid := over
#print axioms proved
end Go.Proofs.Ytlphgbgfnjhhcaa.codecPlain
