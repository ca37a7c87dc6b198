/- RingNewest: the law returns true for every input, and leaves its arguments as they were. No condition. -/
import Derived.Test.YtopjbcjbohegcaaRows
import Derived.WalkKit
import Derived.ProofKit
import Derived.OpenShut
import Derived.ShutString
import Derived.ChangeOld
import Derived.Below
import Derived.Test.YtopjbcjbohegcaaHead
import Derived.Test.YtopjbcjbohegcaaML19
namespace Go.Proofs.Ytopjbcjbohegcaa.ringNewest
open Go.ChangeShapes Go.WideShapes Go.ChangeAt Go.RowKit
open Go.ChangeMaps (open_string shut_string)
open Go.Fw Go.Sh
set_option linter.unusedVariables false

theorem own : ownKnob Try.prog.godebug = none := by kernel_rfl

set_option maxRecDepth 100000 in
theorem walk (a0 : Option Addr) (len0 cap0 : Nat) (w : World) (w0 : IsCame2 Try.prog w 22 (.slice a0 len0 cap0)) :
    Calls Try.prog 5 #[.slice a0 len0 cap0] w fun e w' => e = .returned (.bool true) ∧ Below w.heap.size w w' := by
  refine (callK_of_callF (K := fun v w' => v = .bool true ∧ Below w.heap.size w w') (by kernel_rfl) ?_).mono (fun e w' ⟨v, he, hv, hb⟩ => ⟨by rw [he, hv], hb⟩)
  obtain ⟨vss, hv, _, _, hX, _, hD⟩ := came_list (P := Try.prog) (e := T_law19_Call) (s := 3) (n := 5) (L := [.int .i64, .int .i64, .bytes]) (by kernel_rfl) (by kernel_rfl) (by omega) (by kernel_rfl) w0
  obtain ⟨cs, hok, hl, he⟩ := rcalls_of vss hD
  rw [he] at hX
  exact RingNewest_c hX hok (by omega) fun w' hf => ⟨rfl, hf.below⟩

set_option maxRecDepth 100000 in
theorem lifted (os : Os) (started : os.Started) (H : Type) (enc : TypeId × Value → H) :
    ReturnsInHanded {} Try.checked os 5 .any (Rows.ringNewestSpec.pre6 enc Try.prog Try.f5 Rows.ringNewestRow.domain false) (Rows.ringNewestSpec.post enc Try.prog Try.f5 false true false false) := by
  refine returnsInHanded_of_change (C := Try.checked) own started (by kernel_rfl) Try.func5
    (ChangeSpec.witness6 (enc := enc) (C := Try.checked) false ⟨#[], #[.slice none 0 0], []⟩ 8 (by kernel_rfl) (by kernel_rfl) (by kernel_rfl) (by kernel_rfl)) ?_
  intro W base args ds gs before hval0 hW hcnd _
  have hval : ∀ (j : Nat) t v, Try.f5.params[j]? = some t → args[j]? = some v → Value.okWide Try.prog W .any base t v := hval0
  have hW' := hW
  obtain ⟨p, q, hA0, hV, rfl, hfz, hnd⟩ := hW
  have hA : DataW.TrodAll enc Try.prog W 0 (fun _ => true) true Try.f5.params.toList args.toList ds p := hA0
  rw [Try.params5] at hA hval
  obtain ⟨v0, vs0, d0, ds0, p0, q0, hargs, rfl, rfl, h0, r0⟩ := trodAll_cons hA
  obtain ⟨rfl, rfl, rfl⟩ := trodAll_nil r0
  obtain rfl : args = #[v0] := by cases args; simp_all
  obtain ⟨rfl, rfl⟩ := trodVars_none hV
  obtain ⟨a0, len0, cap0, rfl⟩ := okWide_slice Try.underlying22 (hval 0 22 v0 rfl rfl)
  have k0 := h0
  have lt0 : ∀ x ∈ p0, x.block < W.heap.size := by obtain ⟨m, hm⟩ := k0; exact DataW.trod_lt m _ _ _ hm
  have w0 := isCame2 h0
  clear hA0 hval0
  refine (walk a0 len0 cap0 W w0).mono fun e W' ⟨he, bel⟩ => ?_
  subst he
  exact ⟨_, rfl, _, _, _, [], _, [], hW', trodAll_mk1 (shut_bool Try.underlying4 _), (trodAll_cons_mk (Below.trod Head.laidOut (by kernel_rfl) (of_decide_eq_true (by kernel_rfl)) k0 bel lt0) trodAll_mk0), rfl, bel.frame _, fun h => by cases h⟩

theorem q1 : (Rows.ringNewestRow.inPlace == Try.prog.inPlace 5) = true := by kernel_rfl
theorem q2 : (Rows.ringNewestRow.unfollowed == Try.prog.unfollowed 5) = true := by kernel_rfl
theorem q3 : (Rows.ringNewestRow.recurses == Try.prog.recurses 5) = true := by kernel_rfl
theorem q4 : (Rows.ringNewestRow.named == Try.prog.varsNamed 5) = true := by kernel_rfl
theorem closed : joinedFacts Try.prog 5 Try.f5 Rows.ringNewestSpec Rows.ringNewestRow = true :=
  Head.joined_of (by kernel_rfl) Head.laidOut Head.rowed (by kernel_rfl) (by kernel_rfl) (by kernel_rfl) (by kernel_rfl) (by kernel_rfl) (by kernel_rfl) q1 q2 q3 q4 (by kernel_rfl) (by kernel_rfl) (by kernel_rfl) (by kernel_rfl) (by kernel_rfl) (by kernel_rfl) (by kernel_rfl) (by kernel_rfl) (by kernel_rfl) (Head.plain_eq Head.plain rfl) (by kernel_rfl) Head.heard Head.enter (Head.lift_eq Head.final rfl) (Head.make_eq Head.made rfl) (by kernel_rfl) (by kernel_rfl) (by kernel_rfl) (by kernel_rfl)

theorem over : Rows.ringNewestRow.holds Try.pinned (OpenSpec.ofChange Rows.ringNewestSpec) :=
  OpenClaim.holds_of_wide 5 Try.f5 rfl rfl rfl rfl rfl rfl rfl ⟨rfl, rfl, rfl, rfl, rfl⟩ rfl rfl rfl rfl rfl (by kernel_rfl) Try.func5 closed
    (of_decide_eq_true (by kernel_rfl)) (by unfold Func.isWrapper; first | (rw [if_pos (by decide +kernel)]; kernel_rfl) | (rw [if_neg (by decide +kernel)]; exact ⟨rfl, rfl⟩))
    (fun os started H enc _ => lifted os started H enc)

/-- **The statement.** -/
theorem proved : Rows.RingNewestSaid := over
#print axioms proved
end Go.Proofs.Ytopjbcjbohegcaa.ringNewest
