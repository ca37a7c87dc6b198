/- TokenOpens: the law returns true for every input, and leaves its arguments as they were. No condition. -/
import Derived.Test.YtcfealonnakdcaaGreatRows
import Derived.WalkKit
import Derived.ProofKit
import Derived.OpenShut
import Derived.ShutString
import Derived.ChangeOld
import Derived.Below
import Derived.Test.YtcfealonnakdcaaGreatHead
import Derived.Test.YtcfealonnakdcaaGreatML20
namespace Go.Proofs.YtcfealonnakdcaaGreat.tokenOpens
open Go.ChangeShapes Go.WideShapes Go.ChangeAt Go.RowKit
open Go.ChangeMaps (open_string shut_string)
open Go.Fw Go.Sh
set_option linter.unusedVariables false

theorem own : ownKnob Tryz.prog.godebug = none := by kernel_rfl

set_option maxRecDepth 100000 in
theorem walk (a0 : Option Addr) (len0 cap0 : Nat) (a1 : Option Addr) (len1 cap1 : Nat) (a2 : Option Addr) (len2 cap2 : Nat) (a3 : Int) (w : World) (w0 : IsCame2 Tryz.prog w 105 (.slice a0 len0 cap0)) (w1 : IsCame Tryz.prog w 25 (.slice a1 len1 cap1)) (w2 : IsCame Tryz.prog w 25 (.slice a2 len2 cap2)) (w3 : (Lit.int .u64 a3).wf = true) :
    Calls Tryz.prog 12 #[.slice a0 len0 cap0, .slice a1 len1 cap1, .slice a2 len2 cap2, .int .u64 a3] w fun e w' => e = .returned (.bool true) ∧ Below w.heap.size w w' := by
  refine (callK_of_callF (K := fun v w' => v = .bool true ∧ Below w.heap.size w w') (by kernel_rfl) ?_).mono (fun e w' ⟨v, he, hv, hb⟩ => ⟨by rw [he, hv], hb⟩)
  obtain ⟨vss0, hv0, _, _, hX0, _, hD0⟩ := came_list (P := Tryz.prog) (e := T_law19_Call) (s := 3) (n := 5) (L := [.int .i64, .int .i64, .bytes]) (by kernel_rfl) (by kernel_rfl) (by omega) (by kernel_rfl) w0
  obtain ⟨c0, hok0, hl0, he0⟩ := rcalls_of vss0 hD0
  rw [he0] at hX0
  obtain ⟨b1, hl1, _, hc1, hX1⟩ := came_bytes (by kernel_rfl) w1
  obtain ⟨b2, hl2, _, hc2, hX2⟩ := came_bytes (by kernel_rfl) w2
  obtain ⟨n3, rfl⟩ : ∃ n : Nat, a3 = (n : Int) := Int.eq_ofNat_of_zero_le (by simp [Lit.wf, IntKind.min, IntKind.max, IntKind.bits, IntKind.signed] at w3; omega)
  exact TokenOpens_c hX0 hok0 (by omega) hX1 hl1.symm hc1 hX2 hl2.symm hc2 fun w' hf => ⟨rfl, hf.below⟩

set_option maxRecDepth 100000 in
theorem lifted (os : Os) (started : os.Started) (H : Type) (enc : TypeId × Value → H) :
    ReturnsInHanded {} Tryz.checked os 12 .any (Rows.tokenOpensSpec.pre6 enc Tryz.prog Tryz.f12 Rows.tokenOpensRow.domain false) (Rows.tokenOpensSpec.post enc Tryz.prog Tryz.f12 false true false false) := by
  refine returnsInHanded_of_change (C := Tryz.checked) own started (by kernel_rfl) Tryz.func12
    (ChangeSpec.witness6 (enc := enc) (C := Tryz.checked) false ⟨#[], #[.slice none 0 0, .slice none 0 0, .slice none 0 0, .int .u64 0], []⟩ 8 (by kernel_rfl) (by kernel_rfl) (by kernel_rfl) (by kernel_rfl)) ?_
  intro W base args ds gs before hval0 hW hcnd _
  have hval : ∀ (j : Nat) t v, Tryz.f12.params[j]? = some t → args[j]? = some v → Value.okWide Tryz.prog W .any base t v := hval0
  have hW' := hW
  obtain ⟨p, q, hA0, hV, rfl, hfz, hnd⟩ := hW
  have hA : DataW.TrodAll enc Tryz.prog W 0 (fun _ => true) true Tryz.f12.params.toList args.toList ds p := hA0
  rw [Tryz.params12] at hA hval
  obtain ⟨v0, vs0, d0, ds0, p0, q0, hargs, rfl, rfl, h0, r0⟩ := trodAll_cons hA
  obtain ⟨v1, vs1, d1, ds1, p1, q1, rfl, rfl, rfl, h1, r1⟩ := trodAll_cons r0
  obtain ⟨v2, vs2, d2, ds2, p2, q2, rfl, rfl, rfl, h2, r2⟩ := trodAll_cons r1
  obtain ⟨v3, vs3, d3, ds3, p3, q3, rfl, rfl, rfl, h3, r3⟩ := trodAll_cons r2
  obtain ⟨rfl, rfl, rfl⟩ := trodAll_nil r3
  obtain rfl : args = #[v0, v1, v2, v3] := by cases args; simp_all
  obtain ⟨rfl, rfl⟩ := trodVars_none hV
  obtain ⟨a0, len0, cap0, rfl⟩ := okWide_slice Tryz.underlying105 (hval 0 105 v0 rfl rfl)
  have k0 := h0
  have lt0 : ∀ x ∈ p0, x.block < W.heap.size := by obtain ⟨m, hm⟩ := k0; exact DataW.trod_lt m _ _ _ hm
  have w0 := isCame2 h0
  obtain ⟨a1, len1, cap1, rfl⟩ := okWide_slice Tryz.underlying25 (hval 1 25 v1 rfl rfl)
  have k1 := h1
  have lt1 : ∀ x ∈ p1, x.block < W.heap.size := by obtain ⟨m, hm⟩ := k1; exact DataW.trod_lt m _ _ _ hm
  have w1 := isCame h1
  obtain ⟨a2, len2, cap2, rfl⟩ := okWide_slice Tryz.underlying25 (hval 2 25 v2 rfl rfl)
  have k2 := h2
  have lt2 : ∀ x ∈ p2, x.block < W.heap.size := by obtain ⟨m, hm⟩ := k2; exact DataW.trod_lt m _ _ _ hm
  have w2 := isCame h2
  obtain ⟨a3, rfl, rfl, rfl, w3⟩ := open_int Tryz.underlying88 (hval 3 88 v3 rfl rfl) h3
  clear hA0 hval0
  refine (walk a0 len0 cap0 a1 len1 cap1 a2 len2 cap2 a3 W w0 w1 w2 w3).mono fun e W' ⟨he, bel⟩ => ?_
  subst he
  exact ⟨_, rfl, _, _, _, [], _, [], hW', trodAll_mk1 (shut_bool Tryz.underlying4 _), (trodAll_cons_mk (Below.trod Head.laidOut (by kernel_rfl) (of_decide_eq_true (by kernel_rfl)) k0 bel lt0) (trodAll_cons_mk (Below.trod Head.laidOut (by kernel_rfl) (of_decide_eq_true (by kernel_rfl)) k1 bel lt1) (trodAll_cons_mk (Below.trod Head.laidOut (by kernel_rfl) (of_decide_eq_true (by kernel_rfl)) k2 bel lt2) (trodAll_cons_mk (shut_int Tryz.underlying88 w3) trodAll_mk0)))), rfl, bel.frame _, fun h => by cases h⟩

theorem q1 : (Rows.tokenOpensRow.inPlace == Tryz.prog.inPlace 12) = true := by kernel_rfl
theorem q2 : (Rows.tokenOpensRow.unfollowed == Tryz.prog.unfollowed 12) = true := by kernel_rfl
theorem q3 : (Rows.tokenOpensRow.recurses == Tryz.prog.recurses 12) = true := by kernel_rfl
theorem q4 : (Rows.tokenOpensRow.named == Tryz.prog.varsNamed 12) = true := by kernel_rfl
theorem closed : joinedFacts Tryz.prog 12 Tryz.f12 Rows.tokenOpensSpec Rows.tokenOpensRow = true :=
  Head.joined_of (by kernel_rfl) Head.laidOut Head.rowed (by kernel_rfl) (by kernel_rfl) (by kernel_rfl) (by kernel_rfl) (by kernel_rfl) (by kernel_rfl) q1 q2 q3 q4 (by kernel_rfl) (by kernel_rfl) (by kernel_rfl) (by kernel_rfl) (by kernel_rfl) (by kernel_rfl) (by kernel_rfl) (by kernel_rfl) (by kernel_rfl) (Head.plain_eq Head.plain rfl) (by kernel_rfl) Head.heard Head.enter (Head.lift_eq Head.final rfl) (Head.make_eq Head.made rfl) (by kernel_rfl) (by kernel_rfl) (by kernel_rfl) (by kernel_rfl)

theorem over : Rows.tokenOpensRow.holds Tryz.pinned (OpenSpec.ofChange Rows.tokenOpensSpec) :=
  OpenClaim.holds_of_wide 12 Tryz.f12 rfl rfl rfl rfl rfl rfl rfl ⟨rfl, rfl, rfl, rfl, rfl⟩ rfl rfl rfl rfl rfl (by kernel_rfl) Tryz.func12 closed
    (of_decide_eq_true (by kernel_rfl)) (by unfold Func.isWrapper; first | (rw [if_pos (by decide +kernel)]; kernel_rfl) | (rw [if_neg (by decide +kernel)]; exact ⟨rfl, rfl⟩))
    (fun os started H enc _ => lifted os started H enc)

/-- **The statement.** -/
theorem proved : Rows.TokenOpensSaid := over
#print axioms proved
end Go.Proofs.YtcfealonnakdcaaGreat.tokenOpens
