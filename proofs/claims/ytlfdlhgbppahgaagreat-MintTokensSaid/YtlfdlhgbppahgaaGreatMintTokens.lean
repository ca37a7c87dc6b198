/- MintTokens: the law returns true for every input, and leaves its arguments as they were. No condition. -/
import Derived.Test.YtlfdlhgbppahgaaGreatRows
import Derived.WalkKit
import Derived.ProofKit
import Derived.OpenShut
import Derived.ShutString
import Derived.ChangeOld
import Derived.Below
import Derived.Test.YtlfdlhgbppahgaaGreatHead
import Derived.Test.YtlfdlhgbppahgaaGreatMC9
namespace Go.Proofs.YtlfdlhgbppahgaaGreat.mintTokens
open Go.ChangeShapes Go.WideShapes Go.ChangeAt Go.RowKit
open Go.ChangeMaps (open_string shut_string)
open Go.Fw Go.Sh
set_option linter.unusedVariables false

theorem own : ownKnob Tryz.prog.godebug = none := by kernel_rfl

set_option maxRecDepth 100000 in
theorem walk (cs0 : Array Value) (a1 : Option Addr) (len1 cap1 : Nat) (cs2 : Array Value) (a3 : Int) (a4 : Option Addr) (len4 cap4 : Nat) (cs5 : Array Value) (w : World) (w0 : IsCame2 Tryz.prog w 30 (.agg cs0)) (w1 : IsCame2 Tryz.prog w 51 (.slice a1 len1 cap1)) (w2 : IsCame2 Tryz.prog w 53 (.agg cs2)) (w3 : (Lit.int .u64 a3).wf = true) (w4 : IsCame Tryz.prog w 22 (.slice a4 len4 cap4)) (w5 : IsCame2 Tryz.prog w 30 (.agg cs5)) :
    Calls Tryz.prog 6 #[.agg cs0, .slice a1 len1 cap1, .agg cs2, .int .u64 a3, .slice a4 len4 cap4, .agg cs5] w fun e w' => e = .returned (.bool true) ∧ Below w.heap.size w w' := by
  refine (callK_of_callF (K := fun v w' => v = .bool true ∧ Below w.heap.size w w') (by kernel_rfl) ?_).mono (fun e w' ⟨v, he, hv, hb⟩ => ⟨by rw [he, hv], hb⟩)
  have hd0 := came_struct (P := Tryz.prog) (n := 5) (L := [.int .i64, .bool, .int .i64, .int .u64]) (by kernel_rfl) w0
  obtain ⟨g, he0, _⟩ := plan_of hd0
  obtain rfl : cs0 = ⟨g.v⟩ := Array.ext' he0
  obtain ⟨vss, hv, _, _, hX1, _, hD⟩ := came_list (P := Tryz.prog) (e := T_law21_Call) (s := 15) (n := 5) (L := Lf21) (by kernel_rfl) (by kernel_rfl) (by omega) (by kernel_rfl) w1
  obtain ⟨cs, hok, hl, he⟩ := mcalls_of vss hD
  rw [he] at hX1
  have hd2 := came_struct (P := Tryz.prog) (n := 5) (L := Lf21) (by kernel_rfl) w2
  obtain ⟨x, hx, he2⟩ := mcall_of hd2
  obtain rfl : cs2 = ⟨x.v⟩ := Array.ext' he2
  obtain ⟨later, rfl, hlat⟩ := wfU (n := 18446744073709551616) w3 ⟨rfl, rfl⟩
  obtain ⟨b4, hl4, _, hc4, hX4⟩ := came_bytes (by kernel_rfl) w4
  have hd5 := came_struct (P := Tryz.prog) (n := 5) (L := [.int .i64, .bool, .int .i64, .int .u64]) (by kernel_rfl) w5
  obtain ⟨g2, he5, _⟩ := plan_of hd5
  obtain rfl : cs5 = ⟨g2.v⟩ := Array.ext' he5
  exact MintTokens_c (g := g) (g2 := g2) hX1 hok (by omega) hx hX4 hl4.symm hc4 hlat fun w' hf => ⟨rfl, hf.below⟩

set_option maxRecDepth 100000 in
theorem lifted (os : Os) (started : os.Started) (H : Type) (enc : TypeId × Value → H) :
    ReturnsInHanded {} Tryz.checked os 6 .any (Rows.mintTokensSpec.pre6 enc Tryz.prog Tryz.f6 Rows.mintTokensRow.domain false) (Rows.mintTokensSpec.post enc Tryz.prog Tryz.f6 false true false false) := by
  refine returnsInHanded_of_change (C := Tryz.checked) own started (by kernel_rfl) Tryz.func6
    (ChangeSpec.witness6 (enc := enc) (C := Tryz.checked) false ⟨#[], #[.agg #[.int .i64 0, .bool false, .int .i64 0, .int .u64 0], .slice none 0 0, .agg #[.int .i64 0, .int .i64 0, .int .i64 0, .bool false, .int .i64 0, .int .u64 0, .slice none 0 0, .slice none 0 0, .int .u8 0, .int .u32 0, .slice none 0 0, .slice none 0 0, .slice none 0 0, .slice none 0 0, .int .u64 0], .int .u64 0, .slice none 0 0, .agg #[.int .i64 0, .bool false, .int .i64 0, .int .u64 0]], []⟩ 8 (by kernel_rfl) (by kernel_rfl) (by kernel_rfl) (by kernel_rfl)) ?_
  intro W base args ds gs before hval0 hW hcnd _
  have hval : ∀ (j : Nat) t v, Tryz.f6.params[j]? = some t → args[j]? = some v → Value.okWide Tryz.prog W .any base t v := hval0
  have hW' := hW
  obtain ⟨p, q, hA0, hV, rfl, hfz, hnd⟩ := hW
  have hA : DataW.TrodAll enc Tryz.prog W 0 (fun _ => true) true Tryz.f6.params.toList args.toList ds p := hA0
  rw [Tryz.params6] at hA hval
  obtain ⟨v0, vs0, d0, ds0, p0, q0, hargs, rfl, rfl, h0, r0⟩ := trodAll_cons hA
  obtain ⟨v1, vs1, d1, ds1, p1, q1, rfl, rfl, rfl, h1, r1⟩ := trodAll_cons r0
  obtain ⟨v2, vs2, d2, ds2, p2, q2, rfl, rfl, rfl, h2, r2⟩ := trodAll_cons r1
  obtain ⟨v3, vs3, d3, ds3, p3, q3, rfl, rfl, rfl, h3, r3⟩ := trodAll_cons r2
  obtain ⟨v4, vs4, d4, ds4, p4, q4, rfl, rfl, rfl, h4, r4⟩ := trodAll_cons r3
  obtain ⟨v5, vs5, d5, ds5, p5, q5, rfl, rfl, rfl, h5, r5⟩ := trodAll_cons r4
  obtain ⟨rfl, rfl, rfl⟩ := trodAll_nil r5
  obtain rfl : args = #[v0, v1, v2, v3, v4, v5] := by cases args; simp_all
  obtain ⟨rfl, rfl⟩ := trodVars_none hV
  obtain ⟨cs0, rfl, sz0⟩ := okWide_struct Tryz.underlying30 (hval 0 30 v0 rfl rfl)
  have k0 := h0
  have lt0 : ∀ x ∈ p0, x.block < W.heap.size := by obtain ⟨m, hm⟩ := k0; exact DataW.trod_lt m _ _ _ hm
  have w0 := isCame2 h0
  obtain ⟨a1, len1, cap1, rfl⟩ := okWide_slice Tryz.underlying51 (hval 1 51 v1 rfl rfl)
  have k1 := h1
  have lt1 : ∀ x ∈ p1, x.block < W.heap.size := by obtain ⟨m, hm⟩ := k1; exact DataW.trod_lt m _ _ _ hm
  have w1 := isCame2 h1
  obtain ⟨cs2, rfl, sz2⟩ := okWide_struct Tryz.underlying53 (hval 2 53 v2 rfl rfl)
  have k2 := h2
  have lt2 : ∀ x ∈ p2, x.block < W.heap.size := by obtain ⟨m, hm⟩ := k2; exact DataW.trod_lt m _ _ _ hm
  have w2 := isCame2 h2
  obtain ⟨a3, rfl, rfl, rfl, w3⟩ := open_int Tryz.underlying28 (hval 3 28 v3 rfl rfl) h3
  obtain ⟨a4, len4, cap4, rfl⟩ := okWide_slice Tryz.underlying22 (hval 4 22 v4 rfl rfl)
  have k4 := h4
  have lt4 : ∀ x ∈ p4, x.block < W.heap.size := by obtain ⟨m, hm⟩ := k4; exact DataW.trod_lt m _ _ _ hm
  have w4 := isCame h4
  obtain ⟨cs5, rfl, sz5⟩ := okWide_struct Tryz.underlying30 (hval 5 30 v5 rfl rfl)
  have k5 := h5
  have lt5 : ∀ x ∈ p5, x.block < W.heap.size := by obtain ⟨m, hm⟩ := k5; exact DataW.trod_lt m _ _ _ hm
  have w5 := isCame2 h5
  clear hA0 hval0
  refine (walk cs0 a1 len1 cap1 cs2 a3 a4 len4 cap4 cs5 W w0 w1 w2 w3 w4 w5).mono fun e W' ⟨he, bel⟩ => ?_
  subst he
  exact ⟨_, rfl, _, _, _, [], _, [], hW', trodAll_mk1 (shut_bool Tryz.underlying4 _), (trodAll_cons_mk (Below.trod Head.laidOut (by kernel_rfl) (of_decide_eq_true (by kernel_rfl)) k0 bel lt0) (trodAll_cons_mk (Below.trod Head.laidOut (by kernel_rfl) (of_decide_eq_true (by kernel_rfl)) k1 bel lt1) (trodAll_cons_mk (Below.trod Head.laidOut (by kernel_rfl) (of_decide_eq_true (by kernel_rfl)) k2 bel lt2) (trodAll_cons_mk (shut_int Tryz.underlying28 w3) (trodAll_cons_mk (Below.trod Head.laidOut (by kernel_rfl) (of_decide_eq_true (by kernel_rfl)) k4 bel lt4) (trodAll_cons_mk (Below.trod Head.laidOut (by kernel_rfl) (of_decide_eq_true (by kernel_rfl)) k5 bel lt5) trodAll_mk0)))))), rfl, bel.frame _, fun h => by cases h⟩

theorem q1 : (Rows.mintTokensRow.inPlace == Tryz.prog.inPlace 6) = true := by kernel_rfl
theorem q2 : (Rows.mintTokensRow.unfollowed == Tryz.prog.unfollowed 6) = true := by kernel_rfl
theorem q3 : (Rows.mintTokensRow.recurses == Tryz.prog.recurses 6) = true := by kernel_rfl
theorem q4 : (Rows.mintTokensRow.named == Tryz.prog.varsNamed 6) = true := by kernel_rfl
theorem closed : joinedFacts Tryz.prog 6 Tryz.f6 Rows.mintTokensSpec Rows.mintTokensRow = true :=
  Head.joined_of (by kernel_rfl) Head.laidOut Head.rowed (by kernel_rfl) (by kernel_rfl) (by kernel_rfl) (by kernel_rfl) (by kernel_rfl) (by kernel_rfl) q1 q2 q3 q4 (by kernel_rfl) (by kernel_rfl) (by kernel_rfl) (by kernel_rfl) (by kernel_rfl) (by kernel_rfl) (by kernel_rfl) (by kernel_rfl) (by kernel_rfl) (Head.plain_eq Head.plain rfl) (by kernel_rfl) Head.heard Head.enter (Head.lift_eq Head.final rfl) (Head.make_eq Head.made rfl) (by kernel_rfl) (by kernel_rfl) (by kernel_rfl) (by kernel_rfl)

theorem over : Rows.mintTokensRow.holds Tryz.pinned (OpenSpec.ofChange Rows.mintTokensSpec) :=
  OpenClaim.holds_of_wide 6 Tryz.f6 rfl rfl rfl rfl rfl rfl rfl ⟨rfl, rfl, rfl, rfl, rfl⟩ rfl rfl rfl rfl rfl (by kernel_rfl) Tryz.func6 closed
    (of_decide_eq_true (by kernel_rfl)) (by unfold Func.isWrapper; first | (rw [if_pos (by decide +kernel)]; kernel_rfl) | (rw [if_neg (by decide +kernel)]; exact ⟨rfl, rfl⟩))
    (fun os started H enc _ => lifted os started H enc)

/-- **The statement.** -/
theorem proved : Rows.MintTokensSaid := over
#print axioms proved
end Go.Proofs.YtlfdlhgbppahgaaGreat.mintTokens
