/- A part of a proof of a given law of this program: lemmas, printed forms of its functions, contracts. It has no conditions of its own. -/
import Derived.Test.YtlphgbgfnjhhcaaFw7
namespace Go.Fw
open Go
theorem mark0_c {P : Program} {f : FuncId} {fn : Func} (hf : P.funcs[f]? = some fn) (hname : (fn.name == "runtime.NumGoroutine") = false) (hb : fn.body.isNone = true) (hn : Extern.findNext fn = none) (m : Mark) (he : Extern.find fn = some (fun _ => do mark m; pure Extern.Race.none_)) {w : World} {K : Value → World → Prop} (h : K (.tuple #[]) w) : callF P f #[] w K :=
  callF_value (run_call_mark0 hf hname hb hn m he w) h
theorem marked_c {P : Program} {f : FuncId} {fn : Func} (hf : P.funcs[f]? = some fn) (hname : (fn.name == "runtime.NumGoroutine") = false) (hb : fn.body.isNone = true) (hn : Extern.findNext fn = none) (m : Addr → Mark) (he : Extern.find fn = some (Extern.Race.marked m)) {a : Addr} {w : World} {K : Value → World → Prop} (h : K (.tuple #[]) w) : callF P f #[.pointer (some a)] w K :=
  callF_value (run_call_marked hf hname hb hn m he a w) h
theorem cas_c {P : Program} {f : FuncId} {fn : Func} (hf : P.funcs[f]? = some fn) (hname : (fn.name == "runtime.NumGoroutine") = false) (hb : fn.body.isNone = true) (hn : Extern.findNext fn = none) (k : IntKind) (he : Extern.find fn = some (Extern.Atomic.casT (.int k))) {b n o : Nat} {g : Nat → Value} {x y : Int} {w : World} (hB : Blk w b n g) (ho : o < n) (hv : g o = .int k x) {K : Value → World → Prop}
    (h : ∀ w', Fr [b] w w' → Blk w' b n (upd g o (.int k y)) → w'.heap.size = w.heap.size → K (.bool true) w') : callF P f #[.pointer (some ⟨b, o, none⟩), .int k x, .int k y] w K :=
  callF_value (run_call_cas_hit hf hname hb hn k he (by rw [hB.cell ho, hv]) (hB.frozen o)) (h _ (Fr.setCell w ⟨b, o, none⟩ _) (hB.set ho _) (by simp))
theorem load_c {P : Program} {f : FuncId} {fn : Func} (hf : P.funcs[f]? = some fn) (hname : (fn.name == "runtime.NumGoroutine") = false) (hb : fn.body.isNone = true) (hn : Extern.findNext fn = none) (k : IntKind) (he : Extern.find fn = some (Extern.Atomic.loadT (.int k))) {b n o : Nat} {g : Nat → Value} {x : Int} {w : World} (hB : Blk w b n g) (ho : o < n) (hv : g o = .int k x) {K : Value → World → Prop}
    (h : K (.int k x) w) : callF P f #[.pointer (some ⟨b, o, none⟩)] w K :=
  callF_value (run_call_load hf hname hb hn k he (by rw [hB.cell ho, hv])) h
theorem storeA_c {P : Program} {f : FuncId} {fn : Func} (hf : P.funcs[f]? = some fn) (hname : (fn.name == "runtime.NumGoroutine") = false) (hb : fn.body.isNone = true) (hn : Extern.findNext fn = none) (he : Extern.find fn = some Extern.Atomic.storeT) {k : IntKind} {b n o : Nat} {g : Nat → Value} {y : Int} {w : World} (hB : Blk w b n g) (ho : o < n) {K : Value → World → Prop}
    (h : ∀ w', Fr [b] w w' → Blk w' b n (upd g o (.int k y)) → w'.heap.size = w.heap.size → K (.tuple #[]) w') : callF P f #[.pointer (some ⟨b, o, none⟩), .int k y] w K :=
  callF_value (run_call_store hf hname hb hn he (hB.cell ho) (hB.frozen o)) (h _ (Fr.setCell w ⟨b, o, none⟩ _) (hB.set ho _) (by simp))
theorem add_c {P : Program} {f : FuncId} {fn : Func} (hf : P.funcs[f]? = some fn) (hname : (fn.name == "runtime.NumGoroutine") = false) (hb : fn.body.isNone = true) (hn : Extern.findNext fn = none) (k : IntKind) (he : Extern.find fn = some (Extern.Atomic.update (Op.intArith .add) k true)) {b n o : Nat} {g : Nat → Value} {x y : Int} {w : World} (hB : Blk w b n g) (ho : o < n) (hv : g o = .int k x) {K : Value → World → Prop}
    (h : ∀ w', Fr [b] w w' → Blk w' b n (upd g o (.int k (k.wrap (x + y)))) → w'.heap.size = w.heap.size → K (.int k (k.wrap (x + y))) w') : callF P f #[.pointer (some ⟨b, o, none⟩), .int k y] w K :=
  callF_value (run_call_add hf hname hb hn k he (by rw [hB.cell ho, hv]) (hB.frozen o) rfl) (h _ (Fr.setCell w ⟨b, o, none⟩ _) (hB.set ho _) (by simp))
theorem conv_unsafe {P : Program} {src dst t : TypeId} (hs : P.underlying src = some (.pointer t)) (hd : P.underlying dst = some .unsafePointer) (hsz : (P.info? t).map (fun i => decide (i.size = 0)) = some false)
    {b n o : Nat} {g : Nat → Value} {w : World} (hB : Blk w b n g) (ho : o < n) : Ef P (convert src dst (.pointer (some ⟨b, o, none⟩))) w (.pointer (some ⟨b, o, none⟩)) w :=
  run_convert_to_unsafe hs hd hsz (hB.cell ho)

/-! ### The same, with what is asked of types as one test -/
def unsafeB (P : Program) (src dst : TypeId) : Bool :=
  match P.underlying src, P.underlying dst with
  | some (.pointer t), some .unsafePointer => (match P.info? t with | some i => !(i.size == 0) | none => false)
  | _, _ => false
def sliceB (P : Program) (t : TypeId) (s : Nat) : Bool :=
  match P.underlying t with
  | some (.slice e) => (match res P (sizeOf e) with | some k => k == s | none => false)
  | _ => false
def arrB (P : Program) (t : TypeId) (n s : Nat) : Bool :=
  match P.underlying t with
  | some (.array m e) => m == n && (match res P (sizeOf e) with | some k => k == s | none => false)
  | _ => false
def ptrB (P : Program) (t : TypeId) : Bool := match P.underlying t with | some (.pointer _) => true | _ => false
def sliceTB (P : Program) (t : TypeId) : Bool := match P.underlying t with | some (.slice _) => true | _ => false
theorem sliceB_out {P : Program} {t : TypeId} {s : Nat} (h : sliceB P t s = true) : ∃ e, P.underlying t = some (.slice e) ∧ res P (sizeOf e) = some s := by
  unfold sliceB at h
  split at h
  · rename_i e he
    split at h
    · rename_i k hk
      exact ⟨e, he, by rw [hk]; simpa using h⟩
    · cases h
  · cases h
theorem arrB_out {P : Program} {t : TypeId} {n s : Nat} (h : arrB P t n s = true) : ∃ e, P.underlying t = some (.array n e) ∧ res P (sizeOf e) = some s := by
  unfold arrB at h
  split at h
  · rename_i m e he
    split at h
    · rename_i k hk
      simp only [Bool.and_eq_true, beq_iff_eq] at h
      exact ⟨e, by rw [he, h.1], by rw [hk, h.2]⟩
    · simp at h
  · cases h
theorem uns {P : Program} {src dst : TypeId} (ht : unsafeB P src dst = true) {b n o : Nat} {g : Nat → Value} {w : World} (hB : Blk w b n g) (ho : o < n) : Ef P (convert src dst (.pointer (some ⟨b, o, none⟩))) w (.pointer (some ⟨b, o, none⟩)) w := by
  unfold unsafeB at ht
  split at ht
  · rename_i t h1 h2
    split at ht
    · rename_i i h3
      refine conv_unsafe h1 h2 ?_ hB ho
      rw [h3]; simpa using ht
    · cases ht
  · cases ht
theorem ixS {P : Program} {t : TypeId} {s : Nat} (ht : sliceB P t s = true) {b o len cap : Nat} {k : IntKind} {i : Int} (h0 : 0 ≤ i) (h1 : i < len) : IxA P t (.slice (some ⟨b, o, none⟩) len cap) (.int k i) ⟨b, o + i.toNat * s, none⟩ := by
  obtain ⟨e, h2, h3⟩ := sliceB_out ht; exact IxA.slice h2 h3 h0 h1
theorem ixS1 {P : Program} {t : TypeId} (ht : sliceB P t 1 = true) {b o len cap : Nat} {k : IntKind} {i : Int} (h0 : 0 ≤ i) (h1 : i < len) : IxA P t (.slice (some ⟨b, o, none⟩) len cap) (.int k i) ⟨b, o + i.toNat, none⟩ := by
  obtain ⟨e, h2, h3⟩ := sliceB_out ht; exact IxA.slice1 h2 h3 h0 h1
theorem ixA {P : Program} {t : TypeId} {n s : Nat} (ht : arrB P t n s = true) {b o : Nat} {k : IntKind} {i : Int} (h0 : 0 ≤ i) (h1 : i < n) : IxA P t (.pointer (some ⟨b, o, none⟩)) (.int k i) ⟨b, o + i.toNat * s, none⟩ := by
  obtain ⟨e, h2, h3⟩ := arrB_out ht; exact IxA.arr h2 h3 h0 h1
theorem ixA1 {P : Program} {t : TypeId} {n : Nat} (ht : arrB P t n 1 = true) {b o : Nat} {k : IntKind} {i : Int} (h0 : 0 ≤ i) (h1 : i < n) : IxA P t (.pointer (some ⟨b, o, none⟩)) (.int k i) ⟨b, o + i.toNat, none⟩ := by
  obtain ⟨e, h2, h3⟩ := arrB_out ht; exact IxA.arr1 h2 h3 h0 h1
theorem ixR {P : Program} {t : TypeId} (ht : sliceB P t 1 = true) {w : World} {p : Option Addr} {vs : List Value} (h : Row w p vs) {len cap : Nat} {k : IntKind} {i : Int} (hl : len = vs.length) (h0 : 0 ≤ i) (h1 : i < len) {v : Value} (hv : vs[i.toNat]? = some v) :
    ∃ a, IxA P t (.slice p len cap) (.int k i) a ∧ w.cell? a = some v := by
  obtain ⟨e, h2, h3⟩ := sliceB_out ht; exact Row.ix h2 h3 h hl h0 h1 hv
theorem ptrNil {P : Program} {t : TypeId} {x y : Operand} (ht : ptrB P t = true) {p : Option Addr} {w : World} : Ef P (do eqGuard .eql t x y (.pointer p) (.pointer none); binOp .eql t (.pointer p) (.pointer none) : Sem Value) w (.bool p.isNone) w := by
  unfold ptrB at ht
  split at ht
  · rename_i e h; exact Ef.ptrNil h
  · cases ht
theorem sliceNil {P : Program} {t : TypeId} {x y : Operand} (ht : sliceTB P t = true) {p : Option Addr} {l c : Nat} {w : World} : Ef P (do eqGuard .eql t x y (.slice p l c) (.slice none 0 0); binOp .eql t (.slice p l c) (.slice none 0 0) : Sem Value) w (.bool p.isNone) w := by
  unfold sliceTB at ht
  split at ht
  · rename_i e h; exact Ef.sliceNil h
  · cases ht

theorem callK_of_callF {P : Program} {f : FuncId} {args : Array Value} {w : World} {K : Value → World → Prop} (he : (callFunc f args).run P w = .ok (.enter f args) w) (h : callF P f args w K) : callK P f args w K := by
  rcases callF_out h with ⟨_, h⟩ | ⟨v, w', h1, _⟩
  · exact h
  · rw [he] at h1; cases h1
end Go.Fw
