/- A part of a proof of a given law of this program: lemmas, printed forms of its functions, contracts. It has no conditions of its own. -/
import Derived.Test.YtlphgbgfnjhhcaaFw8
import Derived.Test.YtlphgbgfnjhhcaaShExt
import Derived.Test.YtlphgbgfnjhhcaaShInternalsync
import Derived.Test.YtlphgbgfnjhhcaaShSync
import Derived.Test.YtlphgbgfnjhhcaaShSyncatomic
namespace Go.Sh
open Go Go.Fw Go.Proofs
set_option maxRecDepth 100000
set_option linter.unusedVariables false

theorem sync_atomic_Int64_Add_c {b n o : Nat} {g : Nat → Value} {x y : Int} {w : World} (hB : Blk w b n g) (ho : o < n) (hv : g o = .int .i64 x) {K : Value → World → Prop}
    (h : ∀ w', Fr [b] w w' → Blk w' b n (upd g o (.int .i64 (IntKind.i64.wrap (x + y)))) → w'.heap.size = w.heap.size → K (.int .i64 (IntKind.i64.wrap (x + y))) w') :
    callF Try.prog F_sync_atomic_Int64_Add #[.pointer (some ⟨b, o, none⟩), .int .i64 y] w K := by
  apply sync_atomic_Int64_Add_call
  refine ⟨_, rfl, ?_⟩
  refine sync_atomic_AddInt64_c hB ho hv fun w' h1 h2 h3 => ?_
  exact ⟨_, rfl, h w' h1 h2 h3⟩
theorem sync_atomic_Int64_Store_c {b n o : Nat} {g : Nat → Value} {y : Int} {w : World} (hB : Blk w b n g) (ho : o < n) {K : Value → World → Prop}
    (h : ∀ w', Fr [b] w w' → Blk w' b n (upd g o (.int .i64 y)) → w'.heap.size = w.heap.size → K (.tuple #[]) w') :
    callF Try.prog F_sync_atomic_Int64_Store #[.pointer (some ⟨b, o, none⟩), .int .i64 y] w K := by
  apply sync_atomic_Int64_Store_call
  refine ⟨_, rfl, ?_⟩
  refine sync_atomic_StoreInt64_c hB ho fun w' h1 h2 h3 => ?_
  exact ⟨rfl, h w' h1 h2 h3⟩
theorem sync_atomic_Int64_Load_c {b n o : Nat} {g : Nat → Value} {x : Int} {w : World} (hB : Blk w b n g) (ho : o < n) (hv : g o = .int .i64 x) {K : Value → World → Prop}
    (h : K (.int .i64 x) w) : callF Try.prog F_sync_atomic_Int64_Load #[.pointer (some ⟨b, o, none⟩)] w K := by
  apply sync_atomic_Int64_Load_call
  refine ⟨_, rfl, ?_⟩
  refine sync_atomic_LoadInt64_c hB ho hv ?_
  exact ⟨_, rfl, h⟩
theorem sync_atomic_Bool_Load_c {b n o : Nat} {g : Nat → Value} {x : Int} {w : World} (hB : Blk w b n g) (ho : o < n) (hv : g o = .int .u32 x) {K : Value → World → Prop}
    (h : K (.bool (x != 0)) w) : callF Try.prog F_sync_atomic_Bool_Load #[.pointer (some ⟨b, o, none⟩)] w K := by
  apply sync_atomic_Bool_Load_call
  refine ⟨_, rfl, ?_⟩
  refine sync_atomic_LoadUint32_c hB ho hv ?_
  exact ⟨_, rfl, h⟩
theorem sync_atomic_Bool_Store_true {b n o : Nat} {g : Nat → Value} {w : World} (hB : Blk w b n g) (ho : o < n) {Q : Value → World → Prop}
    (h : ∀ w', Fr [b] w w' → Blk w' b n (upd g o (.int .u32 1)) → w'.heap.size = w.heap.size → Q (.tuple #[]) w') : sync_atomic_Bool_Store (some ⟨b, o, none⟩) true w Q := by
  refine Drw.intro fun w1 h1 hs1 => ?_
  refine ⟨_, rfl, ?_⟩
  apply sync_atomic_b32_call
  refine ⟨_, rfl, ?_⟩
  refine sync_atomic_StoreUint32_c (hB.fr0 h1) ho fun w2 h2 h3 h4 => ?_
  exact ⟨rfl, h w2 (h1.after h2) h3 (by omega)⟩

theorem isync_Lock_c {b n o : Nat} {g : Nat → Value} {w : World} (hB : Blk w b n g) (ho : o < n) (hv : g o = .int .i32 0) {K : Value → World → Prop}
    (h : ∀ w', Fr [b] w w' → Blk w' b n (upd g o (.int .i32 1)) → w'.heap.size = w.heap.size → K (.tuple #[]) w') : callF Try.prog F_internal_sync_Mutex_Lock #[.pointer (some ⟨b, o, none⟩)] w K := by
  apply internal_sync_Mutex_Lock_call
  refine internal_race_Disable_c ⟨rfl, _, rfl, ?_⟩
  refine sync_atomic_CompareAndSwapInt32_c hB ho hv fun w1 h1 h2 h3 => ?_
  refine ⟨_, rfl, cond_t ?_⟩
  refine internal_race_Enable_c ⟨rfl, _, _, uns (by kernel_rfl) h2 ho, ?_⟩
  exact internal_race_Acquire_c ⟨rfl, h w1 h1 h2 h3⟩
theorem isync_Unlock_c {b n o : Nat} {g : Nat → Value} {w : World} (hB : Blk w b n g) (ho : o < n) (hv : g o = .int .i32 1) {K : Value → World → Prop}
    (h : ∀ w', Fr [b] w w' → Blk w' b n (upd g o (.int .i32 0)) → w'.heap.size = w.heap.size → K (.tuple #[]) w') : callF Try.prog F_internal_sync_Mutex_Unlock #[.pointer (some ⟨b, o, none⟩)] w K := by
  apply internal_sync_Mutex_Unlock_call
  refine ⟨_, rfl, _, Ld.blk (by kernel_rfl) hB ho hv, _, _, uns (by kernel_rfl) hB ho, ?_⟩
  refine internal_race_ReleaseMerge_c ⟨rfl, ?_⟩
  refine internal_race_Disable_c ⟨rfl, _, rfl, ?_⟩
  refine sync_atomic_AddInt32_c hB ho hv fun w1 h1 h2 h3 => ?_
  refine ⟨_, rfl, cond_f ?_⟩
  exact internal_race_Enable_c ⟨rfl, h w1 h1 h2 h3⟩
theorem sync_Mutex_Lock_c {b n o : Nat} {g : Nat → Value} {w : World} (hB : Blk w b n g) (ho : o < n) (hv : g o = .int .i32 0) {K : Value → World → Prop}
    (h : ∀ w', Fr [b] w w' → Blk w' b n (upd g o (.int .i32 1)) → w'.heap.size = w.heap.size → K (.tuple #[]) w') : callF Try.prog F_sync_Mutex_Lock #[.pointer (some ⟨b, o, none⟩)] w K := by
  apply sync_Mutex_Lock_call
  refine ⟨_, rfl, ?_⟩
  refine isync_Lock_c hB ho hv fun w1 h1 h2 h3 => ?_
  exact ⟨rfl, h w1 h1 h2 h3⟩
theorem sync_Mutex_Unlock_s {b n o : Nat} {g : Nat → Value} {w : World} (hB : Blk w b n g) (ho : o < n) (hv : g o = .int .i32 1) {Q : Value → World → Prop}
    (h : ∀ w', Fr [b] w w' → Blk w' b n (upd g o (.int .i32 0)) → w'.heap.size = w.heap.size → Q (.tuple #[]) w') : sync_Mutex_Unlock (some ⟨b, o, none⟩) w Q := by
  refine ⟨_, rfl, ?_⟩
  refine isync_Unlock_c hB ho hv fun w1 h1 h2 h3 => ?_
  exact ⟨rfl, h w1 h1 h2 h3⟩

/-- **Once, already done.** -/
theorem sync_Once_Do_done {b n o : Nat} {g : Nat → Value} {w : World} {v : Value} (hB : Blk w b n g) (ho : o < n) (hv : g o = .int .u32 1) {K : Value → World → Prop} (h : K (.tuple #[]) w) :
    callF Try.prog F_sync_Once_Do #[.pointer (some ⟨b, o, none⟩), v] w K := by
  apply sync_Once_Do_call
  refine ⟨_, rfl, ?_⟩
  refine sync_atomic_Bool_Load_c hB ho hv ?_
  exact ⟨_, rfl, cond_f h⟩
/-- **Once, the first time**: the function is called, the lock held; 'done' is laid, the lock is free again. -/
theorem sync_Once_Do_first {b n o : Nat} {g : Nat → Value} {w : World} {v : Value} (hB : Blk w b n g) (ho : o + 1 < n) (hv : g o = .int .u32 0) (hm : g (o + 1) = .int .i32 0) {K : Value → World → Prop}
    (h : ∀ w', Fr [b] w w' → Blk w' b n (upd g (o + 1) (.int .i32 1)) → w'.heap.size = w.heap.size →
      callV Try.prog v [] w' fun r w1 => r = .tuple #[] ∧ ∃ g', Blk w1 b n g' ∧ g' (o + 1) = .int .i32 1 ∧
        ∀ w2, Fr [b] w1 w2 → Blk w2 b n (upd (upd g' o (.int .u32 1)) (o + 1) (.int .i32 0)) → w2.heap.size = w1.heap.size → K (.tuple #[]) w2) :
    callF Try.prog F_sync_Once_Do #[.pointer (some ⟨b, o, none⟩), v] w K := by
  apply sync_Once_Do_call
  refine ⟨_, rfl, ?_⟩
  refine sync_atomic_Bool_Load_c hB (by omega) hv ?_
  refine ⟨_, rfl, cond_t ?_⟩
  apply sync_Once_doSlow_call
  refine ⟨_, rfl, ?_⟩
  rw [add_mk]
  refine sync_Mutex_Lock_c hB ho hm fun w1 h1 h2 h3 => ?_
  refine ⟨rfl, _, rfl, _, rfl, ?_⟩
  refine sync_atomic_Bool_Load_c h2 (by omega) (by rw [upd_ne _ _ _ (by omega)]; exact hv) ?_
  refine ⟨_, rfl, cond_t ?_⟩
  refine ⟨_, rfl, ?_⟩
  refine callV_mono ?_ (h w1 h1 h2 h3)
  rintro r w3 ⟨rfl, g', hB', hm', hk⟩
  refine ⟨rfl, ?_⟩
  apply sync_atomic_Bool_Store_calld
  refine sync_atomic_Bool_Store_true hB' (by omega) fun w4 h4 h5 h6 => ?_
  apply sync_Mutex_Unlock_calld
  rw [add_mk]
  refine sync_Mutex_Unlock_s h5 ho (by rw [upd_ne _ _ _ (by omega)]; exact hm') fun w5 h7 h8 h9 => ?_
  exact ⟨rfl, hk w5 (h4.trans h7 (fun _ h => .inl h)) h8 (by omega)⟩
end Go.Sh
