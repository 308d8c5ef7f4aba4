-- PRINTED BY print.sh 35421559b90ae4d0a3588c463048766b98c2df88dd9212a6774a882060cdf62d: not written by this session
import Derived.Test.YthnkmadipbfmaaaPLazyOncex0
namespace Go.Proofs.Ythnkmadipbfmaaa.PLazyOnce
open Go.RowKit Go.Proofs.YthnkmadipbfmaaaW.PrintWords Go.Proofs.YthnkmadipbfmaaaW.PrintLast Go.Proofs.YthnkmadipbfmaaaW.PrintMore
attribute [local go_sem] max2_int min2_int max_two min_two max_three min_three max_four min_four   -- for this text's walks alone
set_option linter.unusedVariables false
set_option linter.unusedSimpArgs false

-- NOT PRINTED: function 8 (lazy_New)

-- NOT PRINTED: function 28 (atomic_LoadUint32)

-- NOT PRINTED: function 20 (atomic_Bool_Load)

-- NOT PRINTED: function 11 (lazy_Cell_Done)

-- NOT PRINTED: function 30 (atomic_StoreUint32)

/-! ### atomic_b32: function 31 -/
def atomic_b32.f (a0 : Bool) : Option (Int) := if a0 = true then (some 1) else (some 0)
set_option maxHeartbeats 8000000 in
set_option maxRecDepth 100000 in
theorem atomic_b32.calls (a0 : Bool) (r : Int) (w : World) (h : atomic_b32.f a0 = some r) :
    Calls Try.prog 31 #[.bool a0] w fun e w' => e = .returned (.int .u32 r) ∧ Drawn0 w w' := by
  have H : (if a0 = true then (some 1) else (some 0)) = some r := h
  clear h
  by_cases c2 : a0 = true
  · subst c2
    have H1 : (some 1) = some r := by rw [if_pos rfl] at H; exact H
    clear H
    have H := H1
    clear H1
    obtain rfl := Option.some.inj H
    go_enter Try.func31, Try.ntmps31
    go_wp2
    go_ret
    exact ⟨by first | rfl | (simp; done) | (simp [*]; done), by repeat (first | exact Drawn0.refl _ | apply Drawn0.step)⟩
  · replace c2 := Bool.eq_false_iff.mpr c2
    subst c2
    have H1 : (some 0) = some r := by rw [if_neg (show ¬ (false = true) by decide)] at H; exact H
    clear H
    have H := H1
    clear H1
    obtain rfl := Option.some.inj H
    go_enter Try.func31, Try.ntmps31
    go_wp2
    go_ret
    exact ⟨by first | rfl | (simp; done) | (simp [*]; done), by repeat (first | exact Drawn0.refl _ | apply Drawn0.step)⟩

-- NOT PRINTED: function 24 (atomic_Bool_Store)

-- NOT PRINTED: function 39 (race_Disable)

-- NOT PRINTED: function 40 (atomic_CompareAndSwapInt32)

-- NOT PRINTED: function 41 (race_Enable)

-- NOT PRINTED: function 42 (race_Acquire)

-- NOT PRINTED: function 45 (atomic_AddInt32)

-- NOT PRINTED: function 47 (sync_runtime_canSpin)

-- NOT PRINTED: function 48 (sync_runtime_doSpin)

-- NOT PRINTED: function 49 (sync_throw)

-- NOT PRINTED: function 50 (sync_runtime_nanotime)

-- NOT PRINTED: function 51 (sync_runtime_SemacquireMutex)

-- NOT PRINTED: function 43 (sync_Mutex_lockSlow)

-- NOT PRINTED: function 37 (sync_Mutex_Lock_37)

-- NOT PRINTED: function 35 (sync_Mutex_Lock_35)

-- NOT PRINTED: function 44 (race_ReleaseMerge)

-- NOT PRINTED: function 52 (sync_fatal)

-- NOT PRINTED: function 53 (sync_runtime_Semrelease)

-- NOT PRINTED: function 46 (sync_Mutex_unlockSlow)

-- NOT PRINTED: function 38 (sync_Mutex_Unlock_38)

-- NOT PRINTED: function 36 (sync_Mutex_Unlock_36)

-- NOT PRINTED: function 29 (sync_Once_doSlow)

-- NOT PRINTED: function 22 (sync_Once_Do)

-- NOT PRINTED: function 14 (lazy_Cell_Get)

-- NOT PRINTED: function 34 (atomic_AddInt64)

-- NOT PRINTED: function 27 (atomic_Int64_Add)

-- NOT PRINTED: function 17 (lazy_Count_Add)

-- NOT PRINTED: function 32 (atomic_LoadInt64)

-- NOT PRINTED: function 25 (atomic_Int64_Load)

-- NOT PRINTED: function 18 (lazy_Count_Now)

-- NOT PRINTED: function 7 (versallaw1_known)

/-! ### versalhand_Pick: function 10 -/
def versalhand_Pick.f (a0 : Int) (a1 : Int) : Option (Int) := if a1 = 0 then (none) else (if (Int.tmod a0 a1) < 0 then (some (wrap64 ((Int.tmod a0 a1) + a1))) else (some (Int.tmod a0 a1)))
set_option maxHeartbeats 8000000 in
set_option maxRecDepth 100000 in
theorem versalhand_Pick.calls (a0 : Int) (a1 : Int) (r : Int) (w : World) (h : versalhand_Pick.f a0 a1 = some r) :
    Calls Try.prog 10 #[.int .i64 a0, .int .i64 a1] w fun e w' => e = .returned (.int .i64 r) ∧ Drawn0 w w' := by
  have H : (if a1 = 0 then (none) else (if (Int.tmod a0 a1) < 0 then (some (wrap64 ((Int.tmod a0 a1) + a1))) else (some (Int.tmod a0 a1)))) = some r := h
  clear h
  by_cases c3 : a1 = 0
  · rw [if_pos c3] at H
    exact absurd H (by simp)
  · rw [if_neg c3] at H
    have c3b0 : (a1 == 0) = false := beq_eq_false_iff_ne.mpr c3
    have c3b1 : (a1 != 0) = true := bne_iff_ne.mpr c3
    by_cases c4 : (Int.tmod a0 a1) < 0
    · rw [if_pos c4] at H
      have c4b0 : decide ((Int.tmod a0 a1) < 0) = true := decide_eq_true c4
      clear c4
      obtain rfl := Option.some.inj H
      go_enter Try.func10, Try.ntmps10
      go_wp2
      go_ret
      exact ⟨by first | rfl | (simp; done) | (simp [*]; done), by repeat (first | exact Drawn0.refl _ | apply Drawn0.step)⟩
    · rw [if_neg c4] at H
      have c4b0 : decide ((Int.tmod a0 a1) < 0) = false := decide_eq_false c4
      clear c4
      obtain rfl := Option.some.inj H
      go_enter Try.func10, Try.ntmps10
      go_wp2
      go_ret
      exact ⟨by first | rfl | (simp; done) | (simp [*]; done), by repeat (first | exact Drawn0.refl _ | apply Drawn0.step)⟩

-- NOT PRINTED: function 12 (versallaw1_get)

-- NOT PRINTED: function 3 (versallaw1_LazyOnce)

end Go.Proofs.Ythnkmadipbfmaaa.PLazyOnce
