/- The walks of the float functions of package rank and of its reference. -/
import Derived.Test.YtdhklfbelplbcaaRows
import Derived.Test.YtdhklfbelplbcaaFl
import Derived.Test.YtdhklfbelplbcaaKw
namespace Go.Proofs.Ytdhklfbelplbcaa
set_option linter.unusedVariables false
set_option linter.unusedSimpArgs false
open Go.RowKit

set_option maxHeartbeats 400000 in
theorem isnan_any (a : Nat) (w : World) :
    Calls Try.prog 48 #[.float .f64 a] w fun e w' => e = .returned (.bool (nanB a)) ∧ w = w' := by
  go_enter Try.func48, Try.ntmps48
  go_wp2
  go_ret
  exact ⟨rfl, rfl⟩

set_option maxHeartbeats 400000 in
theorem none_any (a : Nat) (w : World) :
    Calls Try.prog 30 #[.float .f64 a] w fun e w' => e = .returned (.bool (nanB a)) ∧ w = w' := by
  go_enter Try.func30, Try.ntmps30
  go_wp2
  go_ret
  exact ⟨rfl, rfl⟩

set_option maxHeartbeats 400000 in
theorem class_any (a : Nat) (w : World) :
    Calls Try.prog 27 #[.float .f64 a] w fun e w' => e = .returned (.int .i64 (cls a)) ∧ w = w' := by
  go_enter Try.func27, Try.ntmps27
  go_wp2_with (go_at_call 48; refine (isnan_any _ _).mono ?_; rintro e w' ⟨rfl, rfl⟩)
  all_goals go_ret
  · have h : nanB a = true := by assumption
    exact ⟨by simp [cls, h], rfl⟩
  · have h : nanB a = false := by assumption
    exact ⟨by simp [cls, h], rfl⟩

set_option maxHeartbeats 400000 in
theorem whole_any (a b : Int) (w : World) :
    Calls Try.prog 28 #[.int .i64 a, .int .i64 b] w fun e w' => e = .returned (.int .i64 (whole a b)) ∧ w = w' := by
  go_enter Try.func28, Try.ntmps28
  go_wp2
  all_goals go_ret
  all_goals refine ⟨ret_int ?_, rfl⟩
  all_goals (unfold whole; generalize wrap64 (a - b) = x at *; repeat' split)
  all_goals omega

theorem run_float64bits (a : Nat) (w : World) :
    (callFunc 61 #[.float .f64 a]).run Try.prog w = .ok (.value (.int .u64 a)) w := by
  have h : Try.prog.funcs[61]? = some Try.f61 := by kernel_rfl
  rw [run_callFunc_extern h (by kernel_rfl) (by kernel_rfl) (by kernel_rfl) (e := Extern.MathFloatBits.float64bits) (by kernel_rfl)]
  rfl

set_option maxHeartbeats 400000 in
theorem signbit_any (a : Nat) (w : World) :
    Calls Try.prog 49 #[.float .f64 a] w fun e w' => e = .returned (.bool (signB a)) ∧ w = w' := by
  have h := run_float64bits a
  go_enter Try.func49, Try.ntmps49
  go_wp2
  go_ret
  exact ⟨rfl, rfl⟩

set_option maxHeartbeats 400000 in
theorem side_any (a : Nat) (w : World) :
    Calls Try.prog 29 #[.float .f64 a] w fun e w' => e = .returned (.int .i64 (sideI a)) ∧ w = w' := by
  go_enter Try.func29, Try.ntmps29
  go_wp2_with (go_at_call 49; refine (signbit_any _ _).mono ?_; rintro e w' ⟨rfl, rfl⟩)
  all_goals go_ret
  all_goals refine ⟨ret_int ?_, rfl⟩
  · simp [sideI, zeroB, *]
  · simp [sideI, zeroB, *]
  · simp [sideI, zeroB, *]

theorem cls_bd (a : Nat) : 0 ≤ cls a ∧ cls a ≤ 1 := by unfold cls; split <;> omega

set_option maxHeartbeats 400000 in
theorem cmp_any (a b : Nat) (w : World) :
    Calls Try.prog 13 #[.float .f64 a, .float .f64 b] w fun e w' => e = .returned (.int .i64 (cmpF a b)) ∧ w = w' := by
  have ha := cls_bd a
  have hb := cls_bd b
  go_enter Try.func13, Try.ntmps13
  go_wp2_with (first | (go_at_call 27; refine (class_any _ _).mono ?_; rintro e w' ⟨rfl, rfl⟩) | (go_at_call 28; refine (whole_any _ _ _).mono ?_; rintro e w' ⟨rfl, rfl⟩) | (go_at_call 29; refine (side_any _ _).mono ?_; rintro e w' ⟨rfl, rfl⟩))
  all_goals go_ret
  all_goals refine ⟨ret_int ?_, rfl⟩
  · rw [cmpF, if_pos (by omega)]
  · have h : (FloatKind.f64.format.order a b == some Ordering.lt) = true := by assumption
    rw [cmpF, if_neg (by omega), if_pos (show ltB a b = true from h)]
  · have h : (FloatKind.f64.format.order a b == some Ordering.lt) = false := by assumption
    have h2 : (FloatKind.f64.format.order a b == some Ordering.gt) = true := by assumption
    rw [cmpF, if_neg (by omega), if_neg (by rw [ltB, h]; decide), if_pos (show gtB a b = true from h2)]
  · have h : (FloatKind.f64.format.order a b == some Ordering.lt) = false := by assumption
    have h2 : (FloatKind.f64.format.order a b == some Ordering.gt) = false := by assumption
    rw [cmpF, if_neg (by omega), if_neg (by rw [ltB, h]; decide), if_neg (by rw [gtB, h2]; decide)]

set_option maxHeartbeats 400000 in
theorem minus_any (a : Nat) (w : World) :
    Calls Try.prog 31 #[.float .f64 a] w fun e w' => e = .returned (.bool (minusB a)) ∧ w = w' := by
  cases h : zeroB a with
  | true =>
    have hq := fun w => run_float_arith (P := Try.prog) w .quo 23 .f64 4607182418800017408 a _ (quo_one h)
    have h' : (FloatKind.f64.format.order a 0 == some Ordering.eq) = true := h
    cases hs : signB a with
    | true =>
      rw [hs] at hq
      have e1 : (FloatKind.f64.format.order ninf 0 == some Ordering.lt) = true := lt_ninf
      go_enter Try.func31, Try.ntmps31
      go_wp2
      all_goals go_ret
      exact ⟨ret_bool (by simp [minusB, h, hs]), rfl⟩
    | false =>
      rw [hs] at hq
      have e1 : (FloatKind.f64.format.order pinf 0 == some Ordering.lt) = false := lt_pinf
      go_enter Try.func31, Try.ntmps31
      go_wp2
      all_goals go_ret
      exact ⟨ret_bool (by simp [minusB, h, hs]), rfl⟩
  | false =>
    have h' : (FloatKind.f64.format.order a 0 == some Ordering.eq) = false := h
    go_enter Try.func31, Try.ntmps31
    go_wp2
    all_goals go_ret
    exact ⟨ret_bool (by simp [minusB, h]), rfl⟩


set_option maxHeartbeats 1000000 in
theorem refcmp_any (a b : Nat) (w : World) :
    Calls Try.prog 14 #[.float .f64 a, .float .f64 b] w fun e w' => e = .returned (.int .i64 (refF a b)) ∧ w = w' := by
  go_enter Try.func14, Try.ntmps14
  go_wp2_with (first | (go_at_call 30; refine (none_any _ _).mono ?_; rintro e w' ⟨rfl, rfl⟩) | (go_at_call 31; refine (minus_any _ _).mono ?_; rintro e w' ⟨rfl, rfl⟩))
  all_goals go_ret
  all_goals refine ⟨ret_int ?_, rfl⟩
  all_goals (unfold refF ltB gtB; cases h1 : minusB a <;> cases h2 : minusB b <;> simp_all)

theorem tmod_bd (a n : Int) (h : 1 ≤ n) : -n < a.tmod n ∧ a.tmod n < n := by
  have h1 := Int.tmod_lt_of_pos a (show 0 < n by omega)
  have h2 := Int.lt_tmod_of_pos a (show 0 < n by omega)
  exact ⟨h2, h1⟩
theorem tmod_mod (a n : Int) (h : 1 ≤ n) : (if a.tmod n < 0 then a.tmod n + n else a.tmod n) = a % n := by
  have h1 := Int.emod_nonneg a (show n ≠ 0 by omega)
  have h2 := Int.emod_lt_of_pos a (show 0 < n by omega)
  rw [Int.tmod_eq_emod]
  have e : (n.natAbs : Int) = n := by omega
  by_cases g : 0 ≤ a ∨ n ∣ a
  · simp only [if_pos g]; split <;> omega
  · simp only [if_neg g]; split <;> omega

set_option maxHeartbeats 1000000 in
theorem within_any (a n : Int) (w : World) (h : 1 ≤ n) (h2 : n ≤ 9223372036854775807) :
    Calls Try.prog 18 #[.int .i64 a, .int .i64 n] w fun e w' => e = .returned (.int .i64 (a % n)) ∧ w = w' := by
  have hb := tmod_bd a n h
  have hm := Lib.hid (tmod_mod a n h)
  have hn : (n == 0) = false := by simp; omega
  go_enter Try.func18, Try.ntmps18
  go_wp2
  all_goals go_ret
  · have g : a.tmod n < 0 := by assumption
    exact ⟨ret_int (by rw [← hm.out, if_pos g]), rfl⟩
  · have g : 0 ≤ a.tmod n := by assumption
    exact ⟨ret_int (by rw [← hm.out, if_neg (by omega)]), rfl⟩
end Go.Proofs.Ytdhklfbelplbcaa
