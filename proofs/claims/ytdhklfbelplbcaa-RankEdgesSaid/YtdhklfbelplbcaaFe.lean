/- The walk of RankEdges. -/
import Derived.Test.YtdhklfbelplbcaaFc
namespace Go.Proofs.Ytdhklfbelplbcaa
set_option linter.unusedVariables false
set_option linter.unusedSimpArgs false
open Go.RowKit

def mz : Nat := 9223372036854775808
theorem key_nan {a : Nat} (h : nanB a = true) : keyF a = 2 * big + 2 := by simp [keyF, h]
theorem val_pinf : valF pinf = big := by
  have : rdF pinf = .infinity false := by decide +kernel
  simp [valF, this, valD]
theorem val_ninf : valF ninf = -big := by
  have : rdF ninf = .infinity true := by decide +kernel
  simp [valF, this, valD]
theorem key_pinf : keyF pinf = 2 * big := by
  have h1 : nanB pinf = false := by decide +kernel
  have h2 : zeroB pinf = false := by decide +kernel
  simp [keyF, h1, h2, val_pinf]
theorem key_ninf : keyF ninf = -(2 * big) := by
  have h1 : nanB ninf = false := by decide +kernel
  have h2 : zeroB ninf = false := by decide +kernel
  simp [keyF, h1, h2, val_ninf]; omega
theorem key_mz : keyF mz = -1 := by decide +kernel
theorem key_0 : keyF 0 = 0 := by decide +kernel
theorem cmpI_self (x : Int) : cmpI x x = 0 := by unfold cmpI; split <;> omega
theorem cmpI_lt {x y : Int} (h : x < y) : cmpI x y = -1 := by unfold cmpI; rw [if_pos h]
theorem cmpI_gt {x y : Int} (h : y < x) : cmpI x y = 1 := by unfold cmpI; rw [if_neg (by omega), if_pos h]
theorem cmpI_le {x y : Int} (h : x ≤ y) : cmpI x y ≤ 0 := by unfold cmpI; split; omega; rw [if_neg (by omega)]; omega
theorem key_bd (a : Nat) (h : nanB a = false) : -(2 * big) ≤ keyF a ∧ keyF a ≤ 2 * big := by
  have ha := val_bd _ (read_fine a).1
  change -big ≤ valF a ∧ valF a ≤ big ∧ _ at ha
  have hp := big_pos
  unfold keyF
  rw [zeroB_eq]
  simp only [h, Bool.not_false, Bool.true_and, Bool.false_eq_true, if_false]
  split
  · rename_i g; simp at g; omega
  · omega

def isNum : Ieee.Datum → Bool
  | .number .. => true
  | _ => false
theorem ninf_num {s : Nat} (h : isNum (rdF s) = true) : cmpF ninf s = -1 := by
  have hb := val_bd _ (read_fine s).1
  rw [cmpF_key, key_ninf, cmpI_lt]
  have hn : nanB s = false := by rw [nanB_eq]; cases hr : rdF s <;> rw [hr] at h <;> simp [isNum] at h <;> rfl
  have hi : (rdF s).isInfinity = false := by cases hr : rdF s <;> rw [hr] at h <;> simp [isNum] at h <;> rfl
  have := hb.2.2 hi
  change -big < valF s ∧ _ at this
  unfold keyF
  simp only [hn, Bool.false_eq_true, if_false]
  split <;> omega
def four (k : Int) : Bool :=
  match floatBits .quo .f64 (floatOfInt .f64 k) 4616189618054758400 with
  | some r => match floatBits .sub .f64 0 r with | some s => isNum (rdF s) | none => false
  | none => false
theorem four_all : ∀ k : Fin 1000, four (k.val : Int) = true := by decide +kernel
theorem four_any (x : Int) (h0 : 0 ≤ x) (h1 : x < 1000) : ∃ r s, floatBits .quo .f64 (floatOfInt .f64 x) 4616189618054758400 = some r ∧ floatBits .sub .f64 0 r = some s ∧ (cmpF ninf s != -1) = false := by
  have := four_all ⟨x.toNat, by omega⟩
  rw [show ((x.toNat : Nat) : Int) = x by omega] at this
  unfold four at this
  split at this
  · rename_i r hr
    split at this
    · rename_i s hs
      exact ⟨r, s, hr, hs, by rw [ninf_num this]; rfl⟩
    · cases this
  · cases this
theorem s_inf : floatBits .sub .f64 0 pinf = some ninf := by decide +kernel

theorem tri (a : Nat) (h : nanB a = false) :
    ((FloatKind.f64.format.order a 0 == some .gt) = false ∧ (FloatKind.f64.format.order a 0 == some .eq) = false ∧ (FloatKind.f64.format.order a 0 == some .lt) = true ∧ (cmpF a 9223372036854775808 == -1) = true) ∨
    ((FloatKind.f64.format.order a 0 == some .gt) = false ∧ (FloatKind.f64.format.order a 0 == some .eq) = true ∧ (FloatKind.f64.format.order a 0 == some .lt) = false) ∨
    ((FloatKind.f64.format.order a 0 == some .gt) = true ∧ (FloatKind.f64.format.order a 0 == some .eq) = false ∧ (FloatKind.f64.format.order a 0 == some .lt) = false ∧ (cmpF a 0 == 1) = true) := by
  have hk : keyF a = 2 * valF a - (if (!false && decide (valF a = 0)) && signB a then 1 else 0) := by
    unfold keyF; rw [zeroB_eq]; simp only [h, Bool.false_eq_true, if_false]
  simp only [orderF, nan0, h, val0, Bool.or_self, Bool.false_eq_true, if_false]
  rcases Int.lt_trichotomy (valF a) 0 with q | q | q
  · left
    rw [cmp_int_lt q, cmpF_key, show keyF 9223372036854775808 = -1 from key_mz, cmpI_lt (by rw [hk]; split <;> omega)]
    decide
  · right; left
    rw [q, cmp_int_eq]
    decide
  · right; right
    rw [cmp_int_gt q, cmpF_key, key_0, cmpI_gt (by rw [hk]; split; (rename_i g; simp at g; omega); omega)]
    decide

set_option maxHeartbeats 2000000 in
set_option maxRecDepth 100000 in
theorem edges_any (w : World) (a : Nat) (n : Int) (_ : (Lit.int .i64 n).wf = true) :
    Calls Try.prog 5 #[.float .f64 a, .int .i64 n] w fun e w' => e = .returned (.bool true) ∧ Below w.heap.size w w' := by
  have hp := big_pos
  obtain ⟨x, s, hx1, hx2, hx3⟩ := four_any (n % 1000) (Int.emod_nonneg _ (by omega)) (Int.emod_lt_of_pos _ (by omega))
  have hq0 := fun w => run_float_nan (P := Try.prog) w .quo 23 _ _ (by simp) q_nan
  have hq1 := fun w => run_float_arith (P := Try.prog) w .quo 23 .f64 _ _ _ q_inf
  have hq3 := fun w => run_float_arith (P := Try.prog) w .mul 23 .f64 _ _ _ m_zero
  have hq4 := fun w => run_float_arith (P := Try.prog) w .quo 23 .f64 _ _ _ hx1
  have hq5 := fun w => run_float_arith (P := Try.prog) w .sub 23 .f64 _ _ _ hx2
  have hq6 := fun w => run_float_arith (P := Try.prog) w .sub 23 .f64 _ _ _ s_inf
  clear hx1 hx2
  have t1 : ∀ w, (cmpF (nanAt w 0 0) (nanAt w 0 0) != 0) = false := fun w => by rw [cmpF_key, cmpI_self]; rfl
  have t2 : ∀ w, (cmpF (nanAt w 0 0) pinf != 1) = false := fun w => by rw [cmpF_key, key_nan (nanAt_nan _ _ _), key_pinf, cmpI_gt (by omega)]; rfl
  have t3 : ∀ w, (cmpF pinf (nanAt w 0 0) != -1) = false := fun w => by rw [cmpF_key, key_nan (nanAt_nan _ _ _), key_pinf, cmpI_lt (by omega)]; rfl
  have t4 : (cmpF mz 0 != -1) = false := by decide +kernel
  have t5 : (cmpF 0 mz != 1) = false := by decide +kernel
  have t6 : (cmpF mz mz != 0) = false := by decide +kernel
  change (cmpF 9223372036854775808 0 != -1) = false at t4
  change (cmpF 0 9223372036854775808 != 1) = false at t5
  change (cmpF 9223372036854775808 9223372036854775808 != 0) = false at t6
  cases h : nanB a with
  | true =>
    have u0 : (FloatKind.f64.format.order a a != some Ordering.eq) = true := h
    have u1 : ∀ w, (cmpF a (nanAt w 0 0) == 0) = true := fun w => by rw [cmpF_key, key_nan h, key_nan (nanAt_nan _ _ _), cmpI_self]; rfl
    have u2 : (cmpF a pinf == 1) = true := by rw [cmpF_key, key_nan h, key_pinf, cmpI_gt (by omega)]; rfl
    clear h hp
    go_enter Try.func5, Try.ntmps5
    go_wp2_with (first | (go_at_call 11; refine (known_any _).mono ?_; rintro e w1 ⟨rfl, hb1⟩) | (go_at_call 18; refine (within_any _ _ _ (by omega) (by omega)).mono ?_; rintro e w' ⟨rfl, rfl⟩) | (go_at_call 13; refine (cmp_any _ _ _).mono ?_; rintro e w' ⟨rfl, rfl⟩))
    go_ret
    exact ⟨rfl, hb1.drew⟩
  | false =>
    have hk := key_bd a h
    have u0 : (FloatKind.f64.format.order a a != some Ordering.eq) = false := h
    have v1 : ∀ w, (cmpF a (nanAt w 0 0) == -1) = true := fun w => by rw [cmpF_key, key_nan (nanAt_nan _ _ _), cmpI_lt (by omega)]; rfl
    have v2 : decide (cmpF a pinf ≤ 0) = true := by rw [cmpF_key, key_pinf]; exact decide_eq_true (cmpI_le hk.2)
    have v3 : decide (cmpF ninf a ≤ 0) = true := by rw [cmpF_key, key_ninf]; exact decide_eq_true (cmpI_le hk.1)
    have v4 : (cmpF a a == 0) = true := by rw [cmpF_key, cmpI_self]; rfl
    clear hk hp
    have tr := tri a h
    clear h
    rcases tr with ⟨y1, y2, y3, y4⟩ | ⟨y1, y2, y3⟩ | ⟨y1, y2, y3, y4⟩
    all_goals
      go_enter Try.func5, Try.ntmps5
      go_wp2_with (first | (go_at_call 11; refine (known_any _).mono ?_; rintro e w1 ⟨rfl, hb1⟩) | (go_at_call 18; refine (within_any _ _ _ (by omega) (by omega)).mono ?_; rintro e w' ⟨rfl, rfl⟩) | (go_at_call 13; refine (cmp_any _ _ _).mono ?_; rintro e w' ⟨rfl, rfl⟩))
      all_goals go_ret
      all_goals exact ⟨rfl, hb1.drew⟩
end Go.Proofs.Ytdhklfbelplbcaa
