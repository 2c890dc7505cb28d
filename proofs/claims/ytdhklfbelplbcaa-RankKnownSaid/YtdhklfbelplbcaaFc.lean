/- The walks of known, alike and RankCmp. -/
import Derived.Test.YtdhklfbelplbcaaFb
namespace Go.Proofs.Ytdhklfbelplbcaa
set_option linter.unusedVariables false
set_option linter.unusedSimpArgs false
open Go.RowKit
attribute [local go_sem] run_store_float

theorem k1 : cmpF 9223372036854775808 0 = -1 := by decide +kernel
theorem k2 : cmpF 4611686018427387904 4607182418800017408 = 1 := by decide +kernel
theorem k3 : sumO [4607182418800017408, 4611686018427387904] = some 4613937818241073152 := by decide +kernel
theorem k4 : (FloatKind.f64.format.order 4613937818241073152 4613937818241073152 == some .eq) = true := by decide +kernel

set_option maxHeartbeats 1000000 in
set_option maxRecDepth 100000 in
theorem known_any (w : World) :
    Calls Try.prog 11 #[] w fun e w' => e = .returned (.bool true) ∧ Below w.heap.size w w' := by
  have h1 := k1
  have h2 := k2
  have h4 := k4
  have hq := fun w => run_float_arith (P := Try.prog) w .mul 23 .f64 _ _ _ m_zero'
  go_enter Try.func11, Try.ntmps11
  go_wp2_with (first | (go_at_call 13; refine (cmp_any _ _ _).mono ?_; rintro e w' ⟨rfl, rfl⟩) | (go_at_call 15; refine (sum_any (some ⟨w.heap.size, 0, none⟩) 2 [4607182418800017408, 4611686018427387904] _ (rd_new w _ 23) (by simp) (by omega)).mono ?_; rintro e w' ⟨r, rfl, hr, hb⟩; rw [k3] at hr; have hr2 : r = 4613937818241073152 := hr; clear hr; subst hr2))
  all_goals go_ret
  exact ⟨rfl, bl_then ((Below.refl _ _).alloc (Nat.le_refl _) _) (by simp) hb⟩

set_option maxHeartbeats 1000000 in
theorem alike_any (a b : Nat) (w : World) :
    Calls Try.prog 16 #[.float .f64 a, .float .f64 b] w fun e w' => e = .returned (.bool (refF a b == 0)) ∧ w = w' := by
  go_enter Try.func16, Try.ntmps16
  go_wp2_with (go_at_call 14; refine (refcmp_any _ _ _).mono ?_; rintro e w' ⟨rfl, rfl⟩)
  all_goals go_ret
  all_goals exact ⟨rfl, rfl⟩

theorem fl_length (l : List Nat) : (fl l).length = l.length := enc_length _ l

set_option maxHeartbeats 2000000 in
set_option maxRecDepth 100000 in
theorem rankcmp_any (w : World) (A : Option Addr) (c : Nat) (ns : List Int) (hr : Rd w A (ints ns)) (hn : ns.length ≤ c) (hc : c ≤ 9223372036854775807) (_ : ∀ x ∈ ns, (Lit.int .i64 x).wf = true) (a b : Nat) :
    Calls Try.prog 3 #[.slice A ns.length c, .float .f64 a, .float .f64 b] w fun e w' => e = .returned (.bool true) ∧ Below w.heap.size w w' := by
  obtain ⟨i0, hi, hz0, hz1, hz2⟩ := info_parts info23
  have hr' := Lib.hid hr
  clear hr
  go_enter Try.func3, Try.ntmps3
  go_wp2_with (first
    | (go_at_call 11; refine (known_any _).mono ?_; rintro e w1 ⟨rfl, hb1⟩)
    | (go_at_call 12; refine (floats_any A c ns _ (hr'.out.below hb1) hn hc).mono ?_; rintro e w2 ⟨v, l, rfl, hl, hown, hb2⟩)
    | (at_builtin; refine app_lit (w0 := w) w.heap.size rfl _ _ 25 23 (.float .f64 0) 1 8 rfl Try.underlying25 info23 rfl (by decide) (by decide) v l.length (fl l) rfl (own_weaken hown hb1.size) (bl_then hb1 hb1.size hb2) (Nat.le_trans hb1.size hb2.size) 3 3 [.float .f64 a, .float .f64 b, .float .f64 0] rfl rfl (by simp [Value.oneCell']) (by omega) ?_; intro v3 w3 hown3 hb3 hg3 hat3; clear hg3 hat3; obtain ⟨A3, c3, rfl, hn3, hc3, hr3, -⟩ := Rd.own hown3; clear hown3 hown))
  obtain ⟨L, N, hN, hL, hr4, hN2⟩ : ∃ (L : List Nat) (N : Nat), N = l.length + 3 ∧ L.length = N ∧ Hid (Rd w3 A3 (fl L)) ∧ N ≤ 23 :=
    ⟨l ++ [a, b, 0], _, rfl, by simp, Lib.hid (by simpa [fl, enc] using hr3), by omega⟩
  have hb3' := Lib.hid hb3
  clear hb1 hb2 hb3 hr3
  rw [← hN] at *
  clear hN hl hi hz0 hz1 hz2 hr'
  have hL' := Lib.hid hL
  clear hL
  go_loopw [8] (fun i wr => ∃ k n : Nat, i = .int .i64 k ∧ k ≤ N ∧ wr = w3.drewN n) (fun i _ => N - (intOf i).toNat)
  case atStart => exact ⟨0, 0, rfl, by omega, rfl⟩
  case round =>
    obtain ⟨i, n, rfl, hi, rfl⟩ := hrel
    by_cases hlt : i < N
    · have hd1 : decide (i < N) = true := by simpa using hlt
      obtain ⟨ad, xi, rfl, hxi, -⟩ := hr4.out.at i (by rw [hL'.out]; exact hlt)
      go_wp2
      go_loopw [9] (fun i wr => ∃ k n : Nat, i = .int .i64 k ∧ k ≤ N ∧ wr = w3.drewN n) (fun i _ => N - (intOf i).toNat)
      case atStart => exact ⟨0, n, rfl, by omega, rfl⟩
      case round =>
        obtain ⟨k, m, rfl, hk, rfl⟩ := hrel
        by_cases hlt2 : k < N
        · have hd2 : decide (k < N) = true := by simpa using hlt2
          obtain ⟨ad', xk, e, hxk, -⟩ := hr4.out.at k (by rw [hL'.out]; exact hlt2)
          cases e
          have hb0 := cmpF_bd xi xk
          have b1 : (0 : Int) ≤ (i : Int) := by omega
          have b2 : (i : Int) < (N : Int) := by omega
          have b3 : (0 : Int) ≤ (k : Int) := by omega
          have b4 : (k : Int) < (N : Int) := by omega
          have e1 : (cmpF xi xk != refF xi xk) = false := by rw [cmpF_ref]; simp
          have e2 : (cmpF xk xi != -cmpF xi xk) = false := by rw [cmpF_turn xi xk]; simp
          go_wp2
          go_quiet ((go_at_call 13; first | exact quiet_same (cmp_any _ _ _) | exact quiet_add (cmp_any _ _ _)))
          go_wp2
          go_quiet ((first | (go_at_call 13; first | exact quiet_same (cmp_any _ _ _) | exact quiet_add (cmp_any _ _ _)) | (go_at_call 14; first | exact quiet_same (refcmp_any _ _ _) | exact quiet_add (refcmp_any _ _ _))))
          go_wp2
          clear e1 e2
          go_loopw [11] (fun i wr => ∃ k n : Nat, i = .int .i64 k ∧ k ≤ N ∧ wr = w3.drewN n) (fun i _ => N - (intOf i).toNat)
          case atStart => exact ⟨0, _, rfl, by omega, by simp only [World.drewN_drewN]; rfl⟩
          case round =>
            obtain ⟨j, p, rfl, hj, rfl⟩ := hrel
            by_cases hlt3 : j < N
            · have hd3 : decide (j < N) = true := by simpa using hlt3
              by_cases h6 : j < 6
              · have hd4 : decide ((j : Int) < 6) = true := by simp; omega
                obtain ⟨ad', xj, e, hxj, -⟩ := hr4.out.at j (by rw [hL'.out]; exact hlt3)
                cases e
                have b5 : (0 : Int) ≤ (j : Int) := by omega
                have b6 : (j : Int) < (N : Int) := by omega
                have hon := cmpF_on xi xk xj
                have hb1 := cmpF_bd xk xj
                have hb2 := cmpF_bd xi xj
                by_cases g1 : cmpF xi xk ≤ 0
                · by_cases g2 : cmpF xk xj ≤ 0
                  · have g3 : cmpF xi xj ≤ 0 := hon g1 g2
                    clear hon
                    have d1 : decide (cmpF xi xk ≤ 0) = true := by simpa using g1
                    have d2 : decide (cmpF xk xj ≤ 0) = true := by simpa using g2
                    have d3 : decide (0 < cmpF xi xj) = false := by simpa using g3
                    go_wp2
                    go_quiet ((go_at_call 13; first | exact quiet_same (cmp_any _ _ _) | exact quiet_add (cmp_any _ _ _)))
                    go_wp2
                    go_roundw
                    case rel => exact ⟨j + 1, _, by go_num, by omega, rfl⟩
                    case measure => simp [intOf]; omega
                  · clear hon
                    have d1 : decide (cmpF xi xk ≤ 0) = true := by simpa using g1
                    have d2 : decide (cmpF xk xj ≤ 0) = false := by simpa using g2
                    go_wp2
                    go_quiet ((go_at_call 13; first | exact quiet_same (cmp_any _ _ _) | exact quiet_add (cmp_any _ _ _)))
                    go_wp2
                    go_roundw
                    case rel => exact ⟨j + 1, _, by go_num, by omega, rfl⟩
                    case measure => simp [intOf]; omega
                · clear hon
                  have d1 : decide (cmpF xi xk ≤ 0) = false := by simpa using g1
                  go_wp2
                  go_quiet ((go_at_call 13; first | exact quiet_same (cmp_any _ _ _) | exact quiet_add (cmp_any _ _ _)))
                  go_wp2
                  go_roundw
                  case rel => exact ⟨j + 1, _, by go_num, by omega, rfl⟩
                  case measure => simp [intOf]; omega
              · have hd4 : decide ((j : Int) < 6) = false := by simp; omega
                go_wp2
                go_roundw
                case rel => exact ⟨k + 1, _, by go_num, by omega, rfl⟩
                case measure => simp [intOf]; omega
            · have hd3 : decide (j < N) = false := by simpa using hlt3
              go_wp2
              go_roundw
              case rel => exact ⟨k + 1, _, by go_num, by omega, rfl⟩
              case measure => simp [intOf]; omega
        · have hd2 : decide (k < N) = false := by simpa using hlt2
          go_wp2
          go_roundw
          case rel => exact ⟨i + 1, m, by go_num, by omega, rfl⟩
          case measure => simp [intOf]; omega
    · have hd1 : decide (i < N) = false := by simpa using hlt
      go_wp2
      go_ret
      exact ⟨rfl, bl_drewN hb3'.out _⟩
end Go.Proofs.Ytdhklfbelplbcaa
