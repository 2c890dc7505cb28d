/- The walk of slices' merge in place: a run against one place. -/
import Derived.Test.YtdhklfbelplbcaaGg
namespace Go.Proofs.Ytdhklfbelplbcaa
set_option linter.unusedVariables false
set_option linter.unusedSimpArgs false
open Go.RowKit

variable {w0 : World} {gd hb gh n : Nat} {hs : List Nat}
set_option maxHeartbeats 8000000 in
set_option maxRecDepth 100000 in
theorem symm_right (E : Env w0 gd hb gh n hs) (T a m : Nat) (f : Nat → Nat) (W : World) (hst : SortSt w0 gd n f W) (hin : MgIn (keyL hs) T n f a m (m + 1)) (hne : ¬ m = a + 1) :
    Calls Try.prog 70 #[.slice (some ⟨gd, 0, none⟩) n n, .int .i64 (a : Nat), .int .i64 (m : Nat), .int .i64 ((m : Int) + 1), FN hb] W fun e w' => e = .returned (.tuple #[]) ∧ ∃ f', SortSt w0 gd n f' w' ∧ MgOut (keyL hs) n f f' a (m + 1) := by
  have hnb := E.nb
  unfold FN
  have hst' := Lib.hid hst
  have hin' := Lib.hid hin
  have ham := hin.am
  have hbn := hin.bn
  clear hst hin
  have d1 : (m : Int) + 1 - (m : Int) = 1 := by omega
  have d2 : ((m : Int) - (a : Int) == 1) = false := by simp; omega
  have d3 : ¬ ((m : Int) - (a : Int) = 1) := by omega
  go_enter Try.func70, Try.ntmps70
  go_wp2_with fail
  go_loopw [14, 15] (fun i j wr => ∃ (i' j' : Nat), i = .int .i64 (i' : Nat) ∧ j = .int .i64 (j' : Nat) ∧ a ≤ i' ∧ i' ≤ j' ∧ j' ≤ m ∧ SortSt w0 gd n f wr ∧ Hid (∀ p, a ≤ p → p < i' → LtK (keyL hs) (f p) (f m)) ∧ Hid (∀ p, j' ≤ p → p < m → LtK (keyL hs) (f m) (f p))) (fun i j _ => (intOf j).toNat - (intOf i).toNat)
  case atStart => exact ⟨a, m, rfl, rfl, by omega, by omega, by omega, hst'.out, Lib.hid (fun p h1 h2 => by omega), Lib.hid (fun p h1 h2 => by omega)⟩
  case round =>
    obtain ⟨i, j, rfl, rfl, hi1, hij, hjb, hs1, hlo, hhi⟩ := hrel
    by_cases hlt : i < j
    · have hd : decide (i < j) = true := by simpa using hlt
      have hd2 : decide ((i : Int) < (j : Int)) = true := by simp; omega
      obtain ⟨h, hh, hmid⟩ : ∃ h : Nat, (i + j) / 2 = h ∧ ((i : Int) + (j : Int)) / 2 = (h : Int) := ⟨(i + j) / 2, rfl, by omega⟩
      have hb1 : i ≤ h ∧ h < j := by omega
      replace hh := Lib.hid hh
      obtain ⟨x0, -⟩ := hs1.cell h (by omega)
      obtain ⟨y0, -⟩ := hs1.cell m (by omega)
      obtain ⟨c, hc⟩ : ∃ c, cmpK (keyL hs) (f m) (f h) = c := ⟨_, rfl⟩
      have hcb := cmpK_bd (keyL hs) (f m) (f h)
      rw [hc] at hcb
      have hsg : Hid (c < 0 ↔ LtK (keyL hs) (f m) (f h)) := Lib.hid (by rw [← hc]; exact hin'.out.cmp_rl (by omega) (by omega))
      have hv := Lib.hid (E.at_ hs1)
      have f1 : f h < n := hin'.out.perm.1 h (by omega)
      have f2 : f m < n := hin'.out.perm.1 m (by omega)
      replace hc := Lib.hid hc
      replace hs1 := Lib.hid hs1
      have k1 : (0 : Int) ≤ (h : Int) := by omega
      have k2 : (h : Int) < (n : Int) := by omega
      have k3 : (0 : Int) ≤ (m : Int) := by omega
      have k4 : (m : Int) < (n : Int) := by omega
      have hleft := hin'.out.left
      replace hleft := Lib.hid hleft
      go_upto_region 17 with fail
      go_quiet ((go_at_call 47; exact cmp_quiet hv.out (f m) (f h) f2 f1 hnb hc))
      by_cases hl : c < 0
      · have hl1 : decide (c < 0) = true := by simpa using hl
        have hl2 : decide (0 ≤ c) = false := by simp; omega
        have hl3 : (!decide (c < 0)) = false := by rw [hl1]; rfl
        have hlt2 := hsg.out.1 hl
        have hhi2 : Hid (∀ p, h ≤ p → p < m → LtK (keyL hs) (f m) (f p)) := Lib.hid (fun p p1 p2 => by
          by_cases e : p = h
          · rw [e]; exact hlt2
          · exact hlt2.trans (hleft.out h p (by omega) (by omega) p2))
        replace hlt2 := Lib.hid hlt2
        rw [hl3]
        go_wp2_with fail
        exact ⟨⟨i, h, rfl, rfl, by omega, by omega, by omega, hs1.out.drewN _, hlo, hhi2⟩, by simp [intOf]; omega⟩
      · have hl1 : decide (c < 0) = false := by simpa using hl
        have hl2 : decide (0 ≤ c) = true := by simp; omega
        have hl3 : (!decide (c < 0)) = true := by rw [hl1]; rfl
        have hlt2 : LtK (keyL hs) (f h) (f m) := hin'.out.or_ (by omega) (by omega) (fun e => hl (hsg.out.2 e))
        have hlo2 : Hid (∀ p, a ≤ p → p < h + 1 → LtK (keyL hs) (f p) (f m)) := Lib.hid (fun p p1 p2 => by
          by_cases e : p = h
          · rw [e]; exact hlt2
          · exact (hleft.out p h p1 (by omega) (by omega)).trans hlt2)
        replace hlt2 := Lib.hid hlt2
        rw [hl3]
        go_wp2_with fail
        exact ⟨⟨h + 1, j, by go_num, rfl, by omega, by omega, hjb, hs1.out.drewN _, hlo2, hhi⟩, by simp [intOf]; omega⟩
    · have hd : decide (i < j) = false := by simpa using hlt
      have hd2 : decide ((i : Int) < (j : Int)) = false := by simp; omega
      have hij2 : i = j := by omega
      subst hij2
      replace hs1 := Lib.hid hs1
      go_wp2_with fail
      go_loopw [17] (fun k wr => ∃ k' : Nat, k = .int .i64 (k' : Nat) ∧ i ≤ k' ∧ k' ≤ m ∧ SortSt w0 gd n (mvDn f m k') wr ∧ PermN n (mvDn f m k')) (fun k _ => (intOf k).toNat)
      case atStart => exact ⟨m, rfl, by omega, by omega, by rw [mvDn_zero]; exact hs1.out, by rw [mvDn_zero]; exact hin'.out.perm⟩
      case round =>
        obtain ⟨k, rfl, hk1, hk2, hs2, hp2⟩ := hrel
        by_cases hlt3 : i < k
        · have hd3 : decide ((k : Int) > (i : Int)) = true := by simp; omega
          have hd4 : decide ((i : Int) < (k : Int)) = true := by simp; omega
          have hd5 : decide (i < k) = true := by simpa using hlt3
          obtain ⟨g, hg⟩ : ∃ g, mvDn f m k = g := ⟨_, rfl⟩
          rw [hg] at hs2 hp2
          obtain ⟨x0, x1⟩ := hs2.cell k (by omega)
          obtain ⟨y0, y1⟩ := hs2.cell (k - 1) (by omega)
          obtain ⟨X0, X1⟩ := hs2.drew.cell k (by omega)
          obtain ⟨Y0, Y1⟩ := hs2.drew.cell (k - 1) (by omega)
          have hsw := Lib.hid (hs2.swap k (k - 1) E.gdl)
          have hpw := Lib.hid (hp2.swp (i := k) (j := k - 1) (by omega) (by omega))
          have hfe : Hid (swp (mvDn f m k) k (k - 1) = mvDn f m (k - 1)) := Lib.hid (by
            have := mvDn_succ f m (k - 1) (by omega)
            rwa [show k - 1 + 1 = k by omega] at this)
          replace hg := Lib.hid hg
          have n1 : ¬ k = k - 1 := by omega
          have n2 : ¬ k - 1 = k := by omega
          have i1 : (0 : Int) ≤ (k : Int) := by omega
          have i2 : (k : Int) < (n : Int) := by omega
          have i3 : (0 : Int) ≤ (k : Int) - 1 := by omega
          have i4 : (k : Int) - 1 < (n : Int) := by omega
          have i5 : IntKind.i64.wrap ((k : Int) - 1) = (k : Int) - 1 := by rw [IntKind.wrap_i64]; omega
          have i6 : ((k : Int) - 1).toNat = k - 1 := by omega
          clear hs2 hp2
          go_upto_region 23 with fail
          go_region_with fail
          all_goals (go_wp2_with fail)
          all_goals exact ⟨⟨k - 1, by rw [show ((k - 1 : Nat) : Int) = (k : Int) - 1 by omega], by omega, by omega, by rw [← hfe.out, hg.out]; exact hsw.out, by rw [← hfe.out, hg.out]; exact hpw.out⟩, by simp [intOf]; omega⟩
        · have hd3 : decide ((k : Int) > (i : Int)) = false := by simp; omega
          have hd4 : decide ((i : Int) < (k : Int)) = false := by simp; omega
          have hd5 : decide (i < k) = false := by simpa using hlt3
          have hk3 : k = i := by omega
          have hfin := Lib.hid (hin'.out.one_right ⟨hi1, hjb⟩ hlo.out hhi.out (by rw [← hk3]; exact hp2))
          rw [hk3] at hs2
          replace hs2 := Lib.hid hs2
          replace hk3 := Lib.hid hk3
          go_wp2_with fail
          exact bodyPost_ret (v := .tuple #[]) (by simp [results, Try.results70, go_sem]) rfl ⟨rfl, _, hs2.out, hfin.out⟩
end Go.Proofs.Ytdhklfbelplbcaa
