/- The walks of slices' sorting: two stretches changed, insertion. -/
import Derived.Test.YtdhklfbelplbcaaGb
namespace Go.Proofs.Ytdhklfbelplbcaa
set_option linter.unusedVariables false
set_option linter.unusedSimpArgs false
open Go.RowKit

/-- two stretches changed for each other -/
def swR (f : Nat → Nat) (a b k : Nat) : Nat → Nat := fun p => if a ≤ p ∧ p < a + k then f (p - a + b) else if b ≤ p ∧ p < b + k then f (p - b + a) else f p
theorem swR_zero (f : Nat → Nat) (a b : Nat) : swR f a b 0 = f := by
  funext p
  unfold swR
  rw [if_neg (by omega), if_neg (by omega)]
theorem swR_succ (f : Nat → Nat) (a b k : Nat) (h : a + (k + 1) ≤ b) : swp (swR f a b k) (a + k) (b + k) = swR f a b (k + 1) := by
  funext p
  rw [swp_at]
  unfold swR
  by_cases h1 : p = b + k
  · rw [if_pos h1, if_neg (by omega), if_neg (by omega), if_neg (by omega), if_pos (by omega)]
    congr 1; omega
  · rw [if_neg h1]
    by_cases h2 : p = a + k
    · rw [if_pos h2, if_neg (by omega), if_neg (by omega), if_pos (by omega)]
      congr 1; omega
    · rw [if_neg h2]
      by_cases h3 : a ≤ p ∧ p < a + k
      · rw [if_pos h3, if_pos (by omega)]
      · rw [if_neg h3, if_neg (show ¬ (a ≤ p ∧ p < a + (k + 1)) by omega)]
        by_cases h4 : b ≤ p ∧ p < b + k
        · rw [if_pos h4, if_pos (by omega)]
        · rw [if_neg h4, if_neg (by omega)]

variable {w0 : World} {gd hb gh n : Nat} {hs : List Nat}
set_option maxHeartbeats 4000000 in
set_option maxRecDepth 100000 in
theorem swaprange_any (E : Env w0 gd hb gh n hs) (a b k : Nat) (f : Nat → Nat) (W : World) (hst : SortSt w0 gd n f W) (hp : PermN n f) (hab : a + k ≤ b) (hbn : b + k ≤ n) :
    Calls Try.prog 72 #[.slice (some ⟨gd, 0, none⟩) n n, .int .i64 (a : Nat), .int .i64 (b : Nat), .int .i64 (k : Nat), FN hb] W fun e w' => e = .returned (.tuple #[]) ∧ SortSt w0 gd n (swR f a b k) w' ∧ PermN n (swR f a b k) := by
  have hnb := E.nb
  unfold FN
  have hst' := Lib.hid hst
  have hp' := Lib.hid hp
  clear hst hp
  go_enter Try.func72, Try.ntmps72
  go_wp2_with fail
  go_loopw [10] (fun i wr => ∃ j : Nat, i = .int .i64 j ∧ j ≤ k ∧ SortSt w0 gd n (swR f a b j) wr ∧ PermN n (swR f a b j)) (fun i _ => k - (intOf i).toNat)
  case atStart => exact ⟨0, rfl, by omega, by rw [swR_zero]; exact hst'.out, by rw [swR_zero]; exact hp'.out⟩
  case round =>
    obtain ⟨j, rfl, hj, hs1, hp1⟩ := hrel
    by_cases hlt : j < k
    · have hd : decide (j < k) = true := by simpa using hlt
      have hd2 : decide ((j : Int) < (k : Int)) = true := by simp; omega
      generalize hf : swR f a b j = fj at hs1 hp1
      obtain ⟨x0, x1⟩ := hs1.cell (a + j) (by omega)
      obtain ⟨y0, y1⟩ := hs1.cell (b + j) (by omega)
      obtain ⟨X0, X1⟩ := hs1.drew.cell (a + j) (by omega)
      obtain ⟨Y0, Y1⟩ := hs1.drew.cell (b + j) (by omega)
      have hsw := Lib.hid (hs1.swap (a + j) (b + j) E.gdl)
      have hpw := Lib.hid (hp1.swp (i := a + j) (j := b + j) (by omega) (by omega))
      have hfe := Lib.hid (swR_succ f a b j (by omega))
      replace hf := Lib.hid hf
      have n1 : ¬ a + j = b + j := by omega
      have n2 : ¬ b + j = a + j := by omega
      have i1 : (0 : Int) ≤ (a : Int) + (j : Int) := by omega
      have i2 : (a : Int) + (j : Int) < (n : Int) := by omega
      have i3 : (0 : Int) ≤ (b : Int) + (j : Int) := by omega
      have i4 : (b : Int) + (j : Int) < (n : Int) := by omega
      have i5 : IntKind.i64.wrap ((a : Int) + (j : Int)) = (a : Int) + (j : Int) := by rw [IntKind.wrap_i64]; omega
      have i6 : IntKind.i64.wrap ((b : Int) + (j : Int)) = (b : Int) + (j : Int) := by rw [IntKind.wrap_i64]; omega
      have i7 : ((a : Int) + (j : Int)).toNat = a + j := by omega
      have i8 : ((b : Int) + (j : Int)).toNat = b + j := by omega
      clear hs1 hp1
      go_upto_region 3 with fail
      go_region_with fail
      all_goals (go_wp2_with fail)
      all_goals exact ⟨⟨j + 1, by go_num, by omega, by rw [← hfe.out, hf.out]; exact hsw.out, by rw [← hfe.out, hf.out]; exact hpw.out⟩, by simp [intOf]; omega⟩
    · have hd : decide (j < k) = false := by simpa using hlt
      have hd2 : decide ((j : Int) < (k : Int)) = false := by simp; omega
      have hjk : j = k := by omega
      subst hjk
      go_wp2_with fail
      first | go_end0 | go_ret
      exact ⟨rfl, hs1, hp1⟩

theorem cmp_quiet {W : World} {hb gh n : Nat} {hs : List Nat} {m : Nat} (h : HvAt W hb gh n hs) (x y : Nat) (hx : x < n) (hy : y < n) (hn : n ≤ 1000) {c : Int} (hc : Hid (cmpK (keyL hs) x y = c)) :
    Calls Try.prog 47 #[.int .i64 (x : Nat), .int .i64 (y : Nat), .pointer (some ⟨hb, 0, none⟩)] (W.drewN m) fun e w' => e = .returned (.int .i64 c) ∧ ∃ k, w' = W.drewN k := by
  have h' : HvAt (W.drewN m) hb gh n hs := h
  refine (cmp_fn h' x y hx hy hn).mono ?_
  rintro e w' ⟨rfl, k, rfl⟩
  exact ⟨by rw [hc.out], m + k, by simp [World.drewN, Nat.add_assoc]⟩

set_option maxHeartbeats 8000000 in
set_option maxRecDepth 100000 in
theorem insert_any (E : Env w0 gd hb gh n hs) (a b : Nat) (f : Nat → Nat) (W : World) (hst : SortSt w0 gd n f W) (hp : PermN n f) (hid : ∀ p, a ≤ p → p < b → f p = p) (hbn : b ≤ n) (han : a ≤ n) :
    Calls Try.prog 69 #[.slice (some ⟨gd, 0, none⟩) n n, .int .i64 (a : Nat), .int .i64 (b : Nat), FN hb] W fun e w' => e = .returned (.tuple #[]) ∧ ∃ f', SortSt w0 gd n f' w' ∧ PermN n f' ∧ (∀ p, ¬ (a ≤ p ∧ p < b) → f' p = f p) ∧ SegS (keyL hs) f' a b ∧ (∀ p, a ≤ p → p < b → a ≤ f' p ∧ f' p < b) := by
  have hnb := E.nb
  unfold FN
  by_cases hab : a < b
  · have hst' := Lib.hid hst
    have hp' := Lib.hid hp
    have hid' := Lib.hid hid
    clear hst hp hid
    go_enter Try.func69, Try.ntmps69
    go_wp2_with fail
    go_loopw [8] (fun i wr => ∃ (i' : Nat) (f' : Nat → Nat), i = .int .i64 i' ∧ a + 1 ≤ i' ∧ i' ≤ b ∧ SortSt w0 gd n f' wr ∧ InsO (keyL hs) n f f' a i') (fun i _ => b - (intOf i).toNat)
    case atStart => exact ⟨a + 1, f, by go_num, by omega, by omega, hst'.out, InsO.start hp'.out (hid'.out a (by omega) hab)⟩
    case round =>
      obtain ⟨i, f1, rfl, hi1, hi2, hs1, ho1⟩ := hrel
      by_cases hlt : i < b
      · have hd : decide (i < b) = true := by simpa using hlt
        have hd2 : decide ((i : Int) < (b : Int)) = true := by simp; omega
        have hin := ho1.into (by omega) (hid'.out i (by omega) hlt)
        have hfi : i < n := by omega
        clear ho1
        go_wp2_with fail
        go_loopw [9] (fun j wr => ∃ (j' : Nat) (f' : Nat → Nat), j = .int .i64 j' ∧ SortSt w0 gd n f' wr ∧ InsI (keyL hs) n f f' a i j') (fun j _ => (intOf j).toNat)
        case atStart => exact ⟨i, f1, rfl, hs1, hin⟩
        case round =>
          obtain ⟨j, f2, rfl, hs2, hn2⟩ := hrel
          have haj : a ≤ j := hn2.1
          have hji : j ≤ i := hn2.2.1
          by_cases hja : a < j
          · have hg : decide (a < j) = true := by simpa using hja
            have hg2 : decide ((j : Int) > (a : Int)) = true := by simp; omega
            have hg3 : decide ((a : Int) < (j : Int)) = true := by simp; omega
            have hcl := hn2.cmp hja
            have hfj : f2 j = i := hn2.2.2.1
            obtain ⟨x0, x1⟩ := hs2.cell j (by omega)
            obtain ⟨y0, y1⟩ := hs2.cell (j - 1) (by omega)
            rw [hfj] at x0
            obtain ⟨u, hu⟩ : ∃ u, f2 (j - 1) = u := ⟨_, rfl⟩
            rw [hu] at y0 hcl
            obtain ⟨c, hc⟩ : ∃ c, cmpK (keyL hs) i u = c := ⟨_, rfl⟩
            have hcb := cmpK_bd (keyL hs) i u
            rw [hc] at hcb
            have hv := Lib.hid (E.at_ hs2)
            replace hc := Lib.hid hc
            replace hu := Lib.hid hu
            replace hfj := Lib.hid hfj
            have k1 : (0 : Int) ≤ (j : Int) := by omega
            have k2 : (j : Int) < (n : Int) := by omega
            have k3 : (0 : Int) ≤ (j : Int) - 1 := by omega
            have k4 : (j : Int) - 1 < (n : Int) := by omega
            have k5 : IntKind.i64.wrap ((j : Int) - 1) = (j : Int) - 1 := by rw [IntKind.wrap_i64]; omega
            have k6 : ((j : Int) - 1).toNat = j - 1 := by omega
            by_cases hl : c < 0
            · have hl1 : decide (c < 0) = true := by simpa using hl
              have hlt2 : LtK (keyL hs) i (f2 (j - 1)) := by rw [hu.out]; exact (cmpK_lt hcl).1 (by rw [hc.out]; exact hl)
              have hst := Lib.hid (hn2.step hja (by omega) hlt2)
              have hsw : Hid (∀ q, SortSt w0 gd n (swp f2 j (j - 1)) (((wr.drewN q).setCell ⟨gd, j, none⟩ (.int .i64 (u : Nat))).setCell ⟨gd, j - 1, none⟩ (.int .i64 (i : Nat)))) := Lib.hid (fun q => by
                have h1 := ((hs2.drewN q).set j (f2 (j - 1)) E.gdl).set (j - 1) (f2 j) E.gdl
                rw [hu.out, hfj.out] at h1
                unfold swp
                rw [hu.out, hfj.out]
                exact h1)
              clear hn2 hs2 hlt2
              have n1 : ¬ j = j - 1 := by omega
              have n2 : ¬ j - 1 = j := by omega
              go_upto_region 4 with fail
              go_quiet ((go_at_call 47; exact cmp_quiet hv.out i u (by omega) (by omega) hnb hc))
              go_upto_region 6 with fail
              go_region_with fail
              all_goals (go_wp2_with fail)
              all_goals exact ⟨⟨j - 1, swp f2 j (j - 1), by rw [show ((j - 1 : Nat) : Int) = (j : Int) - 1 by omega], hsw.out _, hst.out⟩, by simp [intOf]; omega⟩
            · have hl1 : decide (c < 0) = false := by simpa using hl
              have hlt2 : LtK (keyL hs) (f2 (j - 1)) i := by
                rw [hu.out]
                exact LtK.of_not (by omega) (fun h => hl (by rw [← hc.out]; exact (cmpK_lt hcl).2 h))
              have hdn := Lib.hid (hn2.done (.inr hlt2))
              replace hs2 := Lib.hid hs2
              clear hn2 hlt2
              go_upto_region 4 with fail
              go_quiet ((go_at_call 47; exact cmp_quiet hv.out i u (by omega) (by omega) hnb hc))
              go_wp2_with fail
              exact ⟨⟨i + 1, f2, by go_num, by omega, by omega, hs2.out.drewN _, hdn.out⟩, by simp [intOf]; omega⟩
          · have hja2 : j = a := by omega
            have hg : decide (a < j) = false := by simpa using hja
            have hg2 : decide ((j : Int) > (a : Int)) = false := by simp; omega
            have hg3 : decide ((a : Int) < (j : Int)) = false := by simp; omega
            have hdn := Lib.hid (hn2.done (.inl hja2))
            replace hs2 := Lib.hid hs2
            replace hja2 := Lib.hid hja2
            clear hn2
            go_upto_region 4 with fail
            go_quiet (fail)
            go_wp2_with fail
            exact ⟨⟨i + 1, f2, by go_num, by omega, by omega, hs2.out.drewN _, hdn.out⟩, by simp [intOf]; omega⟩
      · have hd : decide (i < b) = false := by simpa using hlt
        have hd2 : decide ((i : Int) < (b : Int)) = false := by simp; omega
        have hib : i = b := by omega
        subst hib
        go_wp2_with fail
        first | go_end0 | go_ret
        obtain ⟨h1, h2, h3, h4⟩ := ho1
        exact ⟨rfl, f1, hs1, h4, h1, h2, h3⟩
  · have hd : decide (a + 1 < b) = false := by simp; omega
    have hd2 : decide ((a : Int) + 1 < (b : Int)) = false := by simp; omega
    have hst' := Lib.hid hst
    have hp' := Lib.hid hp
    clear hst hp hid
    go_enter Try.func69, Try.ntmps69
    go_wp2_with fail
    go_loopw [8] (fun i wr => i = .int .i64 ((a : Int) + 1) ∧ wr = W) (fun _ _ => 0)
    case atStart => exact ⟨rfl, rfl⟩
    case round =>
      obtain ⟨rfl, rfl⟩ := hrel
      go_wp2_with fail
      first | go_end0 | go_ret
      exact ⟨rfl, f, hst'.out, hp'.out, fun _ _ => rfl, fun p q h1 h2 h3 => by omega, fun p h1 h2 => by omega⟩
end Go.Proofs.Ytdhklfbelplbcaa
