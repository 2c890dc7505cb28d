/- The walk of slices' stable sort of up to thirty places. -/
import Derived.Test.YtdhklfbelplbcaaGi
namespace Go.Proofs.Ytdhklfbelplbcaa
set_option linter.unusedVariables false
set_option linter.unusedSimpArgs false
open Go.RowKit

variable {w0 : World} {gd hb gh n : Nat} {hs : List Nat}
theorem PermN.id (n : Nat) : PermN n (fun p => p) := ⟨fun p h => h, fun p q _ _ h => h⟩
set_option maxHeartbeats 16000000 in
set_option maxRecDepth 100000 in
theorem stable_any (E : Env w0 gd hb gh n hs) (hn : n ≤ 30) (W : World) (hst : SortSt w0 gd n (fun p => p) W) :
    Calls Try.prog 60 #[.slice (some ⟨gd, 0, none⟩) n n, .int .i64 (n : Nat), FN hb] W fun e w' => e = .returned (.tuple #[]) ∧ ∃ f', SortSt w0 gd n f' w' ∧ PermN n f' ∧ SegS (keyL hs) f' 0 n := by
  unfold FN
  have hst' := Lib.hid hst
  clear hst
  have p1 : (2 : Int) * 20 = 40 := by omega
  have u1 : decide ((40 : Int) ≤ (n : Int)) = false := by simp; omega
  have u2 : decide ((40 : Int) < (n : Int)) = false := by simp; omega
  go_enter Try.func60, Try.ntmps60
  go_wp2_with fail
  go_loopw [7, 8] (fun i j wr => ∃ f, SortSt w0 gd n f wr ∧ PermN n f ∧ ((i = .int .i64 0 ∧ j = .int .i64 20 ∧ f = fun p => p) ∨ (i = .int .i64 20 ∧ j = .int .i64 40 ∧ 20 ≤ n ∧ Hid (SegS (keyL hs) f 0 20) ∧ Hid (∀ p, 20 ≤ p → f p = p) ∧ Hid (∀ p, p < 20 → f p < 20)))) (fun _ j _ => 60 - (intOf j).toNat)
  case atStart => exact ⟨fun p => p, hst'.out, PermN.id n, .inl ⟨rfl, rfl, rfl⟩⟩
  case round =>
    obtain ⟨f, hs1, hp1, ⟨rfl, rfl, rfl⟩ | ⟨rfl, rfl, hn2, hsg, hid1, hlo⟩⟩ := hrel
    · by_cases c : 20 ≤ n
      · have c1 : decide (20 ≤ n) = true := by simpa using c
        have c2 : decide ((20 : Int) ≤ (n : Int)) = true := by simp; omega
        replace hs1 := Lib.hid hs1
        replace hp1 := Lib.hid hp1
        go_wp2_with (go_at_call 69; refine (insert_any E 0 20 (fun p => p) _ hs1.out hp1.out (fun _ _ _ => rfl) c (by omega)).mono ?_; rintro ex w' ⟨rfl, f1, h1, h2, h3, h4, h5⟩; replace hs1 := Lib.hid h1; replace hp1 := Lib.hid h2; have ho := Lib.hid h3; have hsg := Lib.hid h4; have hlo := Lib.hid h5; clear h1 h2 h3 h4 h5)
        exact ⟨⟨f1, hs1.out, hp1.out, .inr ⟨rfl, rfl, c, hsg, Lib.hid (fun p h => ho.out p (by omega)), Lib.hid (fun p h => (hlo.out p (by omega) h).2)⟩⟩, by simp [intOf]⟩
      · have c1 : decide (20 ≤ n) = false := by simpa using c
        have c2 : decide ((20 : Int) ≤ (n : Int)) = false := by simp; omega
        have c3 : decide (20 < n) = false := by simp; omega
        have c4 : decide ((20 : Int) < (n : Int)) = false := by simp; omega
        replace hs1 := Lib.hid hs1
        replace hp1 := Lib.hid hp1
        go_wp2_with (go_at_call 69; refine (insert_any E 0 n (fun p => p) _ hs1.out hp1.out (fun _ _ _ => rfl) (Nat.le_refl _) (by omega)).mono ?_; rintro ex w' ⟨rfl, f1, h1, h2, h3, h4, h5⟩; replace hs1 := Lib.hid h1; replace hp1 := Lib.hid h2; have ho := Lib.hid h3; have hsg := Lib.hid h4; have hlo := Lib.hid h5; clear h1 h2 h3 h4 h5)
        go_loopw [6] (fun i wr => i = .int .i64 20 ∧ SortSt w0 gd n f1 wr) (fun _ _ => 0)
        case atStart => exact ⟨rfl, hs1.out⟩
        case round =>
          obtain ⟨rfl, hs2⟩ := hrel
          replace hs2 := Lib.hid hs2
          go_wp2_with fail
          first | go_end0 | go_ret
          exact ⟨rfl, f1, hs2.out, hp1.out, hsg.out⟩
    · by_cases c : 20 < n
      · have c1 : decide (20 < n) = true := by simpa using c
        have c2 : decide ((20 : Int) < (n : Int)) = true := by simp; omega
        have c3 : decide ((n : Int) < (n : Int)) = false := by simp
        replace hs1 := Lib.hid hs1
        replace hp1 := Lib.hid hp1
        go_wp2_with (go_at_call 69; refine (insert_any E 20 n f _ hs1.out hp1.out (fun p h _ => hid1.out p h) (Nat.le_refl _) hn2).mono ?_; rintro ex w' ⟨rfl, f1, h1, h2, h3, h4, h5⟩; replace hs1 := Lib.hid h1; replace hp1 := Lib.hid h2; have ho := Lib.hid h3; have hsg2 := Lib.hid h4; have hhi := Lib.hid h5; clear h1 h2 h3 h4 h5)
        have hin : Hid (MgIn (keyL hs) 20 n f1 0 20 n) := Lib.hid ⟨by omega, c, Nat.le_refl _, fun p q k1 k2 k3 => by rw [ho.out p (by omega), ho.out q (by omega)]; exact hsg.out p q k1 k2 k3, hsg2.out, fun p k1 k2 => by rw [ho.out p (by omega)]; exact hlo.out p k2, fun p k1 k2 => (hhi.out p k1 k2).1, hp1.out⟩
        go_loopw [6] (fun i wr => (i = .int .i64 20 ∧ SortSt w0 gd n f1 wr) ∨ (i = .int .i64 40 ∧ ∃ f2, SortSt w0 gd n f2 wr ∧ MgOut (keyL hs) n f1 f2 0 n)) (fun i _ => 60 - (intOf i).toNat)
        case atStart => exact .inl ⟨rfl, hs1.out⟩
        case round =>
          obtain ⟨rfl, hs2⟩ | ⟨rfl, f2, hs2, hou⟩ := hrel
          · replace hs2 := Lib.hid hs2
            obtain ⟨wq, hwq⟩ : ∃ x, x = wr := ⟨_, rfl⟩
            go_wp2_with fail
            go_loopw [7, 8] (fun i j ws => i = .int .i64 0 ∧ j = .int .i64 40 ∧ ws = wq) (fun _ _ _ => 0)
            case atStart => exact ⟨rfl, rfl, hwq.symm⟩
            case round =>
              obtain ⟨rfl, rfl, rfl⟩ := hrel
              subst hwq
              go_wp2_with (go_at_call 70; refine (symm_any E 20 n 0 20 n f1 _ (by omega) hs2.out hin.out).mono ?_; rintro ex w' ⟨rfl, f2, h1, h2⟩; replace hs2 := Lib.hid h1; have hou := Lib.hid h2; clear h1 h2)
              exact ⟨.inr ⟨rfl, f2, hs2.out, hou.out⟩, by simp [intOf]⟩
          · replace hs2 := Lib.hid hs2
            have hou' := Lib.hid hou
            clear hou
            go_wp2_with fail
            first | go_end0 | go_ret
            exact ⟨rfl, f2, hs2.out, hou'.out.perm, hou'.out.seg⟩
      · have hn3 : n = 20 := by omega
        subst hn3
        replace hs1 := Lib.hid hs1
        replace hp1 := Lib.hid hp1
        go_wp2_with (go_at_call 69; refine (insert_any E 20 20 f _ hs1.out hp1.out (fun p h _ => hid1.out p h) (Nat.le_refl _) hn2).mono ?_; rintro ex w' ⟨rfl, f1, h1, h2, h3, h4, h5⟩; replace hs1 := Lib.hid h1; replace hp1 := Lib.hid h2; have ho := Lib.hid h3; have hsg2 := Lib.hid h4; have hhi := Lib.hid h5; clear h1 h2 h3 h4 h5)
        go_loopw [6] (fun i wr => i = .int .i64 20 ∧ SortSt w0 gd 20 f1 wr) (fun _ _ => 0)
        case atStart => exact ⟨rfl, hs1.out⟩
        case round =>
          obtain ⟨rfl, hs2⟩ := hrel
          replace hs2 := Lib.hid hs2
          go_wp2_with fail
          first | go_end0 | go_ret
          exact ⟨rfl, f1, hs2.out, hp1.out, fun p q k1 k2 k3 => by rw [ho.out p (by omega), ho.out q (by omega)]; exact hsg.out p q k1 k2 k3⟩

set_option maxHeartbeats 4000000 in
theorem sort_any (E : Env w0 gd hb gh n hs) (hn : n ≤ 30) (W : World) (hst : SortSt w0 gd n (fun p => p) W) :
    Calls Try.prog 46 #[.slice (some ⟨gd, 0, none⟩) n n, FN hb] W fun e w' => e = .returned (.tuple #[]) ∧ ∃ f', SortSt w0 gd n f' w' ∧ PermN n f' ∧ SegS (keyL hs) f' 0 n := by
  unfold FN
  have hst' := Lib.hid hst
  clear hst
  go_enter Try.func46, Try.ntmps46
  go_wp2_with (go_at_call 60; refine (stable_any E hn _ hst'.out).mono ?_; rintro ex w' ⟨rfl, f2, h1, h2, h3⟩; have hs2 := Lib.hid h1; have hp := Lib.hid h2; have hsg := Lib.hid h3; clear h1 h2 h3)
  first | go_end0 | go_ret
  exact ⟨rfl, f2, hs2.out, hp.out, hsg.out⟩
end Go.Proofs.Ytdhklfbelplbcaa
