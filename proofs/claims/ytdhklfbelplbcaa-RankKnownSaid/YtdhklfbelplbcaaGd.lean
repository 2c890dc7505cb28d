/- The walk of slices' rotation. -/
import Derived.Test.YtdhklfbelplbcaaGc
namespace Go.Proofs.Ytdhklfbelplbcaa
set_option linter.unusedVariables false
set_option linter.unusedSimpArgs false
open Go.RowKit

/-- two neighbours change their places: [a, m) and [m, b) -/
def rotR (f : Nat → Nat) (a m b : Nat) : Nat → Nat := fun p => if a ≤ p ∧ p < a + (b - m) then f (p + (m - a)) else if a + (b - m) ≤ p ∧ p < b then f (p - (b - m)) else f p
/-- what is still to be rotated: i ahead of m, j behind it -/
def RotI (f f1 : Nat → Nat) (a m b i j : Nat) : Prop :=
  (∀ p, p < m - i ∨ m + j ≤ p → f1 p = rotR f a m b p) ∧ (∀ p, m - i ≤ p → p < m - i + j → rotR f a m b p = f1 (p + i)) ∧ (∀ p, m - i + j ≤ p → p < m + j → rotR f a m b p = f1 (p - j))
theorem RotI.start (f : Nat → Nat) (a m b : Nat) (h1 : a < m) (h2 : m < b) : RotI f f a m b (m - a) (b - m) := by
  refine ⟨fun p hp => ?_, fun p k1 k2 => ?_, fun p k1 k2 => ?_⟩
  · unfold rotR; rw [if_neg (by omega), if_neg (by omega)]
  · unfold rotR; rw [if_pos (by omega)]
  · unfold rotR; rw [if_neg (by omega), if_pos (by omega)]
theorem RotI.left {f f1 : Nat → Nat} {a m b i j : Nat} (h : RotI f f1 a m b i j) (hi : i ≤ m) (hij : j < i) : RotI f (swR f1 (m - i) m j) a m b (i - j) j := by
  obtain ⟨hA, hB, hC⟩ := h
  refine ⟨fun p hp => ?_, fun p k1 k2 => ?_, fun p k1 k2 => ?_⟩
  · unfold swR
    by_cases c1 : m - i ≤ p ∧ p < m - i + j
    · rw [if_pos c1, hB p c1.1 c1.2]; congr 1; omega
    · rw [if_neg c1, if_neg (by omega)]; exact hA p (by omega)
  · rw [hC p (by omega) (by omega)]
    unfold swR
    rw [if_neg (by omega), if_pos (by omega)]; congr 1; omega
  · rw [hC p (by omega) (by omega)]
    unfold swR
    rw [if_neg (by omega), if_neg (by omega)]
theorem RotI.right {f f1 : Nat → Nat} {a m b i j : Nat} (h : RotI f f1 a m b i j) (hi : i ≤ m) (hij : i < j) : RotI f (swR f1 (m - i) (m + j - i) i) a m b i (j - i) := by
  obtain ⟨hA, hB, hC⟩ := h
  refine ⟨fun p hp => ?_, fun p k1 k2 => ?_, fun p k1 k2 => ?_⟩
  · unfold swR
    by_cases c1 : m + j - i ≤ p ∧ p < m + j - i + i
    · rw [if_neg (by omega), if_pos c1, hC p (by omega) (by omega)]; congr 1; omega
    · rw [if_neg (by omega), if_neg c1]; exact hA p (by omega)
  · rw [hB p (by omega) (by omega)]
    unfold swR
    rw [if_neg (by omega), if_neg (by omega)]
  · rw [hB p (by omega) (by omega)]
    unfold swR
    rw [if_pos (by omega)]; congr 1; omega
theorem RotI.last {f f1 : Nat → Nat} {a m b i : Nat} (h : RotI f f1 a m b i i) (hi : i ≤ m) : swR f1 (m - i) m i = rotR f a m b := by
  obtain ⟨hA, hB, hC⟩ := h
  funext p
  unfold swR
  by_cases c1 : m - i ≤ p ∧ p < m - i + i
  · rw [if_pos c1, hB p c1.1 c1.2]; congr 1; omega
  · rw [if_neg c1]
    by_cases c2 : m ≤ p ∧ p < m + i
    · rw [if_pos c2, hC p (by omega) (by omega)]; congr 1; omega
    · rw [if_neg c2]; exact hA p (by omega)

variable {w0 : World} {gd hb gh n : Nat} {hs : List Nat}
set_option maxHeartbeats 4000000 in
set_option maxRecDepth 100000 in
theorem rotate_any (E : Env w0 gd hb gh n hs) (a m b : Nat) (f : Nat → Nat) (W : World) (hst : SortSt w0 gd n f W) (hp : PermN n f) (ham : a < m) (hmb : m < b) (hbn : b ≤ n) :
    Calls Try.prog 71 #[.slice (some ⟨gd, 0, none⟩) n n, .int .i64 (a : Nat), .int .i64 (m : Nat), .int .i64 (b : Nat), FN hb] W fun e w' => e = .returned (.tuple #[]) ∧ SortSt w0 gd n (rotR f a m b) w' ∧ PermN n (rotR f a m b) := by
  have hnb := E.nb
  have hst' := Lib.hid hst
  have hp' := Lib.hid hp
  clear hst hp
  have hsr := Lib.hid (RotI.start f a m b ham hmb)
  have e1 : ((m - a : Nat) : Int) = (m : Int) - (a : Int) := by omega
  have e2 : ((b - m : Nat) : Int) = (b : Int) - (m : Int) := by omega
  replace e1 := Lib.hid e1
  replace e2 := Lib.hid e2
  go_enter Try.func71, Try.ntmps71
  go_wp2_with fail
  go_loopw [10, 11] (fun i j wr => ∃ (i' j' : Nat) (f1 : Nat → Nat), i = .int .i64 (i' : Nat) ∧ j = .int .i64 (j' : Nat) ∧ 0 < i' ∧ 0 < j' ∧ i' ≤ m - a ∧ j' ≤ b - m ∧ SortSt w0 gd n f1 wr ∧ PermN n f1 ∧ RotI f f1 a m b i' j') (fun i j _ => (intOf i).toNat + (intOf j).toNat)
  case atStart => exact ⟨m - a, b - m, f, by rw [e1.out], by rw [e2.out], by omega, by omega, Nat.le_refl _, Nat.le_refl _, hst'.out, hp'.out, hsr.out⟩
  case round =>
    obtain ⟨i, j, f1, rfl, rfl, hi0, hj0, him, hjm, hs1, hp1, hr1⟩ := hrel
    have hs1' := Lib.hid hs1
    have hp1' := Lib.hid hp1
    have hr1' := Lib.hid hr1
    clear hs1 hp1 hr1
    have q1 : (m : Int) - (i : Int) = ((m - i : Nat) : Int) := by omega
    have q2 : (m : Int) + (j : Int) - (i : Int) = ((m + j - i : Nat) : Int) := by omega
    replace q1 := Lib.hid q1
    replace q2 := Lib.hid q2
    by_cases hij : i = j
    · subst hij
      have hd : ((i : Int) != (i : Int)) = false := by simp
      go_wp2_with (go_at_call 72; rw [q1.out]; refine (swaprange_any E (m - i) m i f1 _ hs1'.out hp1'.out (by omega) (by omega)).mono ?_; rintro e w' ⟨rfl, h1, h2⟩; rw [hr1'.out.last (by omega)] at h1 h2; replace h1 := Lib.hid h1; replace h2 := Lib.hid h2)
      first | go_end0 | go_ret
      exact ⟨rfl, h1.out, h2.out⟩
    · have hd : ((i : Int) == (j : Int)) = false := by simp; omega
      have hd1 : ((i : Int) != (j : Int)) = true := by simp only [bne, hd, Bool.not_false]
      by_cases hlt : j < i
      · have hd2 : decide (j < i) = true := by simpa using hlt
        have hd3 : decide ((i : Int) > (j : Int)) = true := by simp; omega
        have hl := Lib.hid (hr1'.out.left (by omega) hlt)
        go_wp2_with (go_at_call 72; rw [q1.out]; refine (swaprange_any E (m - i) m j f1 _ hs1'.out hp1'.out (by omega) (by omega)).mono ?_; rintro e w' ⟨rfl, h1, h2⟩; replace h1 := Lib.hid h1; replace h2 := Lib.hid h2)
        exact ⟨⟨i - j, j, _, by rw [show ((i - j : Nat) : Int) = (i : Int) - (j : Int) by omega], rfl, by omega, by omega, by omega, by omega, h1.out, h2.out, hl.out⟩, by simp [intOf]; omega⟩
      · have hd2 : decide (j < i) = false := by simpa using hlt
        have hd3 : decide ((i : Int) > (j : Int)) = false := by simp; omega
        have hl := Lib.hid (hr1'.out.right (by omega) (by omega))
        go_wp2_with (go_at_call 72; rw [q1.out, q2.out]; refine (swaprange_any E (m - i) (m + j - i) i f1 _ hs1'.out hp1'.out (by omega) (by omega)).mono ?_; rintro e w' ⟨rfl, h1, h2⟩; replace h1 := Lib.hid h1; replace h2 := Lib.hid h2)
        exact ⟨⟨i, j - i, _, rfl, by rw [show ((j - i : Nat) : Int) = (j : Int) - (i : Int) by omega], by omega, by omega, by omega, by omega, h1.out, h2.out, hl.out⟩, by simp [intOf]; omega⟩
end Go.Proofs.Ytdhklfbelplbcaa
