/- The walks: sums. -/
import Derived.Test.YtjlhajnficneoaaRows
import Derived.Test.YtjlhajnficneoaaKw
import Derived.Test.YtjlhajnficneoaaSp
namespace Go.Proofs.Ytjlhajnficneoaa
set_option linter.unusedVariables false
set_option linter.unusedSimpArgs false
open Go.RowKit

/-- a byte -/
def by_ (n : Nat) : Value := .int .u8 (n : Int)
/-- bytes in memory -/
def bs (l : List Nat) : List Value := enc by_ l
theorem bs_append (l m : List Nat) : bs (l ++ m) = bs l ++ bs m := enc_append _ _ _
theorem bs_length (l : List Nat) : (bs l).length = l.length := enc_length _ l

set_option maxHeartbeats 1000000 in
theorem crc_any (A : Option Addr) (c : Nat) (l : List Nat) (w : World) (hr : Rd w A (bs l)) (h8 : Bytes8 l) (hn : l.length ≤ c) (hc : c ≤ 9223372036854775807) :
    Calls Try.prog 13 #[.slice A l.length c] w fun e w' => e = .returned (.int .u32 (crc l)) ∧ w = w' := by
  have hr' := Lib.hid hr
  have h8' := Lib.hid h8
  clear hr h8
  go_enter Try.func13, Try.ntmps13
  go_wp2
  go_loop [3, 8] (fun v i => ∃ k : Nat, i = .int .i64 k ∧ k ≤ l.length ∧ v = .int .u32 (runC (l.take k) 4294967295 : Nat)) (fun _ i => l.length - (intOf i).toNat)
  case atStart => exact ⟨0, rfl, by omega, rfl⟩
  case round =>
    obtain ⟨k, rfl, hk, rfl⟩ := hrel
    have hlt8 := runC_lt (l.take k) (h8'.out.take k) (show 4294967295 < 4294967296 by decide)
    obtain ⟨c0, hc0⟩ : ∃ c0, c0 = runC (l.take k) 4294967295 := ⟨_, rfl⟩
    rw [← hc0] at hlt8 ⊢
    have hc0' := Lib.hid hc0
    clear hc0
    by_cases hlt : k < l.length
    · have hd1 : decide (k < l.length) = true := by simpa using hlt
      obtain ⟨ad, x, rfl, hx, hxe⟩ := hr'.out.at k hlt
      simp only [by_] at hx
      have hx8 : x < 256 := by rw [hxe]; exact h8'.out _ (List.getElem_mem hlt)
      have hxr := u32_xor_nat c0 x hlt8 (by omega)
      have hnx : Hid (runC (l.take (k + 1)) 4294967295 = stepsC 8 (c0 ^^^ x)) := Lib.hid (by rw [runC_snoc l k hlt, ← hc0'.out, ← hxe]; rfl)
      have hx0 := xor_lt32 hlt8 (show x < 4294967296 by omega)
      clear hxe
      go_wp2
      go_loop [3, 16] (fun v i => ∃ j c1 : Nat, i = .int .i64 j ∧ j ≤ 8 ∧ v = .int .u32 c1 ∧ c1 < 4294967296 ∧ Hid (stepsC j (c0 ^^^ x) = c1)) (fun _ i => 8 - (intOf i).toNat)
      case atStart => exact ⟨0, c0 ^^^ x, rfl, by omega, rfl, hx0, Lib.hid rfl⟩
      case round =>
        obtain ⟨j, c1, rfl, hj, rfl, hc1, hs1⟩ := hrel
        by_cases h8 : j < 8
        · have hd2 : decide ((j : Int) < 8) = true := by simp; omega
          have hand : bits .and .u32 (c1 : Int) 1 = ((c1 % 2 : Nat) : Int) := by
            have := u32_and_nat c1 1 hc1 (by decide)
            rw [nat_mask1] at this; exact this
          have hnx1 : Hid (stepsC (j + 1) (c0 ^^^ x) = stepC c1) := Lib.hid (by rw [stepsC_snoc, hs1.out])
          have hlt1 := stepC_lt hc1
          by_cases hb : c1 % 2 = 1
          · have hb1 : (((c1 % 2 : Nat) : Int) == 1) = true := by simp; omega
            have hb2 : ((c1 : Int) % 2 == 1) = true := by simp; omega
            have hxo : bits .xor .u32 ((c1 : Int) / 2) 3988292384 = ((stepC c1 : Nat) : Int) := by
              have := u32_xor_nat (c1 / 2) 3988292384 (by omega) (by decide)
              unfold stepC; rw [if_pos hb]; exact this
            clear hb
            go_wp2
            go_round
            case rel => exact ⟨j + 1, _, by go_num, by omega, rfl, hlt1, hnx1⟩
            case measure => simp [intOf]; omega
          · have hb1 : (((c1 % 2 : Nat) : Int) == 1) = false := by simp; omega
            have hb2 : ((c1 : Int) % 2 == 1) = false := by simp; omega
            have hxo : Hid (((stepC c1 : Nat) : Int) = (c1 : Int) / 2) := Lib.hid (by unfold stepC; rw [if_neg hb]; rfl)
            clear hb
            go_wp2
            go_round
            case rel => exact ⟨j + 1, _, by go_num, by omega, by rw [hxo.out], hlt1, hnx1⟩
            case measure => simp [intOf]; omega
        · have hd2 : decide ((j : Int) < 8) = false := by simp; omega
          have hj8 : Hid (j = 8) := Lib.hid (by omega)
          go_wp2
          go_round
          case rel => exact ⟨k + 1, by go_num, by omega, by rw [hnx.out, ← hs1.out, hj8.out]⟩
          case measure => simp [intOf]; omega
    · have hd1 : decide (k < l.length) = false := by simpa using hlt
      have hkl : Hid (k = l.length) := Lib.hid (by omega)
      have hxo := Lib.hid (u32_xor_nat 4294967295 c0 (by decide) hlt8)
      have hfin : Hid (crc l = c0 ^^^ 4294967295) := Lib.hid (by
        have h1 := hc0'.out
        rw [hkl.out, List.take_length] at h1
        rw [h1]; rfl)
      go_wp2
      go_ret
      refine ⟨ret_int ?_, rfl⟩
      rw [hfin.out, Nat.xor_comm]
      exact hxo.out

set_option maxHeartbeats 1000000 in
theorem refcrc_any (A : Option Addr) (c : Nat) (l : List Nat) (w : World) (hr : Rd w A (bs l)) (h8 : Bytes8 l) (hn : l.length ≤ c) (hc : c ≤ 9223372036854775807) :
    Calls Try.prog 14 #[.slice A l.length c] w fun e w' => e = .returned (.int .u32 (crc l)) ∧ w = w' := by
  have hr' := Lib.hid hr
  have h8' := Lib.hid h8
  clear hr h8
  go_enter Try.func14, Try.ntmps14
  go_wp2
  go_loop [3, 4] (fun v i => ∃ k : Nat, i = .int .i64 k ∧ k ≤ l.length ∧ v = .int .u32 (runC (l.take k) 4294967295 : Nat)) (fun _ i => l.length - (intOf i).toNat)
  case atStart => exact ⟨0, rfl, by omega, rfl⟩
  case round =>
    obtain ⟨k, rfl, hk, rfl⟩ := hrel
    have hlt8 := runC_lt (l.take k) (h8'.out.take k) (show 4294967295 < 4294967296 by decide)
    obtain ⟨c0, hc0⟩ : ∃ c0, c0 = runC (l.take k) 4294967295 := ⟨_, rfl⟩
    rw [← hc0] at hlt8 ⊢
    have hc0' := Lib.hid hc0
    clear hc0
    by_cases hlt : k < l.length
    · have hd1 : decide (k < l.length) = true := by simpa using hlt
      obtain ⟨ad, x, rfl, hx, hxe⟩ := hr'.out.at k hlt
      simp only [by_] at hx
      have hx8 : x < 256 := by rw [hxe]; exact h8'.out _ (List.getElem_mem hlt)
      have hxr := u32_xor_nat c0 x hlt8 (by omega)
      have hnx : Hid (runC (l.take (k + 1)) 4294967295 = stepsC 8 (c0 ^^^ x)) := Lib.hid (by rw [runC_snoc l k hlt, ← hc0'.out, ← hxe]; rfl)
      have hx0 := xor_lt32 hlt8 (show x < 4294967296 by omega)
      clear hxe
      go_wp2
      go_loop [3, 5] (fun v i => ∃ j c1 : Nat, i = .int .i64 j ∧ j ≤ 8 ∧ v = .int .u32 c1 ∧ c1 < 4294967296 ∧ Hid (stepsC j (c0 ^^^ x) = c1)) (fun _ i => 8 - (intOf i).toNat)
      case atStart => exact ⟨0, c0 ^^^ x, rfl, by omega, rfl, hx0, Lib.hid rfl⟩
      case round =>
        obtain ⟨j, c1, rfl, hj, rfl, hc1, hs1⟩ := hrel
        by_cases h8 : j < 8
        · have hd2 : decide ((j : Int) < 8) = true := by simp; omega
          have hand : bits .and .u32 (c1 : Int) 1 = ((c1 % 2 : Nat) : Int) := by
            have := u32_and_nat c1 1 hc1 (by decide)
            rw [nat_mask1] at this; exact this
          have hnx1 : Hid (stepsC (j + 1) (c0 ^^^ x) = stepC c1) := Lib.hid (by rw [stepsC_snoc, hs1.out])
          have hlt1 := stepC_lt hc1
          by_cases hb : c1 % 2 = 1
          · have hb1 : (((c1 % 2 : Nat) : Int) == 1) = true := by simp; omega
            have hb2 : ((c1 : Int) % 2 == 1) = true := by simp; omega
            have hxo : bits .xor .u32 ((c1 : Int) / 2) 3988292384 = ((stepC c1 : Nat) : Int) := by
              have := u32_xor_nat (c1 / 2) 3988292384 (by omega) (by decide)
              unfold stepC; rw [if_pos hb]; exact this
            clear hb
            go_wp2
            go_round
            case rel => exact ⟨j + 1, _, by go_num, by omega, rfl, hlt1, hnx1⟩
            case measure => simp [intOf]; omega
          · have hb1 : (((c1 % 2 : Nat) : Int) == 1) = false := by simp; omega
            have hb2 : ((c1 : Int) % 2 == 1) = false := by simp; omega
            have hxo : Hid (((stepC c1 : Nat) : Int) = (c1 : Int) / 2) := Lib.hid (by unfold stepC; rw [if_neg hb]; rfl)
            clear hb
            go_wp2
            go_round
            case rel => exact ⟨j + 1, _, by go_num, by omega, by rw [hxo.out], hlt1, hnx1⟩
            case measure => simp [intOf]; omega
        · have hd2 : decide ((j : Int) < 8) = false := by simp; omega
          have hj8 : Hid (j = 8) := Lib.hid (by omega)
          go_wp2
          go_round
          case rel => exact ⟨k + 1, by go_num, by omega, by rw [hnx.out, ← hs1.out, hj8.out]⟩
          case measure => simp [intOf]; omega
    · have hd1 : decide (k < l.length) = false := by simpa using hlt
      have hkl : Hid (k = l.length) := Lib.hid (by omega)
      have hxo := Lib.hid (u32_xor_nat c0 4294967295 hlt8 (by decide))
      have hfin : Hid (crc l = c0 ^^^ 4294967295) := Lib.hid (by
        have h1 := hc0'.out
        rw [hkl.out, List.take_length] at h1
        rw [h1]; rfl)
      go_wp2
      go_ret
      refine ⟨ret_int ?_, rfl⟩
      rw [hfin.out]
      exact hxo.out
end Go.Proofs.Ytjlhajnficneoaa
