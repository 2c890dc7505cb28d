/- The walks of a place's weight: the program's and the document's. -/
import Derived.Test.YtdhklfbelplbcaaGj
namespace Go.Proofs.Ytdhklfbelplbcaa
set_option linter.unusedVariables false
set_option linter.unusedSimpArgs false
open Go.RowKit

def strs (l : List ByteArray) : List Value := enc Value.string l
/-- the last class that answers, among the first k -/
def wtP (cs : List ByteArray) (hv : List Nat) (c : ByteArray) : Nat → Nat
  | 0 => 0
  | k + 1 => if cs[k]?.any (fun x => x.toList == c.toList) then hv[k]?.getD 0 else wtP cs hv c k

set_option maxHeartbeats 4000000 in
set_option maxRecDepth 100000 in
theorem weight_any (A B : Option Addr) (ca cb : Nat) (cs : List ByteArray) (hv : List Nat) (c : ByteArray) (w : World) (hr : Rd w A (strs cs)) (hr2 : Rd w B (fl hv)) (hn : cs.length ≤ ca) (hca : ca ≤ 9223372036854775807) (hm : hv.length ≤ cb) (hcb : cb ≤ 9223372036854775807) :
    Calls Try.prog 45 #[.string c, .slice A cs.length ca, .slice B hv.length cb] w fun e w' => e = .returned (.float .f64 (wtP cs hv c cs.length)) ∧ w' = w := by
  have hr' := Lib.hid hr
  have hr2' := Lib.hid hr2
  clear hr hr2
  go_enter Try.func45, Try.ntmps45
  go_wp2
  go_loopw [7] (fun i wr => ∃ k : Nat, k ≤ cs.length ∧ i = .int .i64 ((k : Int) - 1) ∧ Hid (wtP cs hv c k = wtP cs hv c cs.length) ∧ wr = w) (fun i _ => ((intOf i) + 1).toNat)
  case atStart => exact ⟨cs.length, Nat.le_refl _, rfl, Lib.hid rfl, rfl⟩
  case round =>
    obtain ⟨k, hk, rfl, hw, rfl⟩ := hrel
    rcases k with _ | k
    · have e : (((0 : Nat) : Int) - 1) = -1 := by omega
      rw [e]
      have hw0 : Hid (wtP cs hv c cs.length = 0) := Lib.hid hw.out.symm
      clear hw
      go_wp2
      first | go_ret | go_end0
      exact ⟨by rw [hw0.out]; rfl, rfl⟩
    · have e : (((k + 1 : Nat) : Int) - 1) = (k : Int) := by omega
      rw [e]
      have hlt : k < cs.length := by omega
      have k1 : (0 : Int) ≤ (k : Int) := by omega
      have k2 : (k : Int) < (cs.length : Int) := by omega
      obtain ⟨ad, x, rfl, hx, hxe⟩ := hr'.out.at k hlt
      have hc0 : cs[k]?.any (fun x => x.toList == c.toList) = (x.toList == c.toList) := by rw [List.getElem?_eq_getElem hlt, ← hxe]; rfl
      by_cases c1 : (x.toList == c.toList) = true
      · rw [c1] at hc0
        by_cases c2 : k < hv.length
        · obtain ⟨bd, y, rfl, hy, hye⟩ := hr2'.out.at k c2
          have hd : decide (k < hv.length) = true := by simpa using c2
          have hd2 : decide ((k : Int) < (hv.length : Int)) = true := by simp; omega
          have hw0 : Hid (wtP cs hv c cs.length = y) := Lib.hid (by rw [← hw.out, wtP, if_pos hc0, List.getElem?_eq_getElem c2, ← hye]; rfl)
          clear hw hxe hye hc0
          go_wp2
          exact bodyPost_ret (v := .float .f64 y) (by simp [results, Try.results45, go_sem]) rfl ⟨by rw [hw0.out], rfl⟩
        · have hd : decide (k < hv.length) = false := by simpa using c2
          have hd2 : decide ((k : Int) < (hv.length : Int)) = false := by simp; omega
          have hw0 : Hid (wtP cs hv c cs.length = 0) := Lib.hid (by rw [← hw.out, wtP, if_pos hc0, List.getElem?_eq_none (by omega)]; rfl)
          clear hw hxe hc0
          go_wp2
          exact bodyPost_ret (v := .float .f64 0) (by simp [results, Try.results45, go_sem]) rfl ⟨by rw [hw0.out], rfl⟩
      · have hc : (x.toList == c.toList) = false := Bool.not_eq_true _ ▸ c1
        have hw0 : Hid (wtP cs hv c k = wtP cs hv c cs.length) := Lib.hid (by rw [← hw.out, wtP, if_neg (by rw [hc0]; exact c1)])
        clear hw hxe hc0
        go_wp2
        go_roundw
        case rel => exact ⟨k, by omega, rfl, hw0, trivial⟩
        case measure => simp [intOf]
end Go.Proofs.Ytdhklfbelplbcaa
