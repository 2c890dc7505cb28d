/- The walks: le, sum; Bytes of a Part. -/
import Derived.Test.YtjlhajnficneoaaSb
import Derived.StillTailTactics
import Derived.Deep.RegionWith
import Derived.Deep.RegionHeld3
import Derived.Deep.RegionLaw
namespace Go.Proofs.Ytjlhajnficneoaa
set_option linter.unusedVariables false
set_option linter.unusedSimpArgs false
open Go.RowKit

set_option maxHeartbeats 1000000 in
theorem le_any (base : Nat) (v : Value) (m k : Nat) (xs : List Value) (x : Int) (w : World) (hown : w.ownsRow base 5 1 v m xs) (hb : base ≤ w.heap.size) (hk : k ≤ 4) (hm : m ≤ 100000) :
    Calls Try.prog 32 #[v, .int .i64 x, .int .i64 k] w fun e w' => ∃ v', e = .returned v' ∧ w'.ownsRow base 5 1 v' (m + k) (xs ++ bs (leN x k)) ∧ Below base w w' ∧ (v'.ownBlock = v.ownBlock ∨ ∃ b, v'.ownBlock = some b ∧ w.heap.size ≤ b) ∧ w.grownBy w' v.ownBlock := by
  have hown0 := Lib.hid hown
  obtain ⟨A, c, rfl, -⟩ := Rd.own hown
  clear hown
  go_enter Try.func32, Try.ntmps32
  go_wp2
  go_loopw [0, 7] (fun v1 i wr => ∃ j : Nat, i = .int .i64 j ∧ j ≤ k ∧ wr.ownsRow base 5 1 v1 (m + j) (xs ++ bs (leN x j)) ∧ Below base w wr ∧ (v1.ownBlock = (Value.slice A m c).ownBlock ∨ ∃ b, v1.ownBlock = some b ∧ w.heap.size ≤ b) ∧ w.grownBy wr (Value.slice A m c).ownBlock) (fun _ i _ => k - (intOf i).toNat)
  case atStart => exact ⟨0, rfl, by omega, by simpa [leN, bs, enc] using hown0.out, Below.refl _ _, .inl rfl, ⟨rfl, rfl, rfl, Nat.le_refl _, fun _ _ _ => rfl⟩⟩
  case round =>
    obtain ⟨j, rfl, hj, hown, hbw, hat, hg⟩ := hrel
    have hown' := Lib.hid hown
    have hbw' := Lib.hid hbw
    have hat' := Lib.hid hat
    have hg' := Lib.hid hg
    have hsz := hbw.size
    clear hown hbw hat hg
    by_cases hlt : j < k
    · have hval : Hid (Value.int .u8 (x / 2 ^ (8 * j) % 256) = by_ (x / 256 ^ j % 256).toNat) := Lib.hid (by
        unfold by_
        have e : (2 : Int) ^ (8 * j) = 256 ^ j := by rw [Int.pow_mul]; rfl
        rw [e]
        congr 1
        omega)
      go_wp2_with (at_builtin; refine app_lit (w0 := w) base (by rfl) _ _ 22 5 (.int .u8 0) 1 1 rfl Try.underlying22 info5 rfl (by decide) (by decide) _ (m + j) (xs ++ bs (leN x j)) rfl hown'.out hbw'.out (by omega) 1 1 [.int .u8 (x / 2 ^ (8 * j) % 256)] rfl rfl (by simp [Value.oneCell']) (by omega) ?_; intro v6 w6 hown6 hb6 hg6 hat6)
      refine ⟨⟨j + 1, by go_num, by omega, ?_, hb6, at_then hsz hat'.out hat6, grown_then hg'.out hat'.out hg6⟩, by simp [intOf]; omega⟩
      rw [hval.out, List.append_assoc] at hown6
      rw [leN_snoc, show bs (leN x j ++ [(x / 256 ^ j % 256).toNat]) = bs (leN x j) ++ [by_ (x / 256 ^ j % 256).toNat] from enc_append _ _ _]
      exact hown6
    · go_wp2
      go_ret
      have hjk : j = k := by omega
      subst hjk
      exact ⟨_, rfl, hown'.out, hbw'.out, hat'.out, hg'.out⟩

set_option maxHeartbeats 1000000 in
theorem sum_any (g : Nat) (l : List Nat) (w : World) (hl : l.length = 64) (hr : Rd w (some ⟨g, 0, none⟩) (bs l)) (h8 : Bytes8 l) :
    Calls Try.prog 28 #[.slice (some ⟨g, 0, none⟩) 64 64] w fun e w' => e = .returned (.int .i64 (crc (l.take 8 ++ l.drop 12))) ∧ Below w.heap.size w w' := by
  obtain ⟨i0, hi, hz0, hz1, hz2⟩ := info_parts info5
  have hr' := Lib.hid hr
  have h8' := Lib.hid h8
  have hl' := Lib.hid hl
  clear hr h8 hl
  go_enter Try.func28, Try.ntmps28
  go_wp2
  go_still_tail 4, (by kernel_rfl)
  change wpList _ _ _ _ _ w.drew
  have hr2 := Lib.hid (hr'.out.below (Below.drew (Below.refl _ _)))
  have hlo : Hid ((bs (l.take 8)).length = 8 * 1) := Lib.hid (by have := hl'.out; rw [bs_length]; simp; omega)
  have hne : Hid ((bs (l.drop 12)).length = 52 * 1) := Lib.hid (by have := hl'.out; rw [bs_length]; simp; omega)
  have hlo2 : Hid (Rd w.drew (some ⟨g, 0, none⟩) (bs (l.take 8))) := Lib.hid (by have := hr2.out.take 8; simpa [bs, enc, List.map_take] using this)
  have hne2 : Hid (Rd w.drew (some ⟨g, 12, none⟩) (bs (l.drop 12))) := Lib.hid (by have := hr2.out.drop 12; simpa [bs, enc, List.map_drop] using this)
  go_wp2_with (at_builtin; refine wpList_append_grows _ rfl _ _ 22 rfl 5 i0 (.int .u8 0) 1 1 Try.underlying22 hi hz0 hz1 hz2 rfl (by decide) (some ⟨g, 0, none⟩) 8 8 (bs (l.take 8)) rfl (fun e => by cases e) hlo.out (fun b e => by cases e; exact hlo2.out.cells) ⟨g, 12, none⟩ 52 52 (bs (l.drop 12)) rfl hne.out hne2.out.cells (bs_one _) (by omega) (by simp [maxLen]) (by omega) ?_; intro v' w' hown hg)
  have hb : Below w.heap.size w w' := (Below.drew (Below.refl _ _)).grown hg (Nat.le_refl _) (fun k e => by cases e)
  obtain ⟨A, c, rfl, hnc, hcm, hrd, -⟩ := Rd.own hown
  clear hown hg
  have h88 : Hid (Bytes8 (l.take 8 ++ l.drop 12)) := Lib.hid ((h8'.out.take 8).append (h8'.out.drop 12))
  have hlen : Hid ((l.take 8 ++ l.drop 12).length = 60) := Lib.hid (by have := hl'.out; simp; omega)
  have hcl := crc_lt _ h88.out
  have hrd' : Hid (Rd w' A (bs (l.take 8 ++ l.drop 12))) := Lib.hid (by rw [bs_append]; exact hrd)
  have hcrc := crc_any A c (l.take 8 ++ l.drop 12) w' hrd'.out h88.out (by rw [hlen.out]; exact hnc) hcm
  rw [hlen.out] at hcrc
  have hcrc' := Lib.hid hcrc
  clear hcrc hrd hi hz0 hz1 hz2
  go_wp2_with (go_at_call 13; refine hcrc'.out.mono ?_; rintro e w'' ⟨rfl, rfl⟩)
  go_ret
  exact ⟨rfl, hb⟩
end Go.Proofs.Ytjlhajnficneoaa
