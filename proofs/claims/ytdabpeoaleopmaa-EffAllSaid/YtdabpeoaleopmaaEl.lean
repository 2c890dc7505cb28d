/- The walk of EffAll. -/
import Derived.Test.YtdabpeoaleopmaaEg
namespace Go.Proofs.Ytdabpeoaleopmaa
set_option linter.unusedVariables false
set_option linter.unusedSimpArgs false
open Go.RowKit

theorem two_cells {w wx : World} {b : Nat} {u v : Int} (h : w.heap[b]? = some (.cells #[.int .i64 u, .int .i64 v] 3 (0, 0))) (hb : Below w.heap.size w wx) (k : Nat) (hk : k < 2) : ∃ y, wx.cell? ⟨b, k, none⟩ = some (.int .i64 y) := by
  have hrow := bl_row hb h
  match k, hk with
  | 0, _ => exact ⟨u, (cell_of_row _ b 0 _ 3 (0, 0) hrow).trans rfl⟩
  | 1, _ => exact ⟨v, (cell_of_row _ b 1 _ 3 (0, 0) hrow).trans rfl⟩

set_option maxHeartbeats 8000000 in
set_option maxRecDepth 100000 in
theorem all_any (w : World) (n : Int) (h0 : (Lit.int .i64 n).wf = true) (A0 : Option Addr) (c0 : Nat) (ns0 : List Int) (hr0 : Rd w A0 (enc (Value.int .i64) ns0)) (hn0 : ns0.length ≤ c0) (hc0 : c0 ≤ 9223372036854775807) (hw0 : ∀ x ∈ ns0, (Lit.int .i64 x).wf = true)
    (A1 : Option Addr) (c1 : Nat) (ns1 : List Int) (hr1 : Rd w A1 (enc (Value.int .i64) ns1)) (hn1 : ns1.length ≤ c1) (hc1 : c1 ≤ 9223372036854775807) (hw1 : ∀ x ∈ ns1, (Lit.int .i64 x).wf = true)
    (p : Int) (h3 : (Lit.int .i64 p).wf = true) (c : Int) (h4 : (Lit.int .i64 c).wf = true) :
    Calls Try.prog 8 #[.int .i64 n, .slice A0 ns0.length c0, .slice A1 ns1.length c1, .int .i64 p, .int .i64 c] w fun e w' => e = .returned (.bool true) ∧ Below w.heap.size w w' := by
  have hr0' := Lib.hid hr0
  have hr1' := Lib.hid hr1
  clear h0 hr0 hw0 hr1 hw1 h3 h4
  obtain ⟨m, hm0, hqe⟩ : ∃ m : Nat, m ≤ 20 ∧ n % 21 = (m : Int) := ⟨(n % 21).toNat, by omega, by omega⟩
  have hm : Hid (m ≤ 1000) := Lib.hid (by omega)
  replace hqe := Lib.hid hqe
  obtain ⟨x, hx⟩ : ∃ u_, makeL m ns0 = u_ := ⟨_, rfl⟩
  have ex : Hid (Ef m x) := Lib.hid (hx ▸ Ef.mk m ns0)
  replace hx := Lib.hid hx
  obtain ⟨y, hy⟩ : ∃ u_, makeL m ns1 = u_ := ⟨_, rfl⟩
  have ey : Hid (Ef m y) := Lib.hid (hy ▸ Ef.mk m ns1)
  replace hy := Lib.hid hy
  obtain ⟨C, hC0, hC1, hCe⟩ : ∃ C : Int, 0 ≤ C ∧ C ≤ 2 ∧ c % 3 = C := ⟨c % 3, by omega, by omega, rfl⟩
  replace hCe := Lib.hid hCe
  have hC : Hid (48 ≤ 48 + C ∧ 48 + C ≤ 50) := Lib.hid (by omega)
  have hCw : IntKind.u8.wrap (48 + C) = 48 + C := by rw [IntKind.wrap_u8]; omega
  obtain ⟨q, hq0, hq1, hqq⟩ : ∃ q : Int, 0 ≤ q ∧ q ≤ 100 ∧ p % ((m : Int) + 2) = q := ⟨p % ((m : Int) + 2), Int.emod_nonneg p (by omega), by have := Int.emod_lt_of_pos p (show (0 : Int) < (m : Int) + 2 by omega); omega, rfl⟩
  replace hqq := Lib.hid hqq
  have hB := Lib.hid (Below.refl w.heap.size w)
  go_enter Try.func8, Try.ntmps8
  go_upto_block 0 with (first
    | (go_at_call 10; refine (known_any _).mono ?_; rintro e w1 ⟨rfl, hb1⟩; replace hB := Lib.hid (bl_then hB.out hB.out.size hb1); clear hb1)
    | (go_at_call 12; (first | (with_reducible refine (make_e hx hm A0 c0 _ (hr0'.out.below hB.out) hn0 hc0).mono ?_) | (with_reducible refine (make_e hy hm A1 c1 _ (hr1'.out.below hB.out) hn1 hc1).mono ?_)); rintro e w1 ⟨rfl, hb1⟩; replace hB := Lib.hid (bl_then hB.out hB.out.size hb1); clear hb1)
    | (go_at_call_of 11 (Value.int .i64 n); refine (within_any n 21 _ (by decide) (by decide)).mono ?_; rintro e w' ⟨rfl, rfl⟩; rw [hqe.out])
    | (go_at_call_of 11 (Value.int .i64 c); refine (within_any c 3 _ (by decide) (by decide)).mono ?_; rintro e w' ⟨rfl, rfl⟩; rw [hCe.out])
    | (go_at_call_of 11 (Value.int .i64 p); refine (within_any p ((m : Int) + 2) _ (by omega) (by omega)).mono ?_; rintro e w' ⟨rfl, rfl⟩; rw [hqq.out]))
  have hrow := Lib.hid (heap_alloc_new w1 (.cells #[.int .i64 p, .int .i64 (q - 1)] 3))
  generalize hgb : w1.heap.size = gb at *
  have hBg := Lib.hid (bl_alloc hB.out (.cells #[.int .i64 p, .int .i64 (q - 1)] 3))
  replace hgb := Lib.hid hgb
  clear hB
  generalize w1.alloc (.cells #[.int .i64 p, .int .i64 (q - 1)] 3) = wg at *
  have hBgs := Lib.hid hBg.out.size
  go_wp2_with fail
  go_loopw [15] (fun i wr => ∃ k : Nat, i = .int .i64 k ∧ k ≤ 2 ∧ Below wg.heap.size wg wr) (fun i _ => 2 - (intOf i).toNat)
  case atStart => exact ⟨0, rfl, by omega, Below.refl _ _⟩
  case round =>
    obtain ⟨k, rfl, hk, hbl⟩ := hrel
    replace hbl := Lib.hid hbl
    by_cases hlt : k < 2
    · have hd : decide (k < 2) = true := by simpa using hlt
      have hd2 : decide ((k : Int) < 2) = true := by simp; omega
      obtain ⟨av, hav⟩ := two_cells hrow.out hbl.out.drew k hlt
      have hSk : Hid (∀ w', Below wr.drew.heap.size wr.drew w' → w'.cell? ⟨gb, k, none⟩ = some (.int .i64 av)) := Lib.hid (fun w' hb => bl_cell hb hav)
      clear hav
      obtain ⟨z, hz⟩ : ∃ u_, putL x av (48 + C) = u_ := ⟨_, rfl⟩
      replace hz := Lib.hid hz
      obtain ⟨hb, hhb⟩ : ∃ u_, hasL x av = u_ := ⟨_, rfl⟩
      replace hhb := Lib.hid hhb
      have hB := Lib.hid (Below.refl wr.drew.heap.size wr.drew)
      have i1 : (0 : Int) ≤ (k : Int) := by omega
      have i2 : (k : Int) < 2 := by omega
      go_upto_region 10 with fail
      go_region_held3 (fun w' => w'.cell? ⟨gb, k, none⟩ = some (.int .i64 av)) (first | exact hSk.out _ hB.out) (first
        | (go_at_call 21; refine (put_e hz ex hC hm _).mono ?_; rintro e w1 ⟨rfl, hb1⟩; replace hB := Lib.hid (bl_then hB.out hB.out.size hb1); clear hb1)
        | (go_at_call 22; refine (refput_e hz ex hC hm _).mono ?_; rintro e w1 ⟨rfl, hb1⟩; replace hB := Lib.hid (bl_then hB.out hB.out.size hb1); clear hb1)
        | (go_at_call 20; refine (has_e hhb ex _).mono ?_; rintro e w1 ⟨rfl, hb1⟩; replace hB := Lib.hid (bl_then hB.out hB.out.size hb1); clear hb1)
        | (go_at_call 23; refine (refhas_e hhb ex hm _).mono ?_; rintro e w1 ⟨rfl, hb1⟩; replace hB := Lib.hid (bl_then hB.out hB.out.size hb1); clear hb1))
      all_goals (go_wp2_with fail)
      all_goals exact ⟨⟨k + 1, by go_num, by omega, bl_then hbl.out.drew hbl.out.size hB.out⟩, by simp [intOf]; omega⟩
    · have hd : decide (k < 2) = false := by simpa using hlt
      have hd2 : decide ((k : Int) < 2) = false := by simp; omega
      have hB := Lib.hid (bl_then hBg.out hBgs.out hbl.out)
      obtain ⟨la, hla⟩ : ∃ u_, allL m (48 + C) = u_ := ⟨_, rfl⟩
      obtain ⟨t, ht⟩ : ∃ u_, thenL x y = u_ := ⟨_, rfl⟩
      obtain ⟨s, hs⟩ : ∃ u_, leastL x y = u_ := ⟨_, rfl⟩
      obtain ⟨r, hr⟩ : ∃ u_, mostL x y = u_ := ⟨_, rfl⟩
      have k1 := fun w => Lib.hid (all_to hla hm0 hC.out.1 hC.out.2 w)
      have k2 := fun w => Lib.hid (refall_to hla hm.out hC.out.1 hC.out.2 w)
      replace hla := Lib.hid hla
      replace ht := Lib.hid ht
      replace hs := Lib.hid hs
      replace hr := Lib.hid hr
      clear hbl hBg hrow hBgs hlt
      go_wp2_with (first
        | (go_at_call 24; refine (k1 _).out.mono ?_; rintro e w1 ⟨rfl, hb1⟩; replace hB := Lib.hid (bl_then hB.out hB.out.size hb1); clear hb1)
        | (go_at_call 13; refine (k2 _).out.mono ?_; rintro e w1 ⟨rfl, hb1⟩; replace hB := Lib.hid (bl_then hB.out hB.out.size hb1); clear hb1)
        | (go_at_call 14; refine (then_e ht ex ey hm _).mono ?_; rintro e w1 ⟨rfl, hb1⟩; replace hB := Lib.hid (bl_then hB.out hB.out.size hb1); clear hb1)
        | (go_at_call 25; refine (refthen_e ht ex ey hm _).mono ?_; rintro e w1 ⟨rfl, hb1⟩; replace hB := Lib.hid (bl_then hB.out hB.out.size hb1); clear hb1)
        | (go_at_call 15; refine (least_e hs ex ey hm _).mono ?_; rintro e w1 ⟨rfl, hb1⟩; replace hB := Lib.hid (bl_then hB.out hB.out.size hb1); clear hb1)
        | (go_at_call 17; refine (refleast_e hs ex ey hm _).mono ?_; rintro e w1 ⟨rfl, hb1⟩; replace hB := Lib.hid (bl_then hB.out hB.out.size hb1); clear hb1)
        | (go_at_call 16; refine (most_e hr ex ey hm _).mono ?_; rintro e w1 ⟨rfl, hb1⟩; replace hB := Lib.hid (bl_then hB.out hB.out.size hb1); clear hb1)
        | (go_at_call 18; refine (refmost_e hr ex ey hm _).mono ?_; rintro e w1 ⟨rfl, hb1⟩; replace hB := Lib.hid (bl_then hB.out hB.out.size hb1); clear hb1))
      go_ret
      exact ⟨rfl, hB.out⟩
end Go.Proofs.Ytdabpeoaleopmaa
