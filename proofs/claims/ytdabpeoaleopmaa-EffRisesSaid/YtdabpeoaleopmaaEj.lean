/- The walk of EffRises. -/
import Derived.Test.YtdabpeoaleopmaaEg
namespace Go.Proofs.Ytdabpeoaleopmaa
set_option linter.unusedVariables false
set_option linter.unusedSimpArgs false
open Go.RowKit

set_option maxHeartbeats 8000000 in
set_option maxRecDepth 100000 in
theorem rises_any (w : World) (n : Int) (h0 : (Lit.int .i64 n).wf = true) (A0 : Option Addr) (c0 : Nat) (ns0 : List Int) (hr0 : Rd w A0 (enc (Value.int .i64) ns0)) (hn0 : ns0.length ≤ c0) (hc0 : c0 ≤ 9223372036854775807) (hw0 : ∀ x ∈ ns0, (Lit.int .i64 x).wf = true) (A1 : Option Addr) (c1 : Nat) (ns1 : List Int) (hr1 : Rd w A1 (enc (Value.int .i64) ns1)) (hn1 : ns1.length ≤ c1) (hc1 : c1 ≤ 9223372036854775807) (hw1 : ∀ x ∈ ns1, (Lit.int .i64 x).wf = true) (A2 : Option Addr) (c2 : Nat) (ns2 : List Int) (hr2 : Rd w A2 (enc (Value.int .i64) ns2)) (hn2 : ns2.length ≤ c2) (hc2 : c2 ≤ 9223372036854775807) (hw2 : ∀ x ∈ ns2, (Lit.int .i64 x).wf = true) :
    Calls Try.prog 5 #[.int .i64 n, .slice A0 ns0.length c0, .slice A1 ns1.length c1, .slice A2 ns2.length c2] w fun e w' => e = .returned (.bool true) ∧ Below w.heap.size w w' := by
  have hr0' := Lib.hid hr0
  have hr1' := Lib.hid hr1
  have hr2' := Lib.hid hr2
  clear h0 hr0 hw0 hr1 hw1 hr2 hw2
  obtain ⟨m, hm0, hqe⟩ : ∃ m : Nat, m ≤ 1000 ∧ n % 15 = (m : Int) := ⟨(n % 15).toNat, by omega, by omega⟩
  have hm := Lib.hid hm0
  replace hqe := Lib.hid hqe
  clear hm0
  obtain ⟨x, hx⟩ : ∃ u_, makeL m ns0 = u_ := ⟨_, rfl⟩
  have ex : Hid (Ef m x) := Lib.hid (hx ▸ Ef.mk m ns0)
  replace hx := Lib.hid hx
  obtain ⟨y, hy⟩ : ∃ u_, makeL m ns1 = u_ := ⟨_, rfl⟩
  have ey : Hid (Ef m y) := Lib.hid (hy ▸ Ef.mk m ns1)
  replace hy := Lib.hid hy
  obtain ⟨z, hz⟩ : ∃ u_, makeL m ns2 = u_ := ⟨_, rfl⟩
  have ez : Hid (Ef m z) := Lib.hid (hz ▸ Ef.mk m ns2)
  replace hz := Lib.hid hz
  obtain ⟨l, hl⟩ : ∃ u_, leastL x y = u_ := ⟨_, rfl⟩
  have el : Hid (Ef m l) := Lib.hid (hl ▸ ex.out.le ey.out)
  obtain ⟨t, ht⟩ : ∃ u_, mostL x y = u_ := ⟨_, rfl⟩
  have et : Hid (Ef m t) := Lib.hid (ht ▸ ex.out.mo ey.out)
  obtain ⟨p, hp⟩ : ∃ u_, thenL l z = u_ := ⟨_, rfl⟩
  have ep : Hid (Ef m p) := Lib.hid (hp ▸ el.out.tn ez.out)
  obtain ⟨q, hq⟩ : ∃ u_, thenL t z = u_ := ⟨_, rfl⟩
  have eq : Hid (Ef m q) := Lib.hid (hq ▸ et.out.tn ez.out)
  obtain ⟨r, hr⟩ : ∃ u_, thenL z l = u_ := ⟨_, rfl⟩
  have er : Hid (Ef m r) := Lib.hid (hr ▸ ez.out.tn el.out)
  obtain ⟨s, hs⟩ : ∃ u_, thenL z t = u_ := ⟨_, rfl⟩
  have es : Hid (Ef m s) := Lib.hid (hs ▸ ez.out.tn et.out)
  have q0 : Hid (leastL p q = p) := Lib.hid (by
    rw [← hq, ← ht, ← hp, ← hl]
    refine pw (m := m) (by simp only [thenL, leastL, mostL, allL, List.length_zipWith, List.length_replicate, Nat.min_self, ex.out.2, ey.out.2, ez.out.2]) (by simp only [thenL, leastL, mostL, allL, List.length_zipWith, List.length_replicate, Nat.min_self, ex.out.2, ey.out.2, ez.out.2]) (fun i h1 h2 => ?_)
    have hi : i < m := by simpa only [thenL, leastL, mostL, allL, List.length_zipWith, List.length_replicate, Nat.min_self, ex.out.2, ey.out.2, ez.out.2] using h1
    have gx := ex.out.1.get i (by rw [ex.out.2]; exact hi)
    have gy := ey.out.1.get i (by rw [ey.out.2]; exact hi)
    have gz := ez.out.1.get i (by rw [ez.out.2]; exact hi)
    simp only [thenL, leastL, mostL, allL, List.getElem_zipWith, List.getElem_replicate, th, if_true, eq_self] <;> (repeat' split) <;> omega)
  have q1 : Hid (mostL p q = q) := Lib.hid (by
    rw [← hq, ← ht, ← hp, ← hl]
    refine pw (m := m) (by simp only [thenL, leastL, mostL, allL, List.length_zipWith, List.length_replicate, Nat.min_self, ex.out.2, ey.out.2, ez.out.2]) (by simp only [thenL, leastL, mostL, allL, List.length_zipWith, List.length_replicate, Nat.min_self, ex.out.2, ey.out.2, ez.out.2]) (fun i h1 h2 => ?_)
    have hi : i < m := by simpa only [thenL, leastL, mostL, allL, List.length_zipWith, List.length_replicate, Nat.min_self, ex.out.2, ey.out.2, ez.out.2] using h1
    have gx := ex.out.1.get i (by rw [ex.out.2]; exact hi)
    have gy := ey.out.1.get i (by rw [ey.out.2]; exact hi)
    have gz := ez.out.1.get i (by rw [ez.out.2]; exact hi)
    simp only [thenL, leastL, mostL, allL, List.getElem_zipWith, List.getElem_replicate, th, if_true, eq_self] <;> (repeat' split) <;> omega)
  have q2 : Hid (leastL r s = r) := Lib.hid (by
    rw [← hs, ← ht, ← hr, ← hl]
    refine pw (m := m) (by simp only [thenL, leastL, mostL, allL, List.length_zipWith, List.length_replicate, Nat.min_self, ex.out.2, ey.out.2, ez.out.2]) (by simp only [thenL, leastL, mostL, allL, List.length_zipWith, List.length_replicate, Nat.min_self, ex.out.2, ey.out.2, ez.out.2]) (fun i h1 h2 => ?_)
    have hi : i < m := by simpa only [thenL, leastL, mostL, allL, List.length_zipWith, List.length_replicate, Nat.min_self, ex.out.2, ey.out.2, ez.out.2] using h1
    have gx := ex.out.1.get i (by rw [ex.out.2]; exact hi)
    have gy := ey.out.1.get i (by rw [ey.out.2]; exact hi)
    have gz := ez.out.1.get i (by rw [ez.out.2]; exact hi)
    simp only [thenL, leastL, mostL, allL, List.getElem_zipWith, List.getElem_replicate, th, if_true, eq_self] <;> (repeat' split) <;> omega)
  have q3 : Hid (mostL r s = s) := Lib.hid (by
    rw [← hs, ← ht, ← hr, ← hl]
    refine pw (m := m) (by simp only [thenL, leastL, mostL, allL, List.length_zipWith, List.length_replicate, Nat.min_self, ex.out.2, ey.out.2, ez.out.2]) (by simp only [thenL, leastL, mostL, allL, List.length_zipWith, List.length_replicate, Nat.min_self, ex.out.2, ey.out.2, ez.out.2]) (fun i h1 h2 => ?_)
    have hi : i < m := by simpa only [thenL, leastL, mostL, allL, List.length_zipWith, List.length_replicate, Nat.min_self, ex.out.2, ey.out.2, ez.out.2] using h1
    have gx := ex.out.1.get i (by rw [ex.out.2]; exact hi)
    have gy := ey.out.1.get i (by rw [ey.out.2]; exact hi)
    have gz := ez.out.1.get i (by rw [ez.out.2]; exact hi)
    simp only [thenL, leastL, mostL, allL, List.getElem_zipWith, List.getElem_replicate, th, if_true, eq_self] <;> (repeat' split) <;> omega)
  have q4 : Hid (leastL l t = l) := Lib.hid (by
    rw [← ht, ← hl]
    refine pw (m := m) (by simp only [thenL, leastL, mostL, allL, List.length_zipWith, List.length_replicate, Nat.min_self, ex.out.2, ey.out.2, ez.out.2]) (by simp only [thenL, leastL, mostL, allL, List.length_zipWith, List.length_replicate, Nat.min_self, ex.out.2, ey.out.2, ez.out.2]) (fun i h1 h2 => ?_)
    have hi : i < m := by simpa only [thenL, leastL, mostL, allL, List.length_zipWith, List.length_replicate, Nat.min_self, ex.out.2, ey.out.2, ez.out.2] using h1
    have gx := ex.out.1.get i (by rw [ex.out.2]; exact hi)
    have gy := ey.out.1.get i (by rw [ey.out.2]; exact hi)
    have gz := ez.out.1.get i (by rw [ez.out.2]; exact hi)
    simp only [thenL, leastL, mostL, allL, List.getElem_zipWith, List.getElem_replicate, th, if_true, eq_self] <;> (repeat' split) <;> omega)
  replace hl := Lib.hid hl
  replace ht := Lib.hid ht
  replace hp := Lib.hid hp
  replace hq := Lib.hid hq
  replace hr := Lib.hid hr
  replace hs := Lib.hid hs
  have hB := Lib.hid (Below.refl w.heap.size w)
  go_enter Try.func5, Try.ntmps5
  go_wp2_with (first
    | (go_at_call 10; refine (known_any _).mono ?_; rintro e w1 ⟨rfl, hb1⟩; replace hB := Lib.hid (bl_then hB.out hB.out.size hb1); clear hb1)
    | (go_at_call 11; refine (within_any n 15 _ (by decide) (by decide)).mono ?_; rintro e w' ⟨rfl, rfl⟩; rw [hqe.out])
    | (go_at_call 12; (first | (with_reducible refine (make_e hx hm A0 c0 _ (hr0'.out.below hB.out) hn0 hc0).mono ?_) | (with_reducible refine (make_e hy hm A1 c1 _ (hr1'.out.below hB.out) hn1 hc1).mono ?_) | (with_reducible refine (make_e hz hm A2 c2 _ (hr2'.out.below hB.out) hn2 hc2).mono ?_)); rintro e w1 ⟨rfl, hb1⟩; replace hB := Lib.hid (bl_then hB.out hB.out.size hb1); clear hb1)
    | (go_at_call 17; (first | (with_reducible refine (refleast_e hl ex ey hm _).mono ?_)); rintro e w1 ⟨rfl, hb1⟩; replace hB := Lib.hid (bl_then hB.out hB.out.size hb1); clear hb1)
    | (go_at_call 18; (first | (with_reducible refine (refmost_e ht ex ey hm _).mono ?_)); rintro e w1 ⟨rfl, hb1⟩; replace hB := Lib.hid (bl_then hB.out hB.out.size hb1); clear hb1)
    | (go_at_call 14; (first | (with_reducible refine (then_e hp el ez hm _).mono ?_) | (with_reducible refine (then_e hq et ez hm _).mono ?_) | (with_reducible refine (then_e hr ez el hm _).mono ?_) | (with_reducible refine (then_e hs ez et hm _).mono ?_)); rintro e w1 ⟨rfl, hb1⟩; replace hB := Lib.hid (bl_then hB.out hB.out.size hb1); clear hb1)
    | (go_at_call 15; (first | (with_reducible refine (least_e q0 ep eq hm _).mono ?_) | (with_reducible refine (least_e q2 er es hm _).mono ?_) | (with_reducible refine (least_e q4 el et hm _).mono ?_)); rintro e w1 ⟨rfl, hb1⟩; replace hB := Lib.hid (bl_then hB.out hB.out.size hb1); clear hb1)
    | (go_at_call 16; (first | (with_reducible refine (most_e q1 ep eq hm _).mono ?_) | (with_reducible refine (most_e q3 er es hm _).mono ?_)); rintro e w1 ⟨rfl, hb1⟩; replace hB := Lib.hid (bl_then hB.out hB.out.size hb1); clear hb1))
  go_ret
  exact ⟨rfl, hB.out⟩
end Go.Proofs.Ytdabpeoaleopmaa
