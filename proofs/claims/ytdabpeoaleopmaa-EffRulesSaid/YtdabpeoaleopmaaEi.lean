/- The walk of EffRules. -/
import Derived.Test.YtdabpeoaleopmaaEg
namespace Go.Proofs.Ytdabpeoaleopmaa
set_option linter.unusedVariables false
set_option linter.unusedSimpArgs false
open Go.RowKit

set_option maxHeartbeats 8000000 in
set_option maxRecDepth 100000 in
theorem rules_any (w : World) (n : Int) (h0 : (Lit.int .i64 n).wf = true) (A0 : Option Addr) (c0 : Nat) (ns0 : List Int) (hr0 : Rd w A0 (enc (Value.int .i64) ns0)) (hn0 : ns0.length ≤ c0) (hc0 : c0 ≤ 9223372036854775807) (hw0 : ∀ x ∈ ns0, (Lit.int .i64 x).wf = true) (A1 : Option Addr) (c1 : Nat) (ns1 : List Int) (hr1 : Rd w A1 (enc (Value.int .i64) ns1)) (hn1 : ns1.length ≤ c1) (hc1 : c1 ≤ 9223372036854775807) (hw1 : ∀ x ∈ ns1, (Lit.int .i64 x).wf = true) (A2 : Option Addr) (c2 : Nat) (ns2 : List Int) (hr2 : Rd w A2 (enc (Value.int .i64) ns2)) (hn2 : ns2.length ≤ c2) (hc2 : c2 ≤ 9223372036854775807) (hw2 : ∀ x ∈ ns2, (Lit.int .i64 x).wf = true) :
    Calls Try.prog 3 #[.int .i64 n, .slice A0 ns0.length c0, .slice A1 ns1.length c1, .slice A2 ns2.length c2] w fun e w' => e = .returned (.bool true) ∧ Below w.heap.size w w' := by
  have hr0' := Lib.hid hr0
  have hr1' := Lib.hid hr1
  have hr2' := Lib.hid hr2
  clear h0 hr0 hw0 hr1 hw1 hr2 hw2
  obtain ⟨m, hm0, hqe⟩ : ∃ m : Nat, m ≤ 1000 ∧ n % 12 = (m : Int) := ⟨(n % 12).toNat, by omega, by omega⟩
  have hm := Lib.hid hm0
  replace hqe := Lib.hid hqe
  clear hm0
  obtain ⟨x, hx⟩ : ∃ u_, makeL m ns0 = u_ := ⟨_, rfl⟩
  have ex : Hid (Ef m x) := Lib.hid (hx ▸ Ef.mk m ns0)
  replace hx := Lib.hid hx
  obtain ⟨y, hy⟩ : ∃ u_, makeL m ns1 = u_ := ⟨_, rfl⟩
  have ey : Hid (Ef m y) := Lib.hid (hy ▸ Ef.mk m ns1)
  replace hy := Lib.hid hy
  obtain ⟨z, hz⟩ : ∃ u_, makeL m ns2 = u_ := ⟨_, rfl⟩
  have ez : Hid (Ef m z) := Lib.hid (hz ▸ Ef.mk m ns2)
  replace hz := Lib.hid hz
  obtain ⟨one, hone⟩ : ∃ u_, allL m 49 = u_ := ⟨_, rfl⟩
  have eone : Hid (Ef m one) := Lib.hid (hone ▸ Ef.all m)
  obtain ⟨xy, hxy⟩ : ∃ u_, thenL x y = u_ := ⟨_, rfl⟩
  have exy : Hid (Ef m xy) := Lib.hid (hxy ▸ ex.out.tn ey.out)
  obtain ⟨aa, haa⟩ : ∃ u_, thenL xy z = u_ := ⟨_, rfl⟩
  have eaa : Hid (Ef m aa) := Lib.hid (haa ▸ exy.out.tn ez.out)
  obtain ⟨yz, hyz⟩ : ∃ u_, thenL y z = u_ := ⟨_, rfl⟩
  have eyz : Hid (Ef m yz) := Lib.hid (hyz ▸ ey.out.tn ez.out)
  obtain ⟨lxy, hlxy⟩ : ∃ u_, leastL x y = u_ := ⟨_, rfl⟩
  have elxy : Hid (Ef m lxy) := Lib.hid (hlxy ▸ ex.out.le ey.out)
  obtain ⟨mxy, hmxy⟩ : ∃ u_, mostL x y = u_ := ⟨_, rfl⟩
  have emxy : Hid (Ef m mxy) := Lib.hid (hmxy ▸ ex.out.mo ey.out)
  obtain ⟨bb, hbb⟩ : ∃ u_, thenL lxy z = u_ := ⟨_, rfl⟩
  have ebb : Hid (Ef m bb) := Lib.hid (hbb ▸ elxy.out.tn ez.out)
  obtain ⟨xz, hxz⟩ : ∃ u_, thenL x z = u_ := ⟨_, rfl⟩
  have exz : Hid (Ef m xz) := Lib.hid (hxz ▸ ex.out.tn ez.out)
  obtain ⟨cc, hcc⟩ : ∃ u_, thenL mxy z = u_ := ⟨_, rfl⟩
  have ecc : Hid (Ef m cc) := Lib.hid (hcc ▸ emxy.out.tn ez.out)
  have q0 : Hid (thenL x yz = aa) := Lib.hid (by
    rw [← haa, ← hxy, ← hyz]
    refine pw (m := m) (by simp only [thenL, leastL, mostL, allL, List.length_zipWith, List.length_replicate, Nat.min_self, ex.out.2, ey.out.2, ez.out.2]) (by simp only [thenL, leastL, mostL, allL, List.length_zipWith, List.length_replicate, Nat.min_self, ex.out.2, ey.out.2, ez.out.2]) (fun i h1 h2 => ?_)
    have hi : i < m := by simpa only [thenL, leastL, mostL, allL, List.length_zipWith, List.length_replicate, Nat.min_self, ex.out.2, ey.out.2, ez.out.2] using h1
    have gx := ex.out.1.get i (by rw [ex.out.2]; exact hi)
    have gy := ey.out.1.get i (by rw [ey.out.2]; exact hi)
    have gz := ez.out.1.get i (by rw [ez.out.2]; exact hi)
    simp only [thenL, leastL, mostL, allL, List.getElem_zipWith, List.getElem_replicate, th, if_true, eq_self] <;> (repeat' split) <;> omega)
  have q1 : Hid (thenL x one = x) := Lib.hid (by
    rw [← hone]
    refine pw (m := m) (by simp only [thenL, leastL, mostL, allL, List.length_zipWith, List.length_replicate, Nat.min_self, ex.out.2, ey.out.2, ez.out.2]) (by simp only [thenL, leastL, mostL, allL, List.length_zipWith, List.length_replicate, Nat.min_self, ex.out.2, ey.out.2, ez.out.2]) (fun i h1 h2 => ?_)
    have hi : i < m := by simpa only [thenL, leastL, mostL, allL, List.length_zipWith, List.length_replicate, Nat.min_self, ex.out.2, ey.out.2, ez.out.2] using h1
    have gx := ex.out.1.get i (by rw [ex.out.2]; exact hi)
    have gy := ey.out.1.get i (by rw [ey.out.2]; exact hi)
    have gz := ez.out.1.get i (by rw [ez.out.2]; exact hi)
    simp only [thenL, leastL, mostL, allL, List.getElem_zipWith, List.getElem_replicate, th, if_true, eq_self] <;> (repeat' split) <;> omega)
  have q2 : Hid (thenL one x = x) := Lib.hid (by
    rw [← hone]
    refine pw (m := m) (by simp only [thenL, leastL, mostL, allL, List.length_zipWith, List.length_replicate, Nat.min_self, ex.out.2, ey.out.2, ez.out.2]) (by simp only [thenL, leastL, mostL, allL, List.length_zipWith, List.length_replicate, Nat.min_self, ex.out.2, ey.out.2, ez.out.2]) (fun i h1 h2 => ?_)
    have hi : i < m := by simpa only [thenL, leastL, mostL, allL, List.length_zipWith, List.length_replicate, Nat.min_self, ex.out.2, ey.out.2, ez.out.2] using h1
    have gx := ex.out.1.get i (by rw [ex.out.2]; exact hi)
    have gy := ey.out.1.get i (by rw [ey.out.2]; exact hi)
    have gz := ez.out.1.get i (by rw [ez.out.2]; exact hi)
    simp only [thenL, leastL, mostL, allL, List.getElem_zipWith, List.getElem_replicate, th, if_true, eq_self] <;> (repeat' split) <;> omega)
  have q3 : Hid (leastL xz yz = bb) := Lib.hid (by
    rw [← hbb, ← hlxy, ← hyz, ← hxz]
    refine pw (m := m) (by simp only [thenL, leastL, mostL, allL, List.length_zipWith, List.length_replicate, Nat.min_self, ex.out.2, ey.out.2, ez.out.2]) (by simp only [thenL, leastL, mostL, allL, List.length_zipWith, List.length_replicate, Nat.min_self, ex.out.2, ey.out.2, ez.out.2]) (fun i h1 h2 => ?_)
    have hi : i < m := by simpa only [thenL, leastL, mostL, allL, List.length_zipWith, List.length_replicate, Nat.min_self, ex.out.2, ey.out.2, ez.out.2] using h1
    have gx := ex.out.1.get i (by rw [ex.out.2]; exact hi)
    have gy := ey.out.1.get i (by rw [ey.out.2]; exact hi)
    have gz := ez.out.1.get i (by rw [ez.out.2]; exact hi)
    simp only [thenL, leastL, mostL, allL, List.getElem_zipWith, List.getElem_replicate, th, if_true, eq_self] <;> (repeat' split) <;> omega)
  have q4 : Hid (mostL xz yz = cc) := Lib.hid (by
    rw [← hcc, ← hmxy, ← hyz, ← hxz]
    refine pw (m := m) (by simp only [thenL, leastL, mostL, allL, List.length_zipWith, List.length_replicate, Nat.min_self, ex.out.2, ey.out.2, ez.out.2]) (by simp only [thenL, leastL, mostL, allL, List.length_zipWith, List.length_replicate, Nat.min_self, ex.out.2, ey.out.2, ez.out.2]) (fun i h1 h2 => ?_)
    have hi : i < m := by simpa only [thenL, leastL, mostL, allL, List.length_zipWith, List.length_replicate, Nat.min_self, ex.out.2, ey.out.2, ez.out.2] using h1
    have gx := ex.out.1.get i (by rw [ex.out.2]; exact hi)
    have gy := ey.out.1.get i (by rw [ey.out.2]; exact hi)
    have gz := ez.out.1.get i (by rw [ez.out.2]; exact hi)
    simp only [thenL, leastL, mostL, allL, List.getElem_zipWith, List.getElem_replicate, th, if_true, eq_self] <;> (repeat' split) <;> omega)
  have q5 : Hid (leastL y x = lxy) := Lib.hid (by
    rw [← hlxy]
    refine pw (m := m) (by simp only [thenL, leastL, mostL, allL, List.length_zipWith, List.length_replicate, Nat.min_self, ex.out.2, ey.out.2, ez.out.2]) (by simp only [thenL, leastL, mostL, allL, List.length_zipWith, List.length_replicate, Nat.min_self, ex.out.2, ey.out.2, ez.out.2]) (fun i h1 h2 => ?_)
    have hi : i < m := by simpa only [thenL, leastL, mostL, allL, List.length_zipWith, List.length_replicate, Nat.min_self, ex.out.2, ey.out.2, ez.out.2] using h1
    have gx := ex.out.1.get i (by rw [ex.out.2]; exact hi)
    have gy := ey.out.1.get i (by rw [ey.out.2]; exact hi)
    have gz := ez.out.1.get i (by rw [ez.out.2]; exact hi)
    simp only [thenL, leastL, mostL, allL, List.getElem_zipWith, List.getElem_replicate, th, if_true, eq_self] <;> (repeat' split) <;> omega)
  have q6 : Hid (mostL x lxy = x) := Lib.hid (by
    rw [← hlxy]
    refine pw (m := m) (by simp only [thenL, leastL, mostL, allL, List.length_zipWith, List.length_replicate, Nat.min_self, ex.out.2, ey.out.2, ez.out.2]) (by simp only [thenL, leastL, mostL, allL, List.length_zipWith, List.length_replicate, Nat.min_self, ex.out.2, ey.out.2, ez.out.2]) (fun i h1 h2 => ?_)
    have hi : i < m := by simpa only [thenL, leastL, mostL, allL, List.length_zipWith, List.length_replicate, Nat.min_self, ex.out.2, ey.out.2, ez.out.2] using h1
    have gx := ex.out.1.get i (by rw [ex.out.2]; exact hi)
    have gy := ey.out.1.get i (by rw [ey.out.2]; exact hi)
    have gz := ez.out.1.get i (by rw [ez.out.2]; exact hi)
    simp only [thenL, leastL, mostL, allL, List.getElem_zipWith, List.getElem_replicate, th, if_true, eq_self] <;> (repeat' split) <;> omega)
  have q7 : Hid (leastL x mxy = x) := Lib.hid (by
    rw [← hmxy]
    refine pw (m := m) (by simp only [thenL, leastL, mostL, allL, List.length_zipWith, List.length_replicate, Nat.min_self, ex.out.2, ey.out.2, ez.out.2]) (by simp only [thenL, leastL, mostL, allL, List.length_zipWith, List.length_replicate, Nat.min_self, ex.out.2, ey.out.2, ez.out.2]) (fun i h1 h2 => ?_)
    have hi : i < m := by simpa only [thenL, leastL, mostL, allL, List.length_zipWith, List.length_replicate, Nat.min_self, ex.out.2, ey.out.2, ez.out.2] using h1
    have gx := ex.out.1.get i (by rw [ex.out.2]; exact hi)
    have gy := ey.out.1.get i (by rw [ey.out.2]; exact hi)
    have gz := ez.out.1.get i (by rw [ez.out.2]; exact hi)
    simp only [thenL, leastL, mostL, allL, List.getElem_zipWith, List.getElem_replicate, th, if_true, eq_self] <;> (repeat' split) <;> omega)
  have q8 : Hid (leastL x x = x) := Lib.hid (by
    refine pw (m := m) (by simp only [thenL, leastL, mostL, allL, List.length_zipWith, List.length_replicate, Nat.min_self, ex.out.2, ey.out.2, ez.out.2]) (by simp only [thenL, leastL, mostL, allL, List.length_zipWith, List.length_replicate, Nat.min_self, ex.out.2, ey.out.2, ez.out.2]) (fun i h1 h2 => ?_)
    have hi : i < m := by simpa only [thenL, leastL, mostL, allL, List.length_zipWith, List.length_replicate, Nat.min_self, ex.out.2, ey.out.2, ez.out.2] using h1
    have gx := ex.out.1.get i (by rw [ex.out.2]; exact hi)
    have gy := ey.out.1.get i (by rw [ey.out.2]; exact hi)
    have gz := ez.out.1.get i (by rw [ez.out.2]; exact hi)
    simp only [thenL, leastL, mostL, allL, List.getElem_zipWith, List.getElem_replicate, th, if_true, eq_self] <;> (repeat' split) <;> omega)
  replace hxy := Lib.hid hxy
  replace haa := Lib.hid haa
  replace hyz := Lib.hid hyz
  replace hlxy := Lib.hid hlxy
  replace hmxy := Lib.hid hmxy
  replace hbb := Lib.hid hbb
  replace hxz := Lib.hid hxz
  replace hcc := Lib.hid hcc
  replace hone := Lib.hid hone
  have hB := Lib.hid (Below.refl w.heap.size w)
  go_enter Try.func3, Try.ntmps3
  go_wp2_with (first
    | (go_at_call 10; refine (known_any _).mono ?_; rintro e w1 ⟨rfl, hb1⟩; replace hB := Lib.hid (bl_then hB.out hB.out.size hb1); clear hb1)
    | (go_at_call 11; refine (within_any n 12 _ (by decide) (by decide)).mono ?_; rintro e w' ⟨rfl, rfl⟩; rw [hqe.out])
    | (go_at_call 12; (first | (with_reducible refine (make_e hx hm A0 c0 _ (hr0'.out.below hB.out) hn0 hc0).mono ?_) | (with_reducible refine (make_e hy hm A1 c1 _ (hr1'.out.below hB.out) hn1 hc1).mono ?_) | (with_reducible refine (make_e hz hm A2 c2 _ (hr2'.out.below hB.out) hn2 hc2).mono ?_)); rintro e w1 ⟨rfl, hb1⟩; replace hB := Lib.hid (bl_then hB.out hB.out.size hb1); clear hb1)
    | (go_at_call 13; refine (refall_e hone hm _).mono ?_; rintro e w1 ⟨rfl, hb1⟩; replace hB := Lib.hid (bl_then hB.out hB.out.size hb1); clear hb1)
    | (go_at_call 14; (first | (with_reducible refine (then_e hxy ex ey hm _).mono ?_) | (with_reducible refine (then_e haa exy ez hm _).mono ?_) | (with_reducible refine (then_e hyz ey ez hm _).mono ?_) | (with_reducible refine (then_e hbb elxy ez hm _).mono ?_) | (with_reducible refine (then_e hxz ex ez hm _).mono ?_) | (with_reducible refine (then_e hcc emxy ez hm _).mono ?_) | (with_reducible refine (then_e q0 ex eyz hm _).mono ?_) | (with_reducible refine (then_e q1 ex eone hm _).mono ?_) | (with_reducible refine (then_e q2 eone ex hm _).mono ?_)); rintro e w1 ⟨rfl, hb1⟩; replace hB := Lib.hid (bl_then hB.out hB.out.size hb1); clear hb1)
    | (go_at_call 15; (first | (with_reducible refine (least_e hlxy ex ey hm _).mono ?_) | (with_reducible refine (least_e q3 exz eyz hm _).mono ?_) | (with_reducible refine (least_e q5 ey ex hm _).mono ?_) | (with_reducible refine (least_e q7 ex emxy hm _).mono ?_) | (with_reducible refine (least_e q8 ex ex hm _).mono ?_)); rintro e w1 ⟨rfl, hb1⟩; replace hB := Lib.hid (bl_then hB.out hB.out.size hb1); clear hb1)
    | (go_at_call 16; (first | (with_reducible refine (most_e hmxy ex ey hm _).mono ?_) | (with_reducible refine (most_e q4 exz eyz hm _).mono ?_) | (with_reducible refine (most_e q6 ex elxy hm _).mono ?_)); rintro e w1 ⟨rfl, hb1⟩; replace hB := Lib.hid (bl_then hB.out hB.out.size hb1); clear hb1))
  go_ret
  exact ⟨rfl, hB.out⟩
end Go.Proofs.Ytdabpeoaleopmaa
