/- The walk of EffPuts. -/
import Derived.Test.YtdabpeoaleopmaaEg
import Derived.Deep.RegionHeld3
namespace Go.Proofs.Ytdabpeoaleopmaa
set_option linter.unusedVariables false
set_option linter.unusedSimpArgs false
open Go.RowKit

theorem put_put (a : List Int) (i : Nat) (c d : Int) : putL (putL a i c) i d = putL a i d := by simp [putL]
theorem put_swap (a : List Int) (i j : Nat) (c d : Int) (h : i ≠ j) : putL (putL a i c) j d = putL (putL a j d) i c := by
  simp only [putL, Int.natCast_nonneg, if_true, Int.toNat_natCast]
  rw [List.set_comm _ _ h]
theorem put_take (a : List Int) (i : Nat) (c : Int) : (putL a i c).take i = a.take i := by simp [putL, List.take_set_of_le]
theorem put_drop (a : List Int) (i : Nat) (c : Int) : (putL a i c).drop (i + 1) = a.drop (i + 1) := by
  simp only [putL, Int.natCast_nonneg, if_true, Int.toNat_natCast]
  rw [List.drop_set_of_lt (by omega)]
theorem has_put (a : List Int) (i : Nat) (c : Int) (h : i < a.length) : hasL (putL a i c) i = (c == 50) := by simp [hasL, putL, h]

set_option maxHeartbeats 8000000 in
set_option maxRecDepth 100000 in
theorem puts_any (w : World) (n : Int) (h0 : (Lit.int .i64 n).wf = true) (A0 : Option Addr) (c0 : Nat) (ns0 : List Int) (hr0 : Rd w A0 (enc (Value.int .i64) ns0)) (hn0 : ns0.length ≤ c0) (hc0 : c0 ≤ 9223372036854775807) (hw0 : ∀ x ∈ ns0, (Lit.int .i64 x).wf = true)
    (at_ : Int) (h2 : (Lit.int .i64 at_).wf = true) (bt : Int) (h3 : (Lit.int .i64 bt).wf = true) :
    Calls Try.prog 7 #[.int .i64 n, .slice A0 ns0.length c0, .int .i64 at_, .int .i64 bt] w fun e w' => e = .returned (.bool true) ∧ Below w.heap.size w w' := by
  have hr0' := Lib.hid hr0
  clear h0 hr0 hw0 h2 h3
  obtain ⟨m, hm0, hm1, hqe⟩ : ∃ m : Nat, 1 ≤ m ∧ m ≤ 20 ∧ n % 20 = (m : Int) - 1 := ⟨(n % 20).toNat + 1, by omega, by omega, by omega⟩
  have hm : Hid (m ≤ 1000) := Lib.hid (by omega)
  replace hqe := Lib.hid hqe
  have hsum : (1 : Int) + ((m : Int) - 1) = m := by omega
  obtain ⟨x, hx⟩ : ∃ u_, makeL m ns0 = u_ := ⟨_, rfl⟩
  have ex : Hid (Ef m x) := Lib.hid (hx ▸ Ef.mk m ns0)
  replace hx := Lib.hid hx
  obtain ⟨i, hi, hie⟩ : ∃ i : Nat, i < m ∧ at_ % (m : Int) = (i : Int) := ⟨(at_ % (m : Int)).toNat, by have := Int.emod_lt_of_pos at_ (show (0 : Int) < m by omega); have := Int.emod_nonneg at_ (show (m : Int) ≠ 0 by omega); omega, by have := Int.emod_nonneg at_ (show (m : Int) ≠ 0 by omega); omega⟩
  obtain ⟨j, hj, hje⟩ : ∃ i : Nat, i < m ∧ bt % (m : Int) = (i : Int) := ⟨(bt % (m : Int)).toNat, by have := Int.emod_lt_of_pos bt (show (0 : Int) < m by omega); have := Int.emod_nonneg bt (show (m : Int) ≠ 0 by omega); omega, by have := Int.emod_nonneg bt (show (m : Int) ≠ 0 by omega); omega⟩
  replace hie := Lib.hid hie
  replace hje := Lib.hid hje
  have c48 : Hid (48 ≤ (48 : Int) ∧ (48 : Int) ≤ 50) := Lib.hid (by omega)
  have c49 : Hid (48 ≤ (49 : Int) ∧ (49 : Int) ≤ 50) := Lib.hid (by omega)
  have c50 : Hid (48 ≤ (50 : Int) ∧ (50 : Int) ≤ 50) := Lib.hid (by omega)
  have hxi : i < x.length := by rw [ex.out.2]; exact hi
  obtain ⟨y0, hy0⟩ : ∃ u_, putL x i 48 = u_ := ⟨_, rfl⟩
  have ey0 : Hid (Ef m y0) := Lib.hid (hy0 ▸ ex.out.put i (by decide) (by decide))
  obtain ⟨y, hy⟩ : ∃ u_, putL x i 50 = u_ := ⟨_, rfl⟩
  have ey : Hid (Ef m y) := Lib.hid (hy ▸ ex.out.put i (by decide) (by decide))
  have hyy : Hid (putL y0 i 50 = y) := Lib.hid (by rw [← hy0, put_put]; exact hy)
  have hyi : i < y.length := by rw [ey.out.2]; exact hi
  obtain ⟨z, hz⟩ : ∃ u_, putL y i 49 = u_ := ⟨_, rfl⟩
  have ez : Hid (Ef m z) := Lib.hid (hz ▸ ey.out.put i (by decide) (by decide))
  have hhy : Hid (hasL y i = true) := Lib.hid (by rw [← hy, has_put _ _ _ hxi]; rfl)
  have hhz : Hid (hasL z i = false) := Lib.hid (by rw [← hz, has_put _ _ _ hyi]; rfl)
  obtain ⟨P, hP⟩ : ∃ u_, x.take i = u_ := ⟨_, rfl⟩
  obtain ⟨Q, hQ⟩ : ∃ u_, x.drop (i + 1) = u_ := ⟨_, rfl⟩
  have q1 : (st x).extract 0 i = st P := by rw [st_extract, List.drop_zero, hP]
  have q2 : (st y).extract 0 i = st P := by rw [st_extract, List.drop_zero, ← hy, put_take, hP]
  have q3 : (st x).extract (i + 1) m = st Q := by rw [st_extract, List.take_of_length_le (by rw [ex.out.2]; exact Nat.le_refl _), hQ]
  have q4 : (st y).extract (i + 1) m = st Q := by rw [st_extract, List.take_of_length_le (by rw [ey.out.2]; exact Nat.le_refl _), ← hy, put_drop, hQ]
  have s1 : (st x).size = m := by rw [st_size, ex.out.2]
  have s2 : (st y).size = m := by rw [st_size, ey.out.2]
  have gy : ∀ h, (((st y)[i]'h).toNat : Int) = 50 := fun h => by
    rw [st_get y ey.out.1.asc i h]
    have h1 := put_get x (i : Int) 50 i hxi
    rw [if_pos rfl] at h1
    have : ∀ (l : List Int) (h : i < l.length), putL x i 50 = l → l[i] = 50 := by rintro l h rfl; exact h1
    exact this y _ hy
  obtain ⟨a1, ha1⟩ : ∃ u_, putL x j 48 = u_ := ⟨_, rfl⟩
  have ea1 : Hid (Ef m a1) := Lib.hid (ha1 ▸ ex.out.put j (by decide) (by decide))
  obtain ⟨zz, hzz⟩ : ∃ u_, putL y j 48 = u_ := ⟨_, rfl⟩
  have hqz : i ≠ j → Hid (putL a1 i 50 = zz) := fun h => Lib.hid (by rw [← ha1, ← hzz, ← hy]; exact (put_swap x i j 50 48 h).symm)
  replace hy := Lib.hid hy
  replace hy0 := Lib.hid hy0
  replace hz := Lib.hid hz
  replace ha1 := Lib.hid ha1
  replace hzz := Lib.hid hzz
  replace hP := Lib.hid hP
  replace hQ := Lib.hid hQ
  have i1 : (0 : Int) ≤ (i : Int) := by omega
  have i2 : (i : Int) < (m : Int) := by omega
  have i3 : (i : Int) ≤ (m : Int) := by omega
  have i4 : (i : Int) + 1 ≤ (m : Int) := by omega
  have i5 : IntKind.i64.wrap ((i : Int) + 1) = (i : Int) + 1 := by rw [IntKind.wrap_i64]; omega
  have i6 : (0 : Int) ≤ (i : Int) + 1 := by omega
  have i7 : ((i : Int) + 1).toNat = i + 1 := by omega
  have hB := Lib.hid (Below.refl w.heap.size w)
  clear hxi hyi
  go_enter Try.func7, Try.ntmps7
  go_upto_region 7 with (first
    | (go_at_call 10; refine (known_any _).mono ?_; rintro e w1 ⟨rfl, hb1⟩; replace hB := Lib.hid (bl_then hB.out hB.out.size hb1); clear hb1)
    | (go_at_call 12; refine (make_e hx hm A0 c0 _ (hr0'.out.below hB.out) hn0 hc0).mono ?_; rintro e w1 ⟨rfl, hb1⟩; replace hB := Lib.hid (bl_then hB.out hB.out.size hb1); clear hb1)
    | (go_at_call_of 11 (Value.int .i64 n); refine (within_any n 20 _ (by decide) (by decide)).mono ?_; rintro e w' ⟨rfl, rfl⟩; rw [hqe.out])
    | (go_at_call_of 11 (Value.int .i64 at_); refine (within_any at_ (m : Int) _ (by omega) (by omega)).mono ?_; rintro e w' ⟨rfl, rfl⟩; rw [hie.out])
    | (go_at_call_of 11 (Value.int .i64 bt); refine (within_any bt (m : Int) _ (by omega) (by omega)).mono ?_; rintro e w' ⟨rfl, rfl⟩; rw [hje.out])
    | (go_at_call 21; (first | (with_reducible refine (put_e hy0 ex c48 hm _).mono ?_) | (with_reducible refine (put_e hyy ey0 c50 hm _).mono ?_)); rintro e w1 ⟨rfl, hb1⟩; replace hB := Lib.hid (bl_then hB.out hB.out.size hb1); clear hb1))
  replace hB := Lib.hid hB.out.drew
  go_region_held3 (fun _ => True) (first | trivial) (first
    | (go_at_call_of 20 (Value.string (st y)); refine (has_e hhy ey _).mono ?_; rintro e w1 ⟨rfl, hb1⟩; replace hB := Lib.hid (bl_then hB.out hB.out.size hb1); clear hb1)
    | (go_at_call_of 20 (Value.string (st z)); refine (has_e hhz ez _).mono ?_; rintro e w1 ⟨rfl, hb1⟩; replace hB := Lib.hid (bl_then hB.out hB.out.size hb1); clear hb1)
    | (go_at_call 21; refine (put_e hz ey c49 hm _).mono ?_; rintro e w1 ⟨rfl, hb1⟩; replace hB := Lib.hid (bl_then hB.out hB.out.size hb1); clear hb1))
  by_cases hij : i = j
  · have hq : ((i : Int) == (j : Int)) = true := by rw [hij]; simp
    replace hij := Lib.hid hij
    go_wp2_with fail
    go_ret
    exact ⟨rfl, hB.out⟩
  · have hq : ((i : Int) == (j : Int)) = false := by simp; omega
    have hz2 := hqz hij
    replace hij := Lib.hid hij
    clear hqz
    go_wp2_with (go_at_call 21; (first | (with_reducible refine (put_e hy ex c50 hm _).mono ?_) | (with_reducible refine (put_e hzz ey c48 hm _).mono ?_) | (with_reducible refine (put_e ha1 ex c48 hm _).mono ?_) | (with_reducible refine (put_e hz2 ea1 c50 hm _).mono ?_)); rintro e w1 ⟨rfl, hb1⟩; replace hB := Lib.hid (bl_then hB.out hB.out.size hb1); clear hb1)
    go_ret
    exact ⟨rfl, hB.out⟩
end Go.Proofs.Ytdabpeoaleopmaa
