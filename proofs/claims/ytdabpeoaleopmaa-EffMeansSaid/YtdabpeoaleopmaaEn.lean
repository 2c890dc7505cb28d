/- The walk of EffMeans. -/
import Derived.Test.YtdabpeoaleopmaaEg
import Derived.Deep.RegionHeld3
namespace Go.Proofs.Ytdabpeoaleopmaa
set_option linter.unusedVariables false
set_option linter.unusedSimpArgs false
open Go.RowKit

/-- held behind what becomes of it -/
def behB (h : Bool) (c : Int) : Bool := decide (c = 50) || (decide (c = 49) && h)
theorem beh_e {h : Bool} {c : Int} {r : Bool} (e : Hid (behB h c = r)) (w : World) : Calls Try.prog 19 #[.bool h, .int .u8 c] w fun e w' => e = .returned (.bool r) ∧ w = w' := by
  have e' := e.out
  clear e
  subst e'
  by_cases h1 : c = 50
  · subst h1
    cases h
    all_goals
      go_enter Try.func19, Try.ntmps19
      go_wp2
      go_ret
      exact ⟨rfl, rfl⟩
  · have q1 : (c == 50) = false := by simpa using h1
    by_cases h2 : c = 49
    · subst h2
      cases h
      all_goals
        go_enter Try.func19, Try.ntmps19
        go_wp2
        go_ret
        exact ⟨rfl, rfl⟩
    · have q2 : (c == 49) = false := by simpa using h2
      have hr : Hid (∀ h, behB h c = false) := Lib.hid (fun h => by simp [behB, h1, h2])
      clear h1 h2
      cases h
      all_goals
        go_enter Try.func19, Try.ntmps19
        go_wp2
        go_ret
        exact ⟨ret_bool (hr.out _).symm, rfl⟩
theorem beh_th (h : Bool) (a b : Int) : behB h (th a b) = behB (behB h a) b := by
  unfold th behB
  by_cases h1 : b = 49 <;> by_cases h2 : b = 50 <;> simp [h1, h2] <;> omega
theorem beh_min (h : Bool) {a b : Int} (ha : 48 ≤ a ∧ a ≤ 50) (hb : 48 ≤ b ∧ b ≤ 50) : behB h (min a b) = (behB h a && behB h b) := by
  unfold behB
  have e1 : a = 48 ∨ a = 49 ∨ a = 50 := by omega
  have e2 : b = 48 ∨ b = 49 ∨ b = 50 := by omega
  rcases e1 with rfl | rfl | rfl <;> rcases e2 with rfl | rfl | rfl <;> cases h <;> rfl
theorem beh_max (h : Bool) {a b : Int} (ha : 48 ≤ a ∧ a ≤ 50) (hb : 48 ≤ b ∧ b ≤ 50) : behB h (max a b) = (behB h a || behB h b) := by
  unfold behB
  have e1 : a = 48 ∨ a = 49 ∨ a = 50 := by omega
  have e2 : b = 48 ∨ b = 49 ∨ b = 50 := by omega
  rcases e1 with rfl | rfl | rfl <;> rcases e2 with rfl | rfl | rfl <;> cases h <;> rfl
theorem zip_at {op : Int → Int → Int} {a b c : List Int} (h : List.zipWith op a b = c) (k : Nat) (h1 : k < a.length) (h2 : k < b.length) (h3 : k < c.length) : c[k] = op a[k] b[k] := by
  subst h
  rw [List.getElem_zipWith]

set_option maxHeartbeats 8000000 in
set_option maxRecDepth 100000 in
theorem means_any (w : World) (n : Int) (h0 : (Lit.int .i64 n).wf = true) (A0 : Option Addr) (c0 : Nat) (ns0 : List Int) (hr0 : Rd w A0 (enc (Value.int .i64) ns0)) (hn0 : ns0.length ≤ c0) (hc0 : c0 ≤ 9223372036854775807) (hw0 : ∀ x ∈ ns0, (Lit.int .i64 x).wf = true)
    (A1 : Option Addr) (c1 : Nat) (ns1 : List Int) (hr1 : Rd w A1 (enc (Value.int .i64) ns1)) (hn1 : ns1.length ≤ c1) (hc1 : c1 ≤ 9223372036854775807) (hw1 : ∀ x ∈ ns1, (Lit.int .i64 x).wf = true)
    (at_ : Int) (h2 : (Lit.int .i64 at_).wf = true) :
    Calls Try.prog 6 #[.int .i64 n, .slice A0 ns0.length c0, .slice A1 ns1.length c1, .int .i64 at_] w fun e w' => e = .returned (.bool true) ∧ Below w.heap.size w w' := by
  have hr0' := Lib.hid hr0
  have hr1' := Lib.hid hr1
  clear h0 hr0 hw0 hr1 hw1 h2
  obtain ⟨m, hm0, hm1, hqe⟩ : ∃ m : Nat, 1 ≤ m ∧ m ≤ 12 ∧ n % 12 = (m : Int) - 1 := ⟨(n % 12).toNat + 1, by omega, by omega, by omega⟩
  have hm : Hid (m ≤ 1000) := Lib.hid (by omega)
  replace hqe := Lib.hid hqe
  have hsum : (1 : Int) + ((m : Int) - 1) = m := by omega
  obtain ⟨x, hx⟩ : ∃ u_, makeL m ns0 = u_ := ⟨_, rfl⟩
  have ex : Hid (Ef m x) := Lib.hid (hx ▸ Ef.mk m ns0)
  replace hx := Lib.hid hx
  obtain ⟨y, hy⟩ : ∃ u_, makeL m ns1 = u_ := ⟨_, rfl⟩
  have ey : Hid (Ef m y) := Lib.hid (hy ▸ Ef.mk m ns1)
  replace hy := Lib.hid hy
  obtain ⟨i, hi, hie⟩ : ∃ i : Nat, i < m ∧ at_ % (m : Int) = (i : Int) := ⟨(at_ % (m : Int)).toNat, by have := Int.emod_lt_of_pos at_ (show (0 : Int) < m by omega); have := Int.emod_nonneg at_ (show (m : Int) ≠ 0 by omega); omega, by have := Int.emod_nonneg at_ (show (m : Int) ≠ 0 by omega); omega⟩
  replace hie := Lib.hid hie
  obtain ⟨t, ht⟩ : ∃ u_, thenL x y = u_ := ⟨_, rfl⟩
  have et : Hid (Ef m t) := Lib.hid (ht ▸ ex.out.tn ey.out)
  obtain ⟨l, hl⟩ : ∃ u_, leastL x y = u_ := ⟨_, rfl⟩
  have el : Hid (Ef m l) := Lib.hid (hl ▸ ex.out.le ey.out)
  obtain ⟨s, hs⟩ : ∃ u_, mostL x y = u_ := ⟨_, rfl⟩
  have es : Hid (Ef m s) := Lib.hid (hs ▸ ex.out.mo ey.out)
  have ix : i < x.length := by rw [ex.out.2]; exact hi
  have iy : i < y.length := by rw [ey.out.2]; exact hi
  have it : i < t.length := by rw [et.out.2]; exact hi
  have il : i < l.length := by rw [el.out.2]; exact hi
  have is : i < s.length := by rw [es.out.2]; exact hi
  obtain ⟨a, hae⟩ : ∃ a, x[i] = a := ⟨_, rfl⟩
  obtain ⟨b, hbe⟩ : ∃ a, y[i] = a := ⟨_, rfl⟩
  obtain ⟨tk, hte⟩ : ∃ a, t[i] = a := ⟨_, rfl⟩
  obtain ⟨lk, hle⟩ : ∃ a, l[i] = a := ⟨_, rfl⟩
  obtain ⟨sk, hse⟩ : ∃ a, s[i] = a := ⟨_, rfl⟩
  have ga := ex.out.1.get i ix
  have gb := ey.out.1.get i iy
  rw [hae] at ga
  rw [hbe] at gb
  have z1 : Hid (tk = th a b) := Lib.hid (by rw [← hte, ← hae, ← hbe]; exact zip_at ht i ix iy it)
  have z2 : Hid (lk = min a b) := Lib.hid (by rw [← hle, ← hae, ← hbe]; exact zip_at hl i ix iy il)
  have z3 : Hid (sk = max a b) := Lib.hid (by rw [← hse, ← hae, ← hbe]; exact zip_at hs i ix iy is)
  have g1 : ∀ h, (((st x)[i]'h).toNat : Int) = a := fun h => by rw [← hae]; exact st_get x ex.out.1.asc i h
  have g2 : ∀ h, (((st y)[i]'h).toNat : Int) = b := fun h => by rw [← hbe]; exact st_get y ey.out.1.asc i h
  have g3 : ∀ h, (((st t)[i]'h).toNat : Int) = tk := fun h => by rw [← hte]; exact st_get t et.out.1.asc i h
  have g4 : ∀ h, (((st l)[i]'h).toNat : Int) = lk := fun h => by rw [← hle]; exact st_get l el.out.1.asc i h
  have g5 : ∀ h, (((st s)[i]'h).toNat : Int) = sk := fun h => by rw [← hse]; exact st_get s es.out.1.asc i h
  have s1 : (st x).size = m := by rw [st_size, ex.out.2]
  have s2 : (st y).size = m := by rw [st_size, ey.out.2]
  have s3 : (st t).size = m := by rw [st_size, et.out.2]
  have s4 : (st l).size = m := by rw [st_size, el.out.2]
  have s5 : (st s).size = m := by rw [st_size, es.out.2]
  obtain ⟨rb, hrb⟩ : ∃ r, behB false a = r := ⟨_, rfl⟩
  have hhx : Hid (hasL x i = rb) := Lib.hid (by rw [← hrb, ← hae]; simp [hasL, behB, ix]; by_cases e : x[i] = 50 <;> simp [e])
  replace ht := Lib.hid ht
  replace hl := Lib.hid hl
  replace hs := Lib.hid hs
  have i1 : (0 : Int) ≤ (i : Int) := by omega
  have i2 : (i : Int) < (m : Int) := by omega
  have hB := Lib.hid (Below.refl w.heap.size w)
  clear hae hbe hte hle hse ix iy it il is
  go_enter Try.func6, Try.ntmps6
  go_upto_block 0 with (first
    | (go_at_call 10; refine (known_any _).mono ?_; rintro e w1 ⟨rfl, hb1⟩; replace hB := Lib.hid (bl_then hB.out hB.out.size hb1); clear hb1)
    | (go_at_call 12; (first | (with_reducible refine (make_e hx hm A0 c0 _ (hr0'.out.below hB.out) hn0 hc0).mono ?_) | (with_reducible refine (make_e hy hm A1 c1 _ (hr1'.out.below hB.out) hn1 hc1).mono ?_)); rintro e w1 ⟨rfl, hb1⟩; replace hB := Lib.hid (bl_then hB.out hB.out.size hb1); clear hb1)
    | (go_at_call_of 11 (Value.int .i64 n); refine (within_any n 12 _ (by decide) (by decide)).mono ?_; rintro e w' ⟨rfl, rfl⟩; rw [hqe.out])
    | (go_at_call_of 11 (Value.int .i64 at_); refine (within_any at_ (m : Int) _ (by omega) (by omega)).mono ?_; rintro e w' ⟨rfl, rfl⟩; rw [hie.out])
    | (go_at_call 14; refine (then_e ht ex ey hm _).mono ?_; rintro e w1 ⟨rfl, hb1⟩; replace hB := Lib.hid (bl_then hB.out hB.out.size hb1); clear hb1)
    | (go_at_call 15; refine (least_e hl ex ey hm _).mono ?_; rintro e w1 ⟨rfl, hb1⟩; replace hB := Lib.hid (bl_then hB.out hB.out.size hb1); clear hb1)
    | (go_at_call 16; refine (most_e hs ex ey hm _).mono ?_; rintro e w1 ⟨rfl, hb1⟩; replace hB := Lib.hid (bl_then hB.out hB.out.size hb1); clear hb1))
  go_wp2_with fail
  go_loopw [15] (fun v wr => ∃ k : Nat, v = .int .i64 k ∧ k ≤ 2 ∧ Below w.heap.size w wr) (fun v _ => 2 - (intOf v).toNat)
  case atStart => exact ⟨0, rfl, by omega, hB.out⟩
  case round =>
    obtain ⟨k, rfl, hk, hbl⟩ := hrel
    clear hB
    have hB := Lib.hid hbl
    clear hbl
    by_cases hlt : k < 2
    · have hd : decide (k < 2) = true := by simpa using hlt
      have hd2 : decide ((k : Int) < 2) = true := by simp; omega
      obtain ⟨held, hheld⟩ : ∃ h : Bool, ((k : Int) == 1) = h := ⟨_, rfl⟩
      obtain ⟨p, hp⟩ : ∃ h : Bool, behB held a = h := ⟨_, rfl⟩
      obtain ⟨q, hq⟩ : ∃ h : Bool, behB held b = h := ⟨_, rfl⟩
      obtain ⟨r, hr⟩ : ∃ h : Bool, behB p b = h := ⟨_, rfl⟩
      have e1 : Hid (behB held tk = r) := Lib.hid (by rw [z1.out, beh_th, hp, hr])
      have e2 : Hid (behB held lk = (p && q)) := Lib.hid (by rw [z2.out, beh_min held ga gb, hp, hq])
      have e3 : Hid (behB held sk = (p || q)) := Lib.hid (by rw [z3.out, beh_max held ga gb, hp, hq])
      replace hp := Lib.hid hp
      replace hq := Lib.hid hq
      replace hr := Lib.hid hr
      cases p <;> cases q
      all_goals
        go_upto_region 13 with fail
        go_quiet (first
          | (go_at_call_of 19 (Value.int .u8 a); exact quiet_same (beh_e hp _))
          | (go_at_call_of 19 (Value.int .u8 b); exact quiet_same (beh_e hq _)))
        go_upto_region 14 with fail
        go_quiet (first
          | (go_at_call_of 19 (Value.int .u8 tk); exact quiet_add (beh_e e1 _))
          | (go_at_call_of 19 (Value.int .u8 b); exact quiet_add (beh_e hr _))
          | (go_at_call_of 19 (Value.int .u8 lk); exact quiet_add (beh_e e2 _))
          | (go_at_call_of 19 (Value.int .u8 sk); exact quiet_add (beh_e e3 _)))
        go_wp2_with fail
        exact ⟨⟨k + 1, by go_num, by omega, by first | exact bl_drewN hB.out _ | exact bl_drewN (bl_drewN hB.out _) _⟩, by simp [intOf]; omega⟩
    · have hd : decide (k < 2) = false := by simpa using hlt
      have hd2 : decide ((k : Int) < 2) = false := by simp; omega
      have e1 : Hid (behB false a = rb) := Lib.hid hrb
      clear hrb
      go_upto_region 16 with fail
      go_region_held3 (fun _ => True) (first | trivial) (first
        | (go_at_call 20; refine (has_e hhx ex _).mono ?_; rintro e w1 ⟨rfl, hb1⟩; replace hB := Lib.hid (bl_then hB.out.drew hB.out.size hb1); clear hb1)
        | (go_at_call 19; refine (beh_e e1 _).mono ?_; rintro e w' ⟨rfl, rfl⟩))
      all_goals (go_wp2_with fail)
      all_goals go_ret
      all_goals exact ⟨by simp, hB.out⟩
end Go.Proofs.Ytdabpeoaleopmaa
