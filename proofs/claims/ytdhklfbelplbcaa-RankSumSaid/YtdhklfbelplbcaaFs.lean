/- The walk of RankSum. -/
import Derived.Test.YtdhklfbelplbcaaFc
namespace Go.Proofs.Ytdhklfbelplbcaa
set_option linter.unusedVariables false
set_option linter.unusedSimpArgs false
open Go.RowKit Ieee

def upB (x : Nat) : Bool := FloatKind.f64.format.order x 9218868437227405311 == some .gt
def dnB (x : Nat) : Bool := FloatKind.f64.format.order x 18442240474082181119 == some .lt

theorem val_top (s : Bool) (m : Nat) (i : Int) (h : Fine (.number s m i)) : valD (.number s m i) ≤ valD (.number false 9007199254740991 971) ∧ valD (.number true 9007199254740991 971) ≤ valD (.number s m i) := by
  obtain ⟨h1, h2, h3⟩ := h
  have hk : (i + 1074).toNat ≤ 2045 := by omega
  have a2 : (2 : Int) ^ (i + 1074).toNat ≤ 2 ^ 2045 := pow_le2 hk
  have a3 : (0 : Int) < 2 ^ (i + 1074).toNat := Int.pow_pos (by omega)
  have e : (m : Int) * 2 ^ (i + 1074).toNat ≤ 9007199254740991 * 2 ^ 2045 :=
    Int.le_trans (Int.mul_le_mul_of_nonneg_left a2 (by omega)) (Int.mul_le_mul_of_nonneg_right (by omega) (by exact Int.le_of_lt (Int.pow_pos (by omega))))
  have e0 : 0 ≤ (m : Int) * 2 ^ (i + 1074).toNat := Int.mul_nonneg (by omega) (Int.le_of_lt a3)
  have ek : ((971 : Int) + 1074).toNat = 2045 := rfl
  simp only [valD, signed_eq, ek]
  generalize (2 : Int) ^ 2045 = B at *
  generalize (m : Int) * 2 ^ (i + 1074).toNat = X at *
  cases s <;> simp <;> omega

theorem upB_inf {x : Nat} (h : upB x = true) : rdF x = .infinity false := by
  have h' : gtB x 9218868437227405311 = true := h
  have hb := read_fine x
  rw [gtB_eq] at h'
  simp only [Bool.and_eq_true, decide_eq_true_eq, Bool.not_eq_true'] at h'
  have e : rdF 9218868437227405311 = .number false 9007199254740991 971 := by decide +kernel
  unfold valF at h'
  rw [e, nanB_eq] at h'
  have hp := big_pos
  have h0 := (val_bd _ hb.1)
  cases hr : rdF x with
  | nan s t => rw [hr] at h'; simp [Datum.isNaN] at h'
  | infinity s =>
    cases s with
    | false => rfl
    | true =>
      exfalso
      rw [hr] at h'
      have h2 := (val_bd (.number false 9007199254740991 971) ⟨by decide, by decide, by decide⟩).2.2 rfl
      have : valD (.infinity true) = -big := rfl
      omega
  | number s m i =>
    exfalso
    rw [hr] at h' hb
    have := (val_top s m i hb.1).1
    omega

theorem dnB_inf {x : Nat} (h : dnB x = true) : rdF x = .infinity true := by
  have h' : ltB x 18442240474082181119 = true := h
  have hb := read_fine x
  rw [ltB_eq] at h'
  simp only [Bool.and_eq_true, decide_eq_true_eq, Bool.not_eq_true'] at h'
  have e : rdF 18442240474082181119 = .number true 9007199254740991 971 := by decide +kernel
  unfold valF at h'
  rw [e, nanB_eq] at h'
  have hp := big_pos
  cases hr : rdF x with
  | nan s t => rw [hr] at h'; simp [Datum.isNaN] at h'
  | infinity s =>
    cases s with
    | true => rfl
    | false =>
      exfalso
      rw [hr] at h'
      have h2 := (val_bd (.number true 9007199254740991 971) ⟨by decide, by decide, by decide⟩).2.2 rfl
      have : valD (.infinity false) = big := rfl
      omega
  | number s m i =>
    exfalso
    rw [hr] at h' hb
    have := (val_top s m i hb.1).2
    omega

/-- no number, or this infinity -/
def Is (s : Bool) (o : Option Nat) : Prop := o = none ∨ ∃ r, o = some r ∧ rdF r = .infinity s
theorem rd_inf (s : Bool) : rdF (Ieee.double.write (.infinity s)) = .infinity s := by
  cases s <;> decide +kernel
theorem add_def (s x : Nat) : floatBits .add .f64 s x = ((rdF s).sum (rdF x)).map Ieee.double.write := rfl
theorem Is.step {s : Bool} {o : Option Nat} (h : Is s o) (x : Nat) : Is s (addO o x) := by
  rcases h with rfl | ⟨r, rfl, hr⟩
  · exact .inl rfl
  · show Is s (floatBits .add .f64 r x)
    rw [add_def, hr]
    cases rdF x with
    | nan a b => exact .inl rfl
    | infinity t =>
      simp only [Datum.sum]
      split
      · exact .inr ⟨_, rfl, rd_inf s⟩
      · exact .inl rfl
    | number a b c => exact .inr ⟨_, rfl, rd_inf s⟩
theorem Is.now {s : Bool} (o : Option Nat) {x : Nat} (hx : rdF x = .infinity s) : Is s (addO o x) := by
  cases o with
  | none => exact .inl rfl
  | some r =>
    show Is s (floatBits .add .f64 r x)
    rw [add_def, hx]
    cases rdF r with
    | nan a b => exact .inl rfl
    | infinity t =>
      simp only [Datum.sum]
      split
      · rename_i e; exact .inr ⟨_, rfl, by rw [e]; exact rd_inf s⟩
      · exact .inl rfl
    | number a b c => exact .inr ⟨_, rfl, rd_inf s⟩
theorem Is.fold {s : Bool} (l : List Nat) : ∀ o, Is s o → Is s (l.foldl addO o) := by
  induction l with
  | nil => intro o h; exact h
  | cons x l ih => intro o h; exact ih _ (h.step x)
theorem Is.mem {s : Bool} (l : List Nat) : ∀ o x, x ∈ l → rdF x = .infinity s → Is s (l.foldl addO o) := by
  induction l with
  | nil => intro o x h; simp at h
  | cons y l ih =>
    intro o x h hx
    rcases List.mem_cons.1 h with rfl | h
    · exact Is.fold l _ (Is.now o hx)
    · exact ih _ x h hx
theorem none_fold (l : List Nat) : l.foldl addO none = none := by
  induction l with
  | nil => rfl
  | cons x l ih => exact ih
theorem nan_mem (l : List Nat) : ∀ o x, x ∈ l → nanB x = true → l.foldl addO o = none := by
  induction l with
  | nil => intro o x h; simp at h
  | cons y l ih =>
    intro o x h hx
    rcases List.mem_cons.1 h with rfl | h
    · have : addO o x = none := by
        cases o with
        | none => rfl
        | some r =>
          show floatBits .add .f64 r x = none
          rw [nanB_eq] at hx
          rw [add_def]
          cases hr : rdF x with
          | nan a b => cases rdF r <;> rfl
          | infinity a => rw [hr] at hx; simp [Datum.isNaN] at hx
          | number a b c => rw [hr] at hx; simp [Datum.isNaN] at hx
      rw [List.foldl_cons, this]; exact none_fold l
    · exact ih _ x h hx
/-- what has one that is no number, or infinities of both signs, has a sum that is none -/
theorem sum_law (l : List Nat) (s : Nat) (hs : IsO (sumO l) s) (h : l.any nanB = true ∨ (l.any upB = true ∧ l.any dnB = true)) : nanB s = true := by
  have : sumO l = none := by
    rcases h with h | ⟨h1, h2⟩
    · obtain ⟨x, hx, hn⟩ := List.any_eq_true.1 h
      exact nan_mem l _ x hx hn
    · obtain ⟨x, hx, hxu⟩ := List.any_eq_true.1 h1
      obtain ⟨y, hy, hyd⟩ := List.any_eq_true.1 h2
      rcases Is.mem l (some 0) x hx (upB_inf hxu) with e | ⟨r, e, hr⟩
      · exact e
      · rcases Is.mem l (some 0) y hy (dnB_inf hyd) with e' | ⟨r', e', hr'⟩
        · exact e'
        · exfalso
          rw [e] at e'
          cases e'
          rw [hr] at hr'
          cases hr'
  rw [this] at hs
  exact hs
theorem isO_alike {o : Option Nat} {a b : Nat} (ha : IsO o a) (hb : IsO o b) : (refF a b == 0) = true := by
  rw [refF_key]
  cases o with
  | some r =>
    have e1 : a = r := ha
    have e2 : b = r := hb
    subst e1; subst e2
    unfold cmpI; simp
  | none =>
    have e1 : nanB a = true := ha
    have e2 : nanB b = true := hb
    simp [keyF, e1, e2, cmpI]
theorem any_snoc (f : Nat → Bool) (l : List Nat) (k : Nat) (h : k < l.length) : (l.take (k + 1)).any f = ((l.take k).any f || f l[k]) := by
  rw [List.take_succ_eq_append_getElem h, List.any_append]; simp

set_option maxHeartbeats 4000000 in
set_option maxRecDepth 100000 in
theorem ranksum_any (w : World) (A : Option Addr) (c : Nat) (ns : List Int) (hr : Rd w A (ints ns)) (hn : ns.length ≤ c) (hc : c ≤ 9223372036854775807) (_ : ∀ x ∈ ns, (Lit.int .i64 x).wf = true) (a : Nat) :
    Calls Try.prog 4 #[.slice A ns.length c, .float .f64 a] w fun e w' => e = .returned (.bool true) ∧ Below w.heap.size w w' := by
  have hr' := Lib.hid hr
  clear hr
  go_enter Try.func4, Try.ntmps4
  go_wp2_with (first
    | (go_at_call 11; refine (known_any _).mono ?_; rintro e w1 ⟨rfl, hb1⟩)
    | (go_at_call 12; refine (floats_any A c ns _ (hr'.out.below hb1) hn hc).mono ?_; rintro e w2 ⟨v, l, rfl, hl, hown, hb2⟩)
    | (at_builtin; refine app_lit (w0 := w) w.heap.size rfl _ _ 25 23 (.float .f64 0) 1 8 rfl Try.underlying25 info23 rfl (by decide) (by decide) v l.length (fl l) rfl (own_weaken hown hb1.size) (bl_then hb1 hb1.size hb2) (Nat.le_trans hb1.size hb2.size) 1 1 [.float .f64 a] rfl rfl (by simp [Value.oneCell']) (by omega) ?_; intro v3 w3 hown3 hb3 hg3 hat3; clear hg3 hat3; obtain ⟨A3, c3, rfl, hn3, hc3, hr3, -⟩ := Rd.own hown3; clear hown3 hown))
  obtain ⟨L, N, hN, hL, hr4, hN2⟩ : ∃ (L : List Nat) (N : Nat), N = l.length + 1 ∧ L.length = N ∧ Hid (Rd w3 A3 (fl L)) ∧ N ≤ 23 :=
    ⟨l ++ [a], _, rfl, by simp, Lib.hid (by simpa [fl, enc] using hr3), by omega⟩
  have hb3' := Lib.hid hb3
  clear hb1 hb2 hb3 hr3
  rw [← hN] at hn3 ⊢
  clear hN hl hr'
  subst hL
  refine (sum_any A3 c3 L _ hr4.out hn3 hc3).mono ?_
  rintro e w4 ⟨s, rfl, hs, hb4⟩
  have hr5 := Lib.hid (hr4.out.below hb4)
  have hb5 := Lib.hid (bl_then hb3'.out hb3'.out.size hb4)
  have hs' := Lib.hid hs
  clear hs hb4 hr4 hb3'
  go_wp2_with fail
  refine (refsum_any A3 c3 L _ hr5.out hn3 hc3).mono ?_
  rintro e w5 ⟨t, n, rfl, ht, rfl⟩
  have hal := isO_alike hs'.out ht
  clear ht
  go_wp2_with (go_at_call 16; refine (alike_any _ _ _).mono ?_; rintro e w' ⟨rfl, rfl⟩)
  clear hal
  go_loopw [10, 9, 7, 8] (fun i b9 b7 b8 wr => ∃ (k n : Nat) (bn bu bd : Bool), i = .int .i64 k ∧ k ≤ L.length ∧ b9 = .bool bn ∧ b7 = .bool bu ∧ b8 = .bool bd ∧ bn = (L.take k).any nanB ∧ bu = (L.take k).any upB ∧ bd = (L.take k).any dnB ∧ wr = w4.drewN n) (fun i _ _ _ _ => L.length - (intOf i).toNat)
  case atStart => exact ⟨0, n, false, false, false, rfl, by omega, rfl, rfl, rfl, rfl, rfl, rfl, rfl⟩
  case round =>
    obtain ⟨k, m, bn, bu, bd, rfl, hk, rfl, rfl, rfl, hbn, hbu, hbd, rfl⟩ := hrel
    by_cases hlt : k < L.length
    · have hd1 : decide (k < L.length) = true := by simpa using hlt
      obtain ⟨ad, x, rfl, hx, hxe⟩ := hr5.out.at k hlt
      have b1 : (0 : Int) ≤ (k : Int) := by omega
      have b2 : (k : Int) < (L.length : Int) := by omega
      have en := Lib.hid (any_snoc nanB L k hlt)
      have eu := Lib.hid (any_snoc upB L k hlt)
      have ed := Lib.hid (any_snoc dnB L k hlt)
      rw [← hbn, ← hxe] at en
      rw [← hbu, ← hxe] at eu
      rw [← hbd, ← hxe] at ed
      clear hbn hbu hbd hxe
      cases bn <;> cases bu <;> cases bd
      all_goals
        go_wp2_with fail
        go_quiet (fail)
        go_wp2_with fail
        go_quiet (fail)
        go_wp2_with fail
        go_roundw
        case rel => exact ⟨k + 1, _, _, _, _, by go_num, by omega, rfl, rfl, rfl, en.out.symm, eu.out.symm, ed.out.symm, by first | rfl | (simp only [World.drewN_drewN]; rfl)⟩
        case measure => simp [intOf]; omega
    · have hd1 : decide (k < L.length) = false := by simpa using hlt
      have hkl : k = L.length := by omega
      have hlaw := sum_law L s hs'.out
      rw [hkl, List.take_length] at hbn hbu hbd
      rw [← hbn, ← hbu, ← hbd] at hlaw
      clear hbn hbu hbd
      have hkl' := Lib.hid hkl
      clear hkl
      cases bn <;> cases bu <;> cases bd
      all_goals
        simp only [Bool.false_eq_true, and_false, false_and, or_false, false_or, and_true, true_and, or_true, true_or, or_self, false_implies, true_implies, forall_const] at hlaw
        (try change (FloatKind.f64.format.order s s != some Ordering.eq) = true at hlaw)
        go_wp2_with fail
        go_ret
        exact ⟨rfl, bl_drewN hb5.out _⟩
end Go.Proofs.Ytdhklfbelplbcaa
