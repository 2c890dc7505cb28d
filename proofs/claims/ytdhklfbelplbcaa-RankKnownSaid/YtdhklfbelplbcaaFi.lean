/- Whole numbers as float64: their sums are exact. -/
import Derived.Test.YtdhklfbelplbcaaFb
namespace Go.Proofs.Ytdhklfbelplbcaa
set_option linter.unusedVariables false
set_option linter.unusedSimpArgs false
open Go.RowKit Ieee

/-- this word is this whole number -/
def IntF (x : Nat) (a : Int) : Prop := ∃ s m i, rdF x = .number s m i ∧ i ≤ 0 ∧ -1074 ≤ i ∧ signed s m 0 = a * 2 ^ (-i).toNat

theorem cut_exact (neg : Bool) (n drop : Nat) : Toward.even.cut neg (n * 2 ^ drop) drop = n := by
  unfold Toward.cut
  by_cases hn : n = 0
  · subst hn; simp
  · have hl : drop ≤ (n * 2 ^ drop).log2 + 2 := by
      have : 2 ^ drop ≤ n * 2 ^ drop := Nat.le_mul_of_pos_left _ (by omega)
      have h2 := (Nat.le_log2 (by have := Nat.two_pow_pos drop; omega)).2 this
      omega
    rw [Nat.min_eq_left hl, Nat.one_shiftLeft]
    have hp := Nat.two_pow_pos drop
    dsimp only
    rw [Nat.mul_mod_left, Nat.mul_div_cancel _ hp]
    have : (2 ^ drop == 2 * 0) = false := by simp
    simp

theorem fb : Ieee.double.fractionBits = 52 := rfl
theorem write_def (s : Bool) (m : Nat) (p : Int) : Ieee.double.write (.number s m p) = Ieee.double.nearest s m p := rfl

theorem log2_mul (N q : Nat) (h : N ≠ 0) : (N * 2 ^ q).log2 = N.log2 + q := by
  have hp := Nat.two_pow_pos q
  have h0 : N * 2 ^ q ≠ 0 := Nat.mul_ne_zero h (by omega)
  refine (Nat.log2_eq_iff h0).2 ⟨?_, ?_⟩
  · rw [Nat.pow_add]; exact Nat.mul_le_mul_right _ (Nat.log2_self_le h)
  · have : N < 2 ^ (N.log2 + 1) := Nat.lt_log2_self
    rw [show N.log2 + q + 1 = (N.log2 + 1) + q by omega, Nat.pow_add]
    exact Nat.mul_lt_mul_of_pos_right this hp

theorem nearest_int (s : Bool) (N q : Nat) (h0 : N ≠ 0) (h : N < 9007199254740992) (hq : q ≤ 1074) :
    rdF (Ieee.double.nearest s (N * 2 ^ q) (-(q : Int))) = .number s (N * 2 ^ (52 - N.log2)) ((N.log2 : Int) - 52) ∧ N.log2 ≤ 52 := by
  have hp := Nat.two_pow_pos q
  have hlog : N.log2 ≤ 52 := by
    have := (Nat.log2_lt h0).2 (show N < 2 ^ 53 by omega)
    omega
  refine ⟨?_, hlog⟩
  have hne : N * 2 ^ q ≠ 0 := Nat.mul_ne_zero h0 (by omega)
  have hK1 : 4503599627370496 ≤ N * 2 ^ (52 - N.log2) := by
    have := Nat.mul_le_mul_right (2 ^ (52 - N.log2)) (Nat.log2_self_le h0)
    rw [← Nat.pow_add, show N.log2 + (52 - N.log2) = 52 by omega] at this
    omega
  have hK2 : N * 2 ^ (52 - N.log2) < 9007199254740992 := by
    have h1 : N < 2 ^ (N.log2 + 1) := Nat.lt_log2_self
    have := Nat.mul_lt_mul_of_pos_right h1 (Nat.two_pow_pos (52 - N.log2))
    rw [← Nat.pow_add, show N.log2 + 1 + (52 - N.log2) = 53 by omega] at this
    omega
  have hw : Ieee.double.nearest s (N * 2 ^ q) (-(q : Int)) = Ieee.double.word s ((N.log2 + 1022) * 4503599627370496 + N * 2 ^ (52 - N.log2)) := by
    unfold Format.nearest
    rw [if_neg hne, log2_mul N q h0]
    simp only [fb, lp_eq, bi_eq, ir_eq]
    have e1 : max (-(q : Int) + ((N.log2 + q : Nat) : Int) - ((52 : Nat) : Int)) (-1074) = (N.log2 : Int) - 52 := by omega
    rw [e1]
    have e2 : ((N.log2 : Int) - 52 - -1074).toNat = N.log2 + 1022 := by omega
    rw [e2]
    have e3 : Toward.even.cut s ((N * 2 ^ q) <<< (-(q : Int) - ((N.log2 : Int) - 52)).toNat) ((N.log2 : Int) - 52 - -(q : Int)).toNat = N * 2 ^ (52 - N.log2) := by
      by_cases hc : q ≤ 52 - N.log2
      · rw [show ((N.log2 : Int) - 52 - -(q : Int)).toNat = 0 by omega, show (-(q : Int) - ((N.log2 : Int) - 52)).toNat = 52 - N.log2 - q by omega, Nat.shiftLeft_eq, Nat.mul_assoc, ← Nat.pow_add, show q + (52 - N.log2 - q) = 52 - N.log2 by omega]
        have := cut_exact s (N * 2 ^ (52 - N.log2)) 0
        simpa using this
      · rw [show ((N.log2 : Int) - 52 - -(q : Int)).toNat = q - (52 - N.log2) by omega, show (-(q : Int) - ((N.log2 : Int) - 52)).toNat = 0 by omega, Nat.shiftLeft_zero]
        have := cut_exact s (N * 2 ^ (52 - N.log2)) (q - (52 - N.log2))
        rw [Nat.mul_assoc, ← Nat.pow_add, show 52 - N.log2 + (q - (52 - N.log2)) = q by omega] at this
        exact this
    rw [e3, Nat.min_eq_left (by omega)]
  rw [hw]
  unfold rdF Format.read Format.word
  simp only [lp_eq, sw_eq, bi_eq, ir_eq]
  generalize N * 2 ^ (52 - N.log2) = K at *
  have hm : ((if s = true then 9223372036854775808 + ((N.log2 + 1022) * 4503599627370496 + K) else (N.log2 + 1022) * 4503599627370496 + K) % 9223372036854775808) = (N.log2 + 1022) * 4503599627370496 + K := by
    cases s <;> simp <;> omega
  have hs : ((if s = true then 9223372036854775808 + ((N.log2 + 1022) * 4503599627370496 + K) else (N.log2 + 1022) * 4503599627370496 + K) / 9223372036854775808 % 2 == 1) = s := by
    cases s <;> simp <;> omega
  rw [hm, hs, if_neg (by omega), if_pos (by omega)]
  congr 1
  · omega
  · omega

theorem nearest_zero (s : Bool) (p : Int) : rdF (Ieee.double.nearest s 0 p) = .number s 0 (-1074) := by
  unfold Format.nearest
  rw [if_pos rfl]
  cases s <;> decide +kernel

theorem signed_mul (s : Bool) (m k : Nat) : signed s m k = signed s m 0 * 2 ^ k := by
  have := signed_scale s m 0 k
  rwa [Nat.zero_add] at this
theorem signed0 (s : Bool) (m : Nat) : signed s m 0 = (if s then -(m : Int) else m) := by unfold signed; cases s <;> simp

theorem write_int (s : Bool) (a : Int) (q : Nat) (ha : a.natAbs < 9007199254740992) (hq : q ≤ 1074) (hs : a ≠ 0 → (s = true ↔ a < 0)) :
    IntF (Ieee.double.nearest s (a.natAbs * 2 ^ q) (-(q : Int))) a := by
  by_cases h0 : a.natAbs = 0
  · have ha0 : a = 0 := by omega
    subst ha0
    refine ⟨s, 0, -1074, ?_, by omega, by omega, by rw [signed0, Int.zero_mul]; cases s <;> rfl⟩
    simp only [Int.natAbs_zero, Nat.zero_mul]
    exact nearest_zero s _
  · obtain ⟨h1, h2⟩ := nearest_int s a.natAbs q h0 ha hq
    refine ⟨s, _, _, h1, by omega, by omega, ?_⟩
    rw [show (-((a.natAbs.log2 : Int) - 52)).toNat = 52 - a.natAbs.log2 by omega, signed0]
    have hs' := hs (by omega)
    cases s with
    | true =>
      have : a < 0 := hs'.1 rfl
      have e : (a.natAbs : Int) = -a := by omega
      simp only [if_true]
      rw [Int.natCast_mul, e]
      push_cast
      rw [← Int.neg_mul, Int.neg_neg]
    | false =>
      have : ¬ a < 0 := fun h => by have g := hs'.2 h; simp at g
      have e : (a.natAbs : Int) = a := by omega
      simp only [Bool.false_eq_true, if_false]
      rw [Int.natCast_mul, e]
      push_cast
      rfl

theorem ofInt_int (a : Int) (ha : a.natAbs < 9007199254740992) : IntF (floatOfInt .f64 a) a := by
  have := write_int (decide (a < 0)) a 0 ha (by omega) (fun _ => by simp)
  show IntF (Ieee.double.nearest (decide (a < 0)) a.natAbs 0) a
  simpa using this

theorem add_int {x y : Nat} {a b : Int} (hx : IntF x a) (hy : IntF y b) (h : (a + b).natAbs < 9007199254740992) : ∃ r, floatBits .add .f64 x y = some r ∧ IntF r (a + b) := by
  obtain ⟨s, m, i, hx1, hx2, hx3, hx4⟩ := hx
  obtain ⟨t, n, j, hy1, hy2, hy3, hy4⟩ := hy
  obtain ⟨q, hq⟩ : ∃ q : Nat, (q : Int) = -(min i j) := ⟨(-(min i j)).toNat, by omega⟩
  have hb : min i j = -(q : Int) := by omega
  have htot : signed s m (i - min i j).toNat + signed t n (j - min i j).toNat = (a + b) * 2 ^ q := by
    rw [signed_mul s m (i - min i j).toNat, signed_mul t n (j - min i j).toNat, hx4, hy4, Int.mul_assoc, Int.mul_assoc, ← Int.pow_add, ← Int.pow_add, show (-i).toNat + (i - min i j).toNat = q by omega, show (-j).toNat + (j - min i j).toNat = q by omega, ← Int.add_mul]
  refine ⟨Ieee.double.write (.number (if (a + b) * 2 ^ q = 0 then s && t else decide ((a + b) * 2 ^ q < 0)) ((a + b) * 2 ^ q).natAbs (min i j)), ?_, ?_⟩
  · show (((rdF x).sum (rdF y)).map Ieee.double.write) = _
    rw [hx1, hy1]
    simp only [Datum.sum, htot, Option.map_some]
  · rw [write_def, Int.natAbs_mul, hb]
    have e : ((2 : Int) ^ q).natAbs = 2 ^ q := by
      rw [Int.natAbs_pow]; rfl
    rw [e]
    refine write_int _ (a + b) q h (by omega) (fun hne => ?_)
    have hp : (0 : Int) < 2 ^ q := Int.pow_pos (by omega)
    have hne2 : (a + b) * 2 ^ q ≠ 0 := Int.mul_ne_zero hne (by omega)
    rw [if_neg hne2]
    simp only [decide_eq_true_eq]
    constructor
    · intro g
      by_cases h3 : a + b < 0
      · exact h3
      · exfalso
        have := Int.mul_nonneg (show 0 ≤ a + b by omega) (Int.le_of_lt hp)
        omega
    · intro g
      exact Int.mul_neg_of_neg_of_pos g hp

def unitE : Nat := 1074
theorem int_val {x : Nat} {a : Int} (h : IntF x a) : nanB x = false ∧ valF x = a * 2 ^ unitE := by
  obtain ⟨s, m, i, h1, h2, h3, h4⟩ := h
  refine ⟨by rw [nanB_eq, h1]; rfl, ?_⟩
  unfold valF
  rw [h1]
  simp only [valD]
  rw [signed_mul, h4, Int.mul_assoc, ← Int.pow_add, show (-i).toNat + (i + 1074).toNat = unitE by unfold unitE; omega]

theorem int_eq {x y : Nat} {a : Int} (hx : IntF x a) (hy : IntF y a) : (FloatKind.f64.format.order x y == some .eq) = true := by
  rw [orderF, (int_val hx).1, (int_val hy).1, (int_val hx).2, (int_val hy).2]
  simp only [Bool.or_self, Bool.false_eq_true, if_false, cmp_int_eq]
  rfl

theorem int_0 : IntF 0 0 := ⟨false, 0, -1074, by decide +kernel, by omega, by omega, by rw [signed0, Int.zero_mul]; rfl⟩
theorem int_mz : IntF 9223372036854775808 0 := ⟨true, 0, -1074, by decide +kernel, by omega, by omega, by rw [signed0, Int.zero_mul]; rfl⟩

/-- the sum of whole numbers -/
theorem sum_int (l : List Nat) (ks : List Int) (hl : l.length = ks.length) (h : ∀ i, ∀ h1 : i < l.length, ∀ h2 : i < ks.length, IntF l[i] ks[i] ∧ ks[i].natAbs ≤ 524288) (hk : ks.length ≤ 40) :
    ∃ r, sumO l = some r ∧ IntF r ks.sum := by
  have key : ∀ (l : List Nat) (ks : List Int) (r0 : Nat) (a0 : Int) (B : Nat), l.length = ks.length → (∀ i, ∀ h1 : i < l.length, ∀ h2 : i < ks.length, IntF l[i] ks[i] ∧ ks[i].natAbs ≤ 524288) → IntF r0 a0 → a0.natAbs ≤ B → B + ks.length * 524288 < 9007199254740992 →
      ∃ r, l.foldl addO (some r0) = some r ∧ IntF r (a0 + ks.sum) := by
    intro l
    induction l with
    | nil =>
      intro ks r0 a0 B hl _ h0 _ _
      have : ks = [] := List.eq_nil_of_length_eq_zero (by simpa using hl.symm)
      subst this
      exact ⟨r0, rfl, by simpa using h0⟩
    | cons x l ih =>
      intro ks r0 a0 B hl h h0 hB hlt
      cases ks with
      | nil => simp at hl
      | cons k ks =>
        obtain ⟨hx, hkb⟩ := h 0 (by simp) (by simp)
        simp only [List.getElem_cons_zero] at hx hkb
        simp only [List.length_cons] at hlt
        obtain ⟨r, hr1, hr2⟩ := add_int h0 hx (by omega)
        have e : addO (some r0) x = some r := hr1
        rw [List.foldl_cons, e]
        obtain ⟨r', h1, h2⟩ := ih ks r (a0 + k) (B + 524288) (by simpa using hl) (fun i h1 h2 => by have g := h (i + 1) (by simp; omega) (by simp; omega); simpa only [List.getElem_cons_succ] using g) hr2 (by omega) (by omega)
        exact ⟨r', h1, by rw [List.sum_cons, ← Int.add_assoc]; exact h2⟩
  obtain ⟨r, h1, h2⟩ := key l ks 0 0 0 hl h int_0 (by simp) (by omega)
  exact ⟨r, h1, by simpa using h2⟩
end Go.Proofs.Ytdhklfbelplbcaa
