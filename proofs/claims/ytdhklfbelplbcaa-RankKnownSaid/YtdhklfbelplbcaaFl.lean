/- Plain laws of float64: the order as an order of integers; signs; quotients by nought. -/
import Derived.Laws.FloatArith
import Derived.RowKit
namespace Go.Proofs.Ytdhklfbelplbcaa
set_option linter.unusedVariables false
set_option linter.unusedSimpArgs false
open Go.RowKit Ieee

/-- what a word stands for -/
def rdF (a : Nat) : Datum := Ieee.double.read a

theorem lp_eq : Ieee.double.leastPlace = -1074 := by decide +kernel
theorem sw_eq : Ieee.double.signWeight = 9223372036854775808 := by decide +kernel
theorem bi_eq : Ieee.double.binade = 4503599627370496 := by decide +kernel
theorem ir_eq : Ieee.double.infRung = 9218868437227405312 := by decide +kernel

def sgB (a : Nat) : Bool := a / 9223372036854775808 % 2 == 1

/-- a datum of float64 -/
def Fine : Datum → Prop
  | .number _ m i => m < 9007199254740992 ∧ -1074 ≤ i ∧ i ≤ 971
  | _ => True

theorem read_fine (a : Nat) : Fine (rdF a) ∧ (rdF a).neg = sgB a := by
  unfold rdF Format.read sgB
  simp only [lp_eq, sw_eq, bi_eq, ir_eq]
  split
  · rename_i h
    exact ⟨⟨by omega, by omega, by omega⟩, rfl⟩
  · split
    · rename_i h h2
      refine ⟨⟨by omega, by omega, ?_⟩, rfl⟩
      have : a % 9223372036854775808 / 4503599627370496 ≤ 2046 := by omega
      omega
    · split <;> exact ⟨trivial, rfl⟩

def big : Int := 2 ^ 2100
/-- the number itself, in units of the least place -/
def valD : Datum → Int
  | .number s m i => signed s m (i + 1074).toNat
  | .infinity s => if s then -big else big
  | .nan .. => 0

theorem signed_eq (s : Bool) (m k : Nat) : signed s m k = (if s then -1 else 1) * ((m : Int) * 2 ^ k) := by
  unfold signed
  cases s <;> simp [Nat.shiftLeft_eq]

theorem signed_scale (s : Bool) (m k j : Nat) : signed s m (k + j) = signed s m k * 2 ^ j := by
  rw [signed_eq, signed_eq, Int.pow_add]
  cases s <;> simp [Int.mul_assoc, Int.neg_mul]

theorem pow_le2 {a b : Nat} (h : a ≤ b) : (2 : Int) ^ a ≤ 2 ^ b := by
  have := Nat.pow_le_pow_right (n := 2) (by omega) h
  exact_mod_cast this

theorem big_pos : 0 < big := by unfold big; exact Int.pow_pos (by omega)

theorem val_bd (d : Datum) (h : Fine d) : -big ≤ valD d ∧ valD d ≤ big ∧ (d.isInfinity = false → -big < valD d ∧ valD d < big) := by
  have hp := big_pos
  cases d with
  | number s m i =>
    obtain ⟨h1, h2, h3⟩ := h
    have hk : (i + 1074).toNat ≤ 2045 := by omega
    have hb : ((m : Int) * 2 ^ (i + 1074).toNat) < big := by
      have e : (m : Int) * 2 ^ (i + 1074).toNat < 2 ^ 53 * 2 ^ 2045 := by
        have a1 : (m : Int) < 2 ^ 53 := by omega
        have a2 : (2 : Int) ^ (i + 1074).toNat ≤ 2 ^ 2045 := pow_le2 hk
        have a3 : (0 : Int) < 2 ^ (i + 1074).toNat := Int.pow_pos (by omega)
        calc (m : Int) * 2 ^ (i + 1074).toNat < 2 ^ 53 * 2 ^ (i + 1074).toNat := Int.mul_lt_mul_of_pos_right a1 a3
          _ ≤ 2 ^ 53 * 2 ^ 2045 := Int.mul_le_mul_of_nonneg_left a2 (by decide)
      have e2 : (2 : Int) ^ 53 * 2 ^ 2045 = 2 ^ 2098 := by rw [← Int.pow_add]
      have e3 : (2 : Int) ^ 2098 ≤ 2 ^ 2100 := pow_le2 (by omega)
      unfold big; omega
    have h0 : 0 ≤ ((m : Int) * 2 ^ (i + 1074).toNat) := Int.mul_nonneg (by omega) (Int.le_of_lt (Int.pow_pos (by omega)))
    simp only [valD, signed_eq]
    cases s <;> simp <;> omega
  | infinity s => cases s <;> simp [valD, Datum.isInfinity] <;> omega
  | nan s t => simp [valD]; omega

theorem cmp_int_lt {x y : Int} (h : x < y) : compare x y = .lt := by
  show compareOfLessAndEq x y = _
  unfold compareOfLessAndEq; rw [if_pos h]
theorem cmp_int_eq (x : Int) : compare x x = .eq := by
  show compareOfLessAndEq x x = _
  unfold compareOfLessAndEq; rw [if_neg (by omega), if_pos rfl]
theorem cmp_int_gt {x y : Int} (h : y < x) : compare x y = .gt := by
  show compareOfLessAndEq x y = _
  unfold compareOfLessAndEq; rw [if_neg (by omega), if_neg (by omega)]

theorem cmp_scale (x y c : Int) (h : 0 < c) : compare (x * c) (y * c) = compare x y := by
  rcases Int.lt_trichotomy x y with g | g | g
  · rw [cmp_int_lt g, cmp_int_lt (Int.mul_lt_mul_of_pos_right g h)]
  · subst g; rw [cmp_int_eq, cmp_int_eq]
  · rw [cmp_int_gt g, cmp_int_gt (Int.mul_lt_mul_of_pos_right g h)]

theorem order_val (d e : Datum) (hd : Fine d) (he : Fine e) :
    d.order e = if d.isNaN || e.isNaN then none else some (compare (valD d) (valD e)) := by
  have hp := big_pos
  cases d with
  | nan s t => simp [Datum.order, Datum.isNaN]
  | infinity s =>
    cases e with
    | nan _ _ => simp [Datum.order, Datum.isNaN]
    | infinity t =>
      have e1 : compare big big = .eq := cmp_int_eq _
      have e2 : compare big (-big) = .gt := cmp_int_gt (by omega)
      have e3 : compare (-big) big = .lt := cmp_int_lt (by omega)
      have e4 : compare (-big) (-big) = .eq := cmp_int_eq _
      cases s <;> cases t <;> simp only [Datum.order, Datum.isNaN, valD, Bool.false_eq_true, if_true, if_false, e1, e2, e3, e4, Bool.or_self] <;> decide
    | number t n j =>
      have h := (val_bd _ he).2.2 rfl
      cases s <;> simp [Datum.order, Datum.isNaN]
      · exact (cmp_int_gt (by simp only [valD] at h ⊢; exact h.2)).symm
      · exact (cmp_int_lt (by simp only [valD] at h ⊢; exact h.1)).symm
  | number s m i =>
    have h1 := (val_bd _ hd).2.2 rfl
    cases e with
    | nan _ _ => simp [Datum.order, Datum.isNaN]
    | infinity t =>
      cases t <;> simp [Datum.order, Datum.isNaN]
      · exact (cmp_int_lt (by simp only [valD] at h1 ⊢; exact h1.2)).symm
      · exact (cmp_int_gt (by simp only [valD] at h1 ⊢; exact h1.1)).symm
    | number t n j =>
      obtain ⟨_, hi, _⟩ := hd
      obtain ⟨_, hj, _⟩ := he
      simp only [Datum.order, Datum.isNaN, valD, Bool.or_self]
      have e1 : (i + 1074).toNat = (i - min i j).toNat + (min i j + 1074).toNat := by omega
      have e2 : (j + 1074).toNat = (j - min i j).toNat + (min i j + 1074).toNat := by omega
      rw [e1, e2, signed_scale, signed_scale, cmp_scale _ _ _ (Int.pow_pos (by omega))]
      rfl

def nanB (a : Nat) : Bool := FloatKind.f64.format.order a a != some .eq
theorem nanB_eq (a : Nat) : nanB a = (rdF a).isNaN := by
  unfold nanB
  show (Datum.order (rdF a) (rdF a) != some .eq) = _
  rw [order_val _ _ (read_fine a).1 (read_fine a).1]
  cases h : (rdF a).isNaN <;> simp [cmp_int_eq]
def valF (a : Nat) : Int := valD (rdF a)
theorem orderF (a b : Nat) : FloatKind.f64.format.order a b = if nanB a || nanB b then none else some (compare (valF a) (valF b)) := by
  rw [nanB_eq, nanB_eq]; exact order_val _ _ (read_fine a).1 (read_fine b).1

def cls (a : Nat) : Int := if nanB a then 1 else 0
def whole (a b : Int) : Int := if wrap64 (a - b) < 0 then -1 else if 0 < wrap64 (a - b) then 1 else 0
/-- the sign bit -/
def signB (a : Nat) : Bool := decide (wrap64 (a : Int) < 0)
theorem signB_eq (a : Nat) : signB a = sgB a := by
  unfold signB sgB wrap64
  rw [Bool.eq_iff_iff]; simp; omega
def zeroB (a : Nat) : Bool := FloatKind.f64.format.order a 0 == some .eq
theorem val0 : valF 0 = 0 := by decide +kernel
theorem nan0 : nanB 0 = false := by decide +kernel
theorem zeroB_eq (a : Nat) : zeroB a = (!nanB a && decide (valF a = 0)) := by
  unfold zeroB
  rw [orderF, val0, nan0]
  cases h : nanB a
  · rcases Int.lt_trichotomy (valF a) 0 with g | g | g
    · rw [cmp_int_lt g]; simp; omega
    · rw [g, cmp_int_eq]; simp
    · rw [cmp_int_gt g]; simp; omega
  · simp
def sideI (a : Nat) : Int := if zeroB a && signB a then -1 else 0
def ltB (a b : Nat) : Bool := FloatKind.f64.format.order a b == some .lt
def gtB (a b : Nat) : Bool := FloatKind.f64.format.order a b == some .gt
theorem ltB_eq (a b : Nat) : ltB a b = (!nanB a && !nanB b && decide (valF a < valF b)) := by
  unfold ltB
  rw [orderF]
  cases h : nanB a <;> cases h2 : nanB b <;> simp
  rcases Int.lt_trichotomy (valF a) (valF b) with g | g | g
  · rw [cmp_int_lt g]; simp; omega
  · rw [g, cmp_int_eq]; simp
  · rw [cmp_int_gt g]; simp; omega
theorem gtB_eq (a b : Nat) : gtB a b = (!nanB a && !nanB b && decide (valF b < valF a)) := by
  unfold gtB
  rw [orderF]
  cases h : nanB a <;> cases h2 : nanB b <;> simp
  rcases Int.lt_trichotomy (valF a) (valF b) with g | g | g
  · rw [cmp_int_lt g]; simp; omega
  · rw [g, cmp_int_eq]; simp
  · rw [cmp_int_gt g]; simp; omega

/-- what package rank's Cmp tells -/
def cmpF (a b : Nat) : Int :=
  if cls a + cls b > 0 then whole (cls a) (cls b) else if ltB a b = true then -1 else if gtB a b = true then 1 else whole (sideI a) (sideI b)

/-- a float's place among all -/
def keyF (a : Nat) : Int := if nanB a then 2 * big + 2 else 2 * valF a - (if zeroB a && signB a then 1 else 0)
def cmpI (x y : Int) : Int := if x < y then -1 else if y < x then 1 else 0

theorem cmpF_key (a b : Nat) : cmpF a b = cmpI (keyF a) (keyF b) := by
  have ha := val_bd _ (read_fine a).1
  have hb := val_bd _ (read_fine b).1
  change -big ≤ valF a ∧ valF a ≤ big ∧ _ at ha
  change -big ≤ valF b ∧ valF b ≤ big ∧ _ at hb
  unfold cmpF keyF cmpI cls
  cases h1 : nanB a <;> cases h2 : nanB b <;> simp only [ltB_eq, gtB_eq, h1, h2, sideI, zeroB_eq] <;> simp [whole, wrap64]
  · generalize valF a = x at *
    generalize valF b = y at *
    cases signB a <;> cases signB b <;> by_cases g : x = 0 <;> by_cases g' : y = 0 <;> simp [g, g'] <;> (repeat' split) <;> omega
  all_goals (repeat' split) <;> omega

/-- is it -0? -/
def minusB (a : Nat) : Bool := zeroB a && signB a
/-- what the document's Cmp tells -/
def refF (a b : Nat) : Int :=
  if nanB a && nanB b then 0 else if nanB a || gtB a b then 1 else if nanB b || ltB a b then -1 else if minusB a == minusB b then 0 else if minusB a then -1 else 1

theorem refF_key (a b : Nat) : refF a b = cmpI (keyF a) (keyF b) := by
  have ha := val_bd _ (read_fine a).1
  have hb := val_bd _ (read_fine b).1
  change -big ≤ valF a ∧ valF a ≤ big ∧ _ at ha
  change -big ≤ valF b ∧ valF b ≤ big ∧ _ at hb
  unfold refF keyF cmpI minusB
  cases h1 : nanB a <;> cases h2 : nanB b <;> simp only [ltB_eq, gtB_eq, h1, h2, zeroB_eq] <;> simp
  · generalize valF a = x at *
    generalize valF b = y at *
    cases signB a <;> cases signB b <;> by_cases g : x = 0 <;> by_cases g' : y = 0 <;> simp [g, g'] <;> (repeat' split) <;> omega
  all_goals (repeat' split) <;> omega

theorem cmpF_bd (a b : Nat) : -1 ≤ cmpF a b ∧ cmpF a b ≤ 1 := by
  rw [cmpF_key]; unfold cmpI; split
  · omega
  · split <;> omega
theorem cmpF_turn (a b : Nat) : cmpF b a = 0 - cmpF a b := by
  rw [cmpF_key, cmpF_key]; unfold cmpI; split <;> split <;> omega
theorem cmpF_on (a b c : Nat) (h1 : cmpF a b ≤ 0) (h2 : cmpF b c ≤ 0) : cmpF a c ≤ 0 := by
  rw [cmpF_key] at *; unfold cmpI at *
  (repeat' split) <;> (repeat' split at h1) <;> (repeat' split at h2) <;> omega

theorem cmpF_ref (a b : Nat) : cmpF a b = refF a b := by rw [cmpF_key, refF_key]

def pinf : Nat := 9218868437227405312
def ninf : Nat := 18442240474082181120

theorem val_zero {s : Bool} {m : Nat} {i : Int} (h : valD (.number s m i) = 0) : m = 0 := by
  simp only [valD, signed_eq] at h
  have h2 : (2 : Int) ^ (i + 1074).toNat ≠ 0 := by
    have : (0 : Int) < 2 ^ (i + 1074).toNat := Int.pow_pos (by omega)
    omega
  rcases Int.mul_eq_zero.1 h with h | h
  · cases s <;> simp at h
  · rcases Int.mul_eq_zero.1 h with h | h
    · omega
    · exact absurd h h2

theorem rd_zero {a : Nat} (h : zeroB a = true) : ∃ i, rdF a = .number (signB a) 0 i := by
  rw [zeroB_eq, nanB_eq] at h
  have hn := (read_fine a).2
  have hp := big_pos
  unfold valF at h
  rw [signB_eq]
  cases hr : rdF a with
  | nan s t => rw [hr] at h; simp [Datum.isNaN] at h
  | infinity s => rw [hr] at h; cases s <;> simp [Datum.isNaN, valD] at h <;> omega
  | number s m i =>
    rw [hr] at h hn
    simp only [Datum.isNaN, Bool.not_false, Bool.true_and, decide_eq_true_eq] at h
    obtain rfl := val_zero h
    simp only [Datum.neg] at hn
    exact ⟨i, by rw [hn]⟩

theorem quo_one {a : Nat} (h : zeroB a = true) : floatBits .quo .f64 4607182418800017408 a = some (if signB a then ninf else pinf) := by
  obtain ⟨i, hi⟩ := rd_zero h
  show (((rdF 4607182418800017408).quotient _ (rdF a)).map Ieee.double.write) = _
  have e : rdF 4607182418800017408 = .number false 4503599627370496 (-52) := by decide +kernel
  rw [e, hi]
  have w1 : Ieee.double.write (.infinity true) = ninf := by decide +kernel
  have w0 : Ieee.double.write (.infinity false) = pinf := by decide +kernel
  cases signB a <;> simp [Datum.quotient, w1, w0]

theorem lt_ninf : ltB ninf 0 = true := by decide +kernel
theorem lt_pinf : ltB pinf 0 = false := by decide +kernel
end Go.Proofs.Ytdhklfbelplbcaa
