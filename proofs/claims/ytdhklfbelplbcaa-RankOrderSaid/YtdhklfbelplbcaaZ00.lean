/-
  Plain laws of float64: the order as an order of integers; signs; quotients by nought.
  Words for the walks: slices that read as lists, slices of the call's own, appends. No program's text.
-/
import Derived.Laws.FloatArith
import Derived.RowKit
import Derived.WalkKit
import Derived.WalkSpells
import Derived.WalkLawsBesides
import Derived.Deep.QuietTactic
import Derived.BigQuiet
import Derived.Lib.Hide
import Derived.Deep.DeepCutAuto
import Derived.Deep.CutBlock
import Derived.Maps.AppendAt
import Derived.Laws.AppendOwnNone
import Derived.Deep.AppendLies
import Derived.Deep.OwnRows
import Derived.Laws.CopyOwn
namespace Go.Proofs.Ytdhklfbelplbcaa
set_option linter.unusedVariables false
set_option linter.unusedSimpArgs false
open Go.RowKit Ieee

/-- what a word stands for -/
def rdF (a : Nat) : Datum := Ieee.double.read a

theorem lp_eq : Ieee.double.leastPlace = -1074 := by decide +kernel
theorem sw_eq : Ieee.double.signWeight = 9223372036854775808 := by decide +kernel
theorem bi_eq : Ieee.double.binade = 4503599627370496 := by decide +kernel
theorem ir_eq : Ieee.double.infRung = 9218868437227405312 := by decide +kernel

def sgB (a : Nat) : Bool := a / 9223372036854775808 % 2 == 1

/-- a datum of float64 -/
def Fine : Datum → Prop
  | .number _ m i => m < 9007199254740992 ∧ -1074 ≤ i ∧ i ≤ 971
  | _ => True

theorem read_fine (a : Nat) : Fine (rdF a) ∧ (rdF a).neg = sgB a := by
  unfold rdF Format.read sgB
  simp only [lp_eq, sw_eq, bi_eq, ir_eq]
  split
  · rename_i h
    exact ⟨⟨by omega, by omega, by omega⟩, rfl⟩
  · split
    · rename_i h h2
      refine ⟨⟨by omega, by omega, ?_⟩, rfl⟩
      have : a % 9223372036854775808 / 4503599627370496 ≤ 2046 := by omega
      omega
    · split <;> exact ⟨trivial, rfl⟩

def big : Int := 2 ^ 2100
/-- the number itself, in units of the least place -/
def valD : Datum → Int
  | .number s m i => signed s m (i + 1074).toNat
  | .infinity s => if s then -big else big
  | .nan .. => 0

theorem signed_eq (s : Bool) (m k : Nat) : signed s m k = (if s then -1 else 1) * ((m : Int) * 2 ^ k) := by
  unfold signed
  cases s <;> simp [Nat.shiftLeft_eq]

theorem signed_scale (s : Bool) (m k j : Nat) : signed s m (k + j) = signed s m k * 2 ^ j := by
  rw [signed_eq, signed_eq, Int.pow_add]
  cases s <;> simp [Int.mul_assoc, Int.neg_mul]

theorem pow_le2 {a b : Nat} (h : a ≤ b) : (2 : Int) ^ a ≤ 2 ^ b := by
  have := Nat.pow_le_pow_right (n := 2) (by omega) h
  exact_mod_cast this

theorem big_pos : 0 < big := by unfold big; exact Int.pow_pos (by omega)

theorem val_bd (d : Datum) (h : Fine d) : -big ≤ valD d ∧ valD d ≤ big ∧ (d.isInfinity = false → -big < valD d ∧ valD d < big) := by
  have hp := big_pos
  cases d with
  | number s m i =>
    obtain ⟨h1, h2, h3⟩ := h
    have hk : (i + 1074).toNat ≤ 2045 := by omega
    have hb : ((m : Int) * 2 ^ (i + 1074).toNat) < big := by
      have e : (m : Int) * 2 ^ (i + 1074).toNat < 2 ^ 53 * 2 ^ 2045 := by
        have a1 : (m : Int) < 2 ^ 53 := by omega
        have a2 : (2 : Int) ^ (i + 1074).toNat ≤ 2 ^ 2045 := pow_le2 hk
        have a3 : (0 : Int) < 2 ^ (i + 1074).toNat := Int.pow_pos (by omega)
        calc (m : Int) * 2 ^ (i + 1074).toNat < 2 ^ 53 * 2 ^ (i + 1074).toNat := Int.mul_lt_mul_of_pos_right a1 a3
          _ ≤ 2 ^ 53 * 2 ^ 2045 := Int.mul_le_mul_of_nonneg_left a2 (by decide)
      have e2 : (2 : Int) ^ 53 * 2 ^ 2045 = 2 ^ 2098 := by rw [← Int.pow_add]
      have e3 : (2 : Int) ^ 2098 ≤ 2 ^ 2100 := pow_le2 (by omega)
      unfold big; omega
    have h0 : 0 ≤ ((m : Int) * 2 ^ (i + 1074).toNat) := Int.mul_nonneg (by omega) (Int.le_of_lt (Int.pow_pos (by omega)))
    simp only [valD, signed_eq]
    cases s <;> simp <;> omega
  | infinity s => cases s <;> simp [valD, Datum.isInfinity] <;> omega
  | nan s t => simp [valD]; omega

theorem cmp_int_lt {x y : Int} (h : x < y) : compare x y = .lt := by
  show compareOfLessAndEq x y = _
  unfold compareOfLessAndEq; rw [if_pos h]
theorem cmp_int_eq (x : Int) : compare x x = .eq := by
  show compareOfLessAndEq x x = _
  unfold compareOfLessAndEq; rw [if_neg (by omega), if_pos rfl]
theorem cmp_int_gt {x y : Int} (h : y < x) : compare x y = .gt := by
  show compareOfLessAndEq x y = _
  unfold compareOfLessAndEq; rw [if_neg (by omega), if_neg (by omega)]

theorem cmp_scale (x y c : Int) (h : 0 < c) : compare (x * c) (y * c) = compare x y := by
  rcases Int.lt_trichotomy x y with g | g | g
  · rw [cmp_int_lt g, cmp_int_lt (Int.mul_lt_mul_of_pos_right g h)]
  · subst g; rw [cmp_int_eq, cmp_int_eq]
  · rw [cmp_int_gt g, cmp_int_gt (Int.mul_lt_mul_of_pos_right g h)]

theorem order_val (d e : Datum) (hd : Fine d) (he : Fine e) :
    d.order e = if d.isNaN || e.isNaN then none else some (compare (valD d) (valD e)) := by
  have hp := big_pos
  cases d with
  | nan s t => simp [Datum.order, Datum.isNaN]
  | infinity s =>
    cases e with
    | nan _ _ => simp [Datum.order, Datum.isNaN]
    | infinity t =>
      have e1 : compare big big = .eq := cmp_int_eq _
      have e2 : compare big (-big) = .gt := cmp_int_gt (by omega)
      have e3 : compare (-big) big = .lt := cmp_int_lt (by omega)
      have e4 : compare (-big) (-big) = .eq := cmp_int_eq _
      cases s <;> cases t <;> simp only [Datum.order, Datum.isNaN, valD, Bool.false_eq_true, if_true, if_false, e1, e2, e3, e4, Bool.or_self] <;> decide
    | number t n j =>
      have h := (val_bd _ he).2.2 rfl
      cases s <;> simp [Datum.order, Datum.isNaN]
      · exact (cmp_int_gt (by simp only [valD] at h ⊢; exact h.2)).symm
      · exact (cmp_int_lt (by simp only [valD] at h ⊢; exact h.1)).symm
  | number s m i =>
    have h1 := (val_bd _ hd).2.2 rfl
    cases e with
    | nan _ _ => simp [Datum.order, Datum.isNaN]
    | infinity t =>
      cases t <;> simp [Datum.order, Datum.isNaN]
      · exact (cmp_int_lt (by simp only [valD] at h1 ⊢; exact h1.2)).symm
      · exact (cmp_int_gt (by simp only [valD] at h1 ⊢; exact h1.1)).symm
    | number t n j =>
      obtain ⟨_, hi, _⟩ := hd
      obtain ⟨_, hj, _⟩ := he
      simp only [Datum.order, Datum.isNaN, valD, Bool.or_self]
      have e1 : (i + 1074).toNat = (i - min i j).toNat + (min i j + 1074).toNat := by omega
      have e2 : (j + 1074).toNat = (j - min i j).toNat + (min i j + 1074).toNat := by omega
      rw [e1, e2, signed_scale, signed_scale, cmp_scale _ _ _ (Int.pow_pos (by omega))]
      rfl

def nanB (a : Nat) : Bool := FloatKind.f64.format.order a a != some .eq
theorem nanB_eq (a : Nat) : nanB a = (rdF a).isNaN := by
  unfold nanB
  show (Datum.order (rdF a) (rdF a) != some .eq) = _
  rw [order_val _ _ (read_fine a).1 (read_fine a).1]
  cases h : (rdF a).isNaN <;> simp [cmp_int_eq]
def valF (a : Nat) : Int := valD (rdF a)
theorem orderF (a b : Nat) : FloatKind.f64.format.order a b = if nanB a || nanB b then none else some (compare (valF a) (valF b)) := by
  rw [nanB_eq, nanB_eq]; exact order_val _ _ (read_fine a).1 (read_fine b).1

def cls (a : Nat) : Int := if nanB a then 1 else 0
def whole (a b : Int) : Int := if wrap64 (a - b) < 0 then -1 else if 0 < wrap64 (a - b) then 1 else 0
/-- the sign bit -/
def signB (a : Nat) : Bool := decide (wrap64 (a : Int) < 0)
theorem signB_eq (a : Nat) : signB a = sgB a := by
  unfold signB sgB wrap64
  rw [Bool.eq_iff_iff]; simp; omega
def zeroB (a : Nat) : Bool := FloatKind.f64.format.order a 0 == some .eq
theorem val0 : valF 0 = 0 := by decide +kernel
theorem nan0 : nanB 0 = false := by decide +kernel
theorem zeroB_eq (a : Nat) : zeroB a = (!nanB a && decide (valF a = 0)) := by
  unfold zeroB
  rw [orderF, val0, nan0]
  cases h : nanB a
  · rcases Int.lt_trichotomy (valF a) 0 with g | g | g
    · rw [cmp_int_lt g]; simp; omega
    · rw [g, cmp_int_eq]; simp
    · rw [cmp_int_gt g]; simp; omega
  · simp
def sideI (a : Nat) : Int := if zeroB a && signB a then -1 else 0
def ltB (a b : Nat) : Bool := FloatKind.f64.format.order a b == some .lt
def gtB (a b : Nat) : Bool := FloatKind.f64.format.order a b == some .gt
theorem ltB_eq (a b : Nat) : ltB a b = (!nanB a && !nanB b && decide (valF a < valF b)) := by
  unfold ltB
  rw [orderF]
  cases h : nanB a <;> cases h2 : nanB b <;> simp
  rcases Int.lt_trichotomy (valF a) (valF b) with g | g | g
  · rw [cmp_int_lt g]; simp; omega
  · rw [g, cmp_int_eq]; simp
  · rw [cmp_int_gt g]; simp; omega
theorem gtB_eq (a b : Nat) : gtB a b = (!nanB a && !nanB b && decide (valF b < valF a)) := by
  unfold gtB
  rw [orderF]
  cases h : nanB a <;> cases h2 : nanB b <;> simp
  rcases Int.lt_trichotomy (valF a) (valF b) with g | g | g
  · rw [cmp_int_lt g]; simp; omega
  · rw [g, cmp_int_eq]; simp
  · rw [cmp_int_gt g]; simp; omega

/-- what package rank's Cmp tells -/
def cmpF (a b : Nat) : Int :=
  if cls a + cls b > 0 then whole (cls a) (cls b) else if ltB a b = true then -1 else if gtB a b = true then 1 else whole (sideI a) (sideI b)

/-- a float's place among all -/
def keyF (a : Nat) : Int := if nanB a then 2 * big + 2 else 2 * valF a - (if zeroB a && signB a then 1 else 0)
def cmpI (x y : Int) : Int := if x < y then -1 else if y < x then 1 else 0

theorem cmpF_key (a b : Nat) : cmpF a b = cmpI (keyF a) (keyF b) := by
  have ha := val_bd _ (read_fine a).1
  have hb := val_bd _ (read_fine b).1
  change -big ≤ valF a ∧ valF a ≤ big ∧ _ at ha
  change -big ≤ valF b ∧ valF b ≤ big ∧ _ at hb
  unfold cmpF keyF cmpI cls
  cases h1 : nanB a <;> cases h2 : nanB b <;> simp only [ltB_eq, gtB_eq, h1, h2, sideI, zeroB_eq] <;> simp [whole, wrap64]
  · generalize valF a = x at *
    generalize valF b = y at *
    cases signB a <;> cases signB b <;> by_cases g : x = 0 <;> by_cases g' : y = 0 <;> simp [g, g'] <;> (repeat' split) <;> omega
  all_goals (repeat' split) <;> omega

/-- is it -0? -/
def minusB (a : Nat) : Bool := zeroB a && signB a
/-- what the document's Cmp tells -/
def refF (a b : Nat) : Int :=
  if nanB a && nanB b then 0 else if nanB a || gtB a b then 1 else if nanB b || ltB a b then -1 else if minusB a == minusB b then 0 else if minusB a then -1 else 1

theorem refF_key (a b : Nat) : refF a b = cmpI (keyF a) (keyF b) := by
  have ha := val_bd _ (read_fine a).1
  have hb := val_bd _ (read_fine b).1
  change -big ≤ valF a ∧ valF a ≤ big ∧ _ at ha
  change -big ≤ valF b ∧ valF b ≤ big ∧ _ at hb
  unfold refF keyF cmpI minusB
  cases h1 : nanB a <;> cases h2 : nanB b <;> simp only [ltB_eq, gtB_eq, h1, h2, zeroB_eq] <;> simp
  · generalize valF a = x at *
    generalize valF b = y at *
    cases signB a <;> cases signB b <;> by_cases g : x = 0 <;> by_cases g' : y = 0 <;> simp [g, g'] <;> (repeat' split) <;> omega
  all_goals (repeat' split) <;> omega

theorem cmpF_bd (a b : Nat) : -1 ≤ cmpF a b ∧ cmpF a b ≤ 1 := by
  rw [cmpF_key]; unfold cmpI; split
  · omega
  · split <;> omega
theorem cmpF_turn (a b : Nat) : cmpF b a = 0 - cmpF a b := by
  rw [cmpF_key, cmpF_key]; unfold cmpI; split <;> split <;> omega
theorem cmpF_on (a b c : Nat) (h1 : cmpF a b ≤ 0) (h2 : cmpF b c ≤ 0) : cmpF a c ≤ 0 := by
  rw [cmpF_key] at *; unfold cmpI at *
  (repeat' split) <;> (repeat' split at h1) <;> (repeat' split at h2) <;> omega

theorem cmpF_ref (a b : Nat) : cmpF a b = refF a b := by rw [cmpF_key, refF_key]

def pinf : Nat := 9218868437227405312
def ninf : Nat := 18442240474082181120

theorem val_zero {s : Bool} {m : Nat} {i : Int} (h : valD (.number s m i) = 0) : m = 0 := by
  simp only [valD, signed_eq] at h
  have h2 : (2 : Int) ^ (i + 1074).toNat ≠ 0 := by
    have : (0 : Int) < 2 ^ (i + 1074).toNat := Int.pow_pos (by omega)
    omega
  rcases Int.mul_eq_zero.1 h with h | h
  · cases s <;> simp at h
  · rcases Int.mul_eq_zero.1 h with h | h
    · omega
    · exact absurd h h2

theorem rd_zero {a : Nat} (h : zeroB a = true) : ∃ i, rdF a = .number (signB a) 0 i := by
  rw [zeroB_eq, nanB_eq] at h
  have hn := (read_fine a).2
  have hp := big_pos
  unfold valF at h
  rw [signB_eq]
  cases hr : rdF a with
  | nan s t => rw [hr] at h; simp [Datum.isNaN] at h
  | infinity s => rw [hr] at h; cases s <;> simp [Datum.isNaN, valD] at h <;> omega
  | number s m i =>
    rw [hr] at h hn
    simp only [Datum.isNaN, Bool.not_false, Bool.true_and, decide_eq_true_eq] at h
    obtain rfl := val_zero h
    simp only [Datum.neg] at hn
    exact ⟨i, by rw [hn]⟩

theorem quo_one {a : Nat} (h : zeroB a = true) : floatBits .quo .f64 4607182418800017408 a = some (if signB a then ninf else pinf) := by
  obtain ⟨i, hi⟩ := rd_zero h
  show (((rdF 4607182418800017408).quotient _ (rdF a)).map Ieee.double.write) = _
  have e : rdF 4607182418800017408 = .number false 4503599627370496 (-52) := by decide +kernel
  rw [e, hi]
  have w1 : Ieee.double.write (.infinity true) = ninf := by decide +kernel
  have w0 : Ieee.double.write (.infinity false) = pinf := by decide +kernel
  cases signB a <;> simp [Datum.quotient, w1, w0]

theorem lt_ninf : ltB ninf 0 = true := by decide +kernel
theorem lt_pinf : ltB pinf 0 = false := by decide +kernel
end Go.Proofs.Ytdhklfbelplbcaa
namespace Go.Proofs.Ytdhklfbelplbcaa
set_option linter.unusedVariables false
set_option linter.unusedSimpArgs false
open Go.RowKit

theorem ret_int {k : IntKind} {a b : Int} (h : a = b) : Ending.returned (.int k a) = .returned (.int k b) := by rw [h]
theorem ret_bool {a b : Bool} (h : a = b) : Ending.returned (.bool a) = .returned (.bool b) := by rw [h]

/-! ### worlds -/
theorem bl_alloc {w W : World} (h : Below w.heap.size w W) (o : Obj) : Below w.heap.size w (W.alloc o) := h.alloc h.size o
theorem bl_drewN {B : Nat} {w W : World} (h : Below B w W) (n : Nat) : Below B w (W.drewN n) := ⟨h.os, h.tape, h.output, h.size, h.block⟩
theorem bl_then {B : Nat} {w w1 w2 : World} (h : Below B w w1) (hB : B ≤ w1.heap.size) (k : Below w1.heap.size w1 w2) : Below B w w2 :=
  h.trans ⟨k.os, k.tape, k.output, k.size, fun i hi => k.block i (Nat.lt_of_lt_of_le hi hB)⟩
theorem bl_cell {w w1 : World} (h : Below w.heap.size w w1) {a : Addr} {v : Value} (hc : w.cell? a = some v) : w1.cell? a = some v := (h.cell (World.block_lt_of_cell? w a hc)).trans hc
theorem bcell {W w1 : World} (hb : Below W.heap.size W w1) : (∀ b o, b < W.heap.size → w1.cell? ⟨b, o, none⟩ = W.cell? ⟨b, o, none⟩) ∧ (∀ b o, b < W.heap.size → w1.frozen? ⟨b, o, none⟩ = W.frozen? ⟨b, o, none⟩) :=
  ⟨fun b o h => hb.cell (p := ⟨b, o, none⟩) h, fun b o h => hb.frozen (p := ⟨b, o, none⟩) h⟩
theorem add_plain (g j : Nat) : (⟨g, 0, none⟩ : Addr).add j = ⟨g, j, none⟩ := by unfold Addr.add; split <;> simp_all

/-- a callee's contract, met in a region that draws its order: it draws nothing -/
theorem quiet_same {P : Program} {f : FuncId} {args : Array Value} {w : World} {n : Nat} {v : Value}
    (h : Calls P f args (w.drewN n) fun e w' => e = .returned v ∧ w.drewN n = w') : Calls P f args (w.drewN n) fun e w'' => e = .returned v ∧ ∃ m, w'' = w.drewN m :=
  h.mono fun _ _ ⟨he, hm⟩ => ⟨he, n, hm.symm⟩

theorem quiet_add {P : Program} {f : FuncId} {args : Array Value} {w : World} {a n : Nat} {v : Value}
    (h : Calls P f args (w.drewN (a + n)) fun e w' => e = .returned v ∧ w.drewN (a + n) = w') :
    Calls P f args (w.drewN (a + n)) fun e w'' => e = .returned v ∧ ∃ m, w'' = w.drewN (a + m) :=
  h.mono fun _ _ ⟨he, hm⟩ => ⟨he, n, hm.symm⟩

theorem blk_alloc {w : World} {g : Nat} {o : Obj} (h : w.heap[g]? = some o) (o' : Obj) : (w.alloc o').heap[g]? = some o := (Below.heap_alloc w o' g (Array.getElem?_eq_some_iff.1 h).1).trans h

/-! ### rows of the call's own -/
theorem own_drewN {w : World} {B e size n : Nat} {v : Value} {xs : List Value} (h : w.ownsRow B e size v n xs) (q : Nat) : (w.drewN q).ownsRow B e size v n xs := h
theorem own_nil (w : World) (base : Nat) (e : TypeId) (size : Nat) : w.ownsRow base e size (.slice none 0 0) 0 [] := ⟨by simp, .inl ⟨rfl, rfl⟩⟩
theorem own_base {w : World} {base : Nat} {e : TypeId} {size n : Nat} {v : Value} {xs : List Value} (h : w.ownsRow base e size v n xs) : ∀ k, v.ownBlock = some k → base ≤ k := fun k hk => (h.lt k hk).1
theorem own_below {w w1 : World} {base : Nat} {e : TypeId} {size n : Nat} {v : Value} {xs : List Value} (h : w.ownsRow base e size v n xs) (hb : Below w.heap.size w w1) : w1.ownsRow base e size v n xs :=
  h.kept (row := none) ⟨hb.os, hb.tape, hb.output, hb.size, fun i hi _ => hb.block i hi⟩ (by cases v.ownBlock <;> simp)
theorem own_weaken {w : World} {base base' : Nat} {e : TypeId} {size n : Nat} {v : Value} {xs : List Value} (h : w.ownsRow base e size v n xs) (hb : base' ≤ base) : w.ownsRow base' e size v n xs := by
  obtain ⟨h1, h2⟩ := h
  refine ⟨h1, ?_⟩
  rcases h2 with h2 | ⟨g, cap, cur, h3, h4, h5⟩
  · exact .inl h2
  · exact .inr ⟨g, cap, cur, h3, by omega, h5⟩

theorem own_lit (W : World) (base : Nat) (e : TypeId) (size n : Nat) (xs : List Value) (hb : base ≤ W.heap.size) (hl : xs.length = n * size) (hm : n ≤ 9223372036854775807) :
    (W.alloc (.cells xs.toArray e)).ownsRow base e size (.slice (some ⟨W.heap.size, 0, none⟩) n n) n xs :=
  ⟨hl, .inr ⟨W.heap.size, n, xs.toArray, rfl, hb, heap_alloc_new W _, Nat.le_refl _, by simp only [maxLen]; omega, by simpa using hl, by rw [← hl]; simp⟩⟩

theorem grown_refl (w : World) (row : Option Nat) : w.grownBy w row := ⟨rfl, rfl, rfl, Nat.le_refl _, fun _ _ _ => rfl⟩
theorem grown_then {a b c : World} {row row1 : Option Nat} (h : a.grownBy b row) (hr : row1 = row ∨ ∃ k, row1 = some k ∧ a.heap.size ≤ k) (k : b.grownBy c row1) : a.grownBy c row := by
  refine ⟨k.os.trans h.os, k.tape.trans h.tape, k.output.trans h.output, Nat.le_trans h.size k.size, fun i hi hne => ?_⟩
  refine (k.block i (Nat.lt_of_lt_of_le hi h.size) ?_).trans (h.block i hi hne)
  rcases hr with rfl | ⟨j, rfl, hj⟩
  · exact hne
  · intro e; cases e; omega
theorem at_then {a b : World} {v v1 v2 : Value} (hs : a.heap.size ≤ b.heap.size) (h : v1.ownBlock = v.ownBlock ∨ ∃ k, v1.ownBlock = some k ∧ a.heap.size ≤ k) (k : v2.ownBlock = v1.ownBlock ∨ ∃ j, v2.ownBlock = some j ∧ b.heap.size ≤ j) :
    v2.ownBlock = v.ownBlock ∨ ∃ k, v2.ownBlock = some k ∧ a.heap.size ≤ k := by
  rcases k with k | ⟨j, k, hj⟩
  · rw [k]; exact h
  · exact .inr ⟨j, k, by omega⟩

theorem own_row {W : World} {base g : Nat} {e : TypeId} {size n : Nat} {xs : List Value} (h : W.heap[g]? = some (.cells xs.toArray e (0, 0))) (hb : base ≤ g) (hl : xs.length = n * size) (hm : n ≤ 9223372036854775807) :
    W.ownsRow base e size (.slice (some ⟨g, 0, none⟩) n n) n xs :=
  ⟨hl, .inr ⟨g, n, xs.toArray, rfl, hb, h, Nat.le_refl _, by simp only [maxLen]; omega, by simpa using hl, by rw [← hl]; simp⟩⟩

/-! ### slices that read as values -/
/-- from this address on these cells lie -/
def Rd (w : World) (A : Option Addr) (xs : List Value) : Prop := ∀ i, ∀ h : i < xs.length, ∃ ad, A = some ad ∧ w.cell? (ad.add i) = some xs[i]
theorem Rd.below {w w' : World} {A : Option Addr} {xs : List Value} (h : Rd w A xs) (hb : Below w.heap.size w w') : Rd w' A xs := by
  intro i hi
  obtain ⟨ad, h1, h2⟩ := h i hi
  exact ⟨ad, h1, bl_cell hb h2⟩
theorem Rd.nil (w : World) (A : Option Addr) : Rd w A [] := fun i hi => by simp at hi
theorem Rd.get {w : World} {ad : Addr} {xs : List Value} (h : Rd w (some ad) xs) (i : Nat) (hi : i < xs.length) : w.cell? (ad.add i) = some xs[i] := by
  obtain ⟨ad', h1, h2⟩ := h i hi
  cases h1; exact h2
theorem Rd.own {w : World} {base n : Nat} {e : TypeId} {size : Nat} {v : Value} {xs : List Value} (h : w.ownsRow base e size v n xs) :
    ∃ A c, v = .slice A n c ∧ n ≤ c ∧ c ≤ 9223372036854775807 ∧ Rd w A xs ∧ (A = none → n = 0 ∧ c = 0) := by
  have hl := h.1
  rcases h.2 with ⟨rfl, rfl⟩ | ⟨g, cap, cur, rfl, hb, hg, hc, hm, _⟩
  · exact ⟨none, 0, rfl, Nat.le_refl _, by omega, fun i hi => by omega, fun _ => ⟨rfl, rfl⟩⟩
  · exact ⟨_, cap, rfl, hc, by simp only [maxLen] at hm; omega, fun i hi => ⟨_, rfl, h.cells rfl i _ (by simp [hi])⟩, fun e => by cases e⟩
theorem rd_new (w : World) (xs : List Value) (t : TypeId) : Rd (w.alloc (.cells xs.toArray t)) (some ⟨w.heap.size, 0, none⟩) xs := by
  intro i hi
  refine ⟨_, rfl, ?_⟩
  rw [add_plain, cell_of_row _ _ i xs.toArray t (0, 0) (heap_alloc_new w _)]
  simp [hi]

theorem Rd.take {w : World} {A : Option Addr} {xs : List Value} (h : Rd w A xs) (k : Nat) : Rd w A (xs.take k) := by
  intro i hi
  obtain ⟨ad, h1, h2⟩ := h i (by simp at hi; omega)
  exact ⟨ad, h1, by rw [List.getElem_take]; exact h2⟩
theorem Rd.drop {w : World} {g off : Nat} {xs : List Value} (h : Rd w (some ⟨g, off, none⟩) xs) (k : Nat) : Rd w (some ⟨g, off + k, none⟩) (xs.drop k) := by
  intro i hi
  simp at hi
  have h2 := h.get (k + i) (by omega)
  refine ⟨_, rfl, ?_⟩
  have e : (⟨g, off + k, none⟩ : Addr).add i = (⟨g, off, none⟩ : Addr).add (k + i) := by unfold Addr.add; split <;> split <;> simp_all <;> omega
  rw [e, h2, List.getElem_drop]
theorem add_add (a : Addr) (k i : Nat) : (a.add k).add i = a.add (k + i) := by
  unfold Addr.add
  by_cases hk : k = 0 <;> by_cases hi : i = 0 <;> simp [hk, hi] <;> omega
theorem Rd.dropA {w : World} {ad : Addr} {xs : List Value} (h : Rd w (some ad) xs) (k : Nat) : Rd w (some (ad.add k)) (xs.drop k) := by
  intro i hi
  simp at hi
  have h2 := h.get (k + i) (by omega)
  exact ⟨_, rfl, by rw [add_add, h2, List.getElem_drop]⟩
theorem Rd.cells {w : World} {ad : Addr} {xs : List Value} (h : Rd w (some ad) xs) : ∀ j u, xs[j]? = some u → w.cell? (ad.add j) = some u := by
  intro j u hj
  obtain ⟨hj1, hj2⟩ := List.getElem?_eq_some_iff.1 hj
  rw [h.get j hj1, hj2]

theorem rd_row {w : World} {g : Nat} {xs : List Value} {t : TypeId} (h : w.heap[g]? = some (.cells xs.toArray t (0, 0))) : Rd w (some ⟨g, 0, none⟩) xs := by
  intro i hi
  refine ⟨_, rfl, ?_⟩
  rw [add_plain, cell_of_row _ _ i xs.toArray t (0, 0) h]
  simp [hi]
theorem bl_row {w w' : World} {g : Nat} {o : Obj} (hb : Below w.heap.size w w') (h : w.heap[g]? = some o) : w'.heap[g]? = some o := (hb.block g (Array.getElem?_eq_some_iff.1 h).1).trans h

/-- a slice of values of one cell each, told by a function -/
def enc {α : Type} (f : α → Value) (l : List α) : List Value := l.map f
theorem enc_length {α : Type} (f : α → Value) (l : List α) : (enc f l).length = l.length := by simp [enc]
theorem enc_append {α : Type} (f : α → Value) (l m : List α) : enc f (l ++ m) = enc f l ++ enc f m := by simp [enc]
theorem Rd.at {α : Type} {f : α → Value} {w : World} {A : Option Addr} {l : List α} (h : Rd w A (enc f l)) (i : Nat) (hi : i < l.length) : ∃ ad x, A = some ad ∧ w.cell? (ad.add i) = some (f x) ∧ x = l[i] := by
  obtain ⟨ad, h1, h2⟩ := h i (by simpa [enc] using hi)
  exact ⟨ad, _, h1, by simpa [enc] using h2, rfl⟩

/-! ### make -/
def zer (z : Value) (n : Nat) : List Value := List.replicate n z
theorem zer_length (z : Value) (n : Nat) : (zer z n).length = n := by simp [zer]
theorem mk_row {P : Program} (t e : TypeId) (z : Value) (bytes : Nat) (ht : P.underlying t = some (.slice e)) (hinfo : (P.info? e).map (fun i => (i.zero, i.size, i.bytes)) = some (some z, 1, bytes)) (hz1 : z.cells = #[z])
    (n : Nat) (hbytes : bytes * n ≤ 281474976710656) (h63 : n ≤ 9223372036854775807) (w : World) :
    (Instr.makeSlice t (.int .i64 (n : Int)) (.int .i64 (n : Int))).run P w = .ok (.slice (some ⟨w.heap.size, 0, none⟩) n n) (w.alloc (.cells (zer z n).toArray e)) := by
  rw [run_make_row' t e z bytes ht hinfo hz1 .i64 .i64 n hbytes h63 w]
  have : madeCells #[z] n = (zer z n).toArray := by
    have := toList_madeCells_one z n
    unfold zer
    rw [← this]
  rw [this]

/-! ### append -/
section
variable {P : Program} {ops : Array Oper} {rest : List Oper} {o : Oper} {a : Act} {Q : Exit → Act → World → Prop}
/-- append(s, x...) onto a row of the call's own -/
theorem app_src {w0 W : World} (base : Nat) (hw : Region.wanted o (yielded ops a.tmps) = true) (s x : Operand) (t e : TypeId) (z : Value) (size bytes : Nat)
    (ho : o.op = .call { callee := .builtin .append, args := #[s, x], argTypes := #[t, t] })
    (ht : P.underlying t = some (.slice e)) (hinfo : (P.info? e).map (fun i => (i.zero, i.size, i.bytes)) = some (some z, size, bytes)) (hz : z.cells.size = size) (hsz : 0 < size) (hb0 : 0 < bytes)
    (v : Value) (n : Nat) (xs : List Value) (hs : a.eval s = v) (HO : W.ownsRow base e size v n xs) (HB : Below base w0 W) (hbase : base ≤ W.heap.size)
    (A : Option Addr) (m c : Nat) (news : List Value) (hx : a.eval x = .slice A m c) (hl : news.length = m * size) (hnews : Rd W A news) (hA : A = none → m = 0 ∧ c = 0) (h1 : ∀ u ∈ news, u.oneCell' = true)
    (hbytes : (n + m) * bytes ≤ 140737488355328)
    (h : ∀ v1 w1, w1.ownsRow base e size v1 (n + m) (xs ++ news) → Below base w0 w1 → W.grownBy w1 v.ownBlock → (v1.ownBlock = v.ownBlock ∨ ∃ b, v1.ownBlock = some b ∧ W.heap.size ≤ b) → wpList P ops Q rest (a.put o.dst v1) w1) :
    wpList P ops Q (o :: rest) a W := by
  obtain ⟨i0, hi, hzz⟩ := Option.map_eq_some_iff.1 hinfo
  simp only [Prod.mk.injEq] at hzz
  obtain ⟨hz0, hz1, hz2⟩ := hzz
  have hlen : n + m ≤ 140737488355328 := Nat.le_trans (Nat.le_mul_of_pos_right _ hb0) hbytes
  refine wpList_step fun K hK => ?_
  rw [if_pos hw]
  cases A with
  | none =>
    obtain ⟨rfl, rfl⟩ := hA rfl
    have hn : news = [] := List.eq_nil_of_length_eq_zero (by simpa using hl)
    subst hn
    have hrun := run_append_owned_none (P := P) (w := W) base t o.type e i0 size ht hi v n xs HO
    unfold Oper.wp
    simp [execOp, ho, resolve, invoke, builtin, hs, hx, hrun, Result.andThen]
    exact hK _ _ (h v W (by simpa using HO) HB ⟨rfl, rfl, rfl, Nat.le_refl _, fun _ _ _ => rfl⟩ (.inl rfl))
  | some ad =>
    have hn' : ∀ j u, news[j]? = some u → W.cell? (ad.add j) = some u := by
      intro j u hj
      obtain ⟨hj1, hj2⟩ := List.getElem?_eq_some_iff.1 hj
      rw [hnews.get j hj1, hj2]
    obtain ⟨v1, w1, hr, hown, hg, _, hat⟩ := run_append_own_at (P := P) W base t o.type e i0 z size bytes ht hi hz0 hz1 hz2 hz hsz v n xs HO ad m c news hl hn' h1 (by simp only [maxLen]; omega) hbytes hbase
    unfold Oper.wp execOp
    simp only [ho, resolve, invoke, builtin, Sem.run_bind, Sem.run_pure, Result.andThen_ok, List.map_toArray, List.map_cons, List.map_nil, hs, hx, hr]
    refine hK _ _ (h v1 w1 hown (HB.grown hg hbase (own_base HO)) hg ?_)
    rcases hat with hat | hat
    · exact .inl hat
    · exact .inr ⟨_, hat, Nat.le_refl _⟩

/-- append(s, y1, y2 ..): what is laid behind it lies in a block of its own, new -/
theorem app_lit {w0 W : World} (base : Nat) (hw : Region.wanted o (yielded ops a.tmps) = true) (s x : Operand) (t e : TypeId) (z : Value) (size bytes : Nat)
    (ho : o.op = .call { callee := .builtin .append, args := #[s, x], argTypes := #[t, t] })
    (ht : P.underlying t = some (.slice e)) (hinfo : (P.info? e).map (fun i => (i.zero, i.size, i.bytes)) = some (some z, size, bytes)) (hz : z.cells.size = size) (hsz : 0 < size) (hb0 : 0 < bytes)
    (v : Value) (n : Nat) (xs : List Value) (hs : a.eval s = v) (HO : W.ownsRow base e size v n xs) (HB : Below base w0 W) (hbase : base ≤ W.heap.size)
    (m c : Nat) (news : List Value) (hx : a.eval x = .slice (some ⟨W.heap.size, 0, none⟩) m c) (hl : news.length = m * size) (h1 : ∀ u ∈ news, u.oneCell' = true)
    (hbytes : (n + m) * bytes ≤ 140737488355328)
    (h : ∀ v1 w1, w1.ownsRow base e size v1 (n + m) (xs ++ news) → Below base w0 w1 → W.grownBy w1 v.ownBlock → (v1.ownBlock = v.ownBlock ∨ ∃ b, v1.ownBlock = some b ∧ W.heap.size ≤ b) → wpList P ops Q rest (a.put o.dst v1) w1) :
    wpList P ops Q (o :: rest) a (W.alloc (.cells news.toArray e)) := by
  refine app_src (w0 := w0) base hw s x t e z size bytes ho ht hinfo hz hsz hb0 v n xs hs (HO.alloc _) (HB.alloc hbase _) (by simp; omega) _ m c news hx hl (rd_new W news e) (fun e => by cases e) h1 hbytes ?_
  intro v1 w1 hown hB hg hat
  refine h v1 w1 hown hB (World.grownBy.trans (World.grownBy_alloc W _ _) hg) ?_
  rcases hat with hat | ⟨b, hb1, hb2⟩
  · exact .inl hat
  · exact .inr ⟨b, hb1, by simp at hb2; omega⟩
end

/-! ### a struct stored into the middle of a row -/
theorem run_store_mid {P : Program} (w : World) (g off : Nat) (t ty : TypeId) (cur : List Value) (cells : Array Value) (hg : w.heap[g]? = some (.cells cur.toArray t (0, 0))) (hi : (P.info? ty).map (·.size) = some cells.size)
    (hfit : off + cells.size ≤ cur.length) (h1 : cells.all (·.oneCell') = true) :
    (storeVar ty ⟨g, off, none⟩ (.agg cells)).run P w = .ok () (w.setRow g (splice cur off cells.toList).toArray) := by
  have := run_storeCells_at (P := P) g off t cells.toList 0 cur.toArray w hg (by simpa using hfit) (fun v hv => (Array.all_eq_true_iff_forall_mem.1 h1) v (by simpa using hv))
  cases hq : P.info? ty with
  | none => simp [hq] at hi
  | some i =>
    have hs : cells.size = i.size := by simp [hq] at hi; omega
    simp [storeVar, sizeOf, typeInfo, hq, Value.cells, hs, this, splice]
section
variable {P : Program} {ops : Array Oper} {rest : List Oper} {o : Oper} {a : Act} {Q : Exit → Act → World → Prop}
theorem store_mid {w : World} (hw : Region.wanted o (yielded ops a.tmps) = true) (ty : TypeId) (x y : Operand) (ho : o.op = .store ty x y)
    (g off : Nat) (cells : Array Value) (hx : a.eval x = .pointer (some ⟨g, off, none⟩)) (hy : a.eval y = .agg cells)
    (t : TypeId) (cur : List Value) (hg : w.heap[g]? = some (.cells cur.toArray t (0, 0))) (hi : (P.info? ty).map (·.size) = some cells.size)
    (hfit : off + cells.size ≤ cur.length) (h1 : cells.all (·.oneCell') = true)
    (h : wpList P ops Q rest (a.put o.dst undef) (w.setRow g (splice cur off cells.toList).toArray)) : wpList P ops Q (o :: rest) a w := by
  refine wpList_step fun K hK => ?_
  rw [if_pos hw]
  unfold Oper.wp execOp
  simp only [ho, hx, hy, Instr.storeAt, Instr.sureAddr, Sem.run_bind, Sem.run_pure, Result.andThen_ok, run_store_mid w g off t ty cur cells hg hi hfit h1]
  exact hK _ _ h
end

/-! ### results that lie in memory -/
section
variable {P : Program}
theorem res_c {fn : Func} {p : Tmp} {ty : TypeId} (h : fn.results = #[.cell p ty]) (tmps : Array Value) (w : World) (g : Nat) (t : TypeId) (cs : Array Value) (fr : Nat × Nat) (d : TypeDesc)
    (hp : tmps.getD p undef = .pointer (some ⟨g, 0, none⟩)) (hg : w.heap[g]? = some (.cells cs t fr))
    (hu : P.underlying ty = some d) (hd : (match d with | .struct _ | .array _ _ => true | _ => false) = true) (hi : (P.info? ty).map (·.size) = some cs.size) :
    (results fn tmps).run P w = .ok (.agg cs) w := by
  have hp' : tmps[p]?.getD undef = .pointer (some ⟨g, 0, none⟩) := by simpa using hp
  simp [results, h, hp', asAddr, run_loadVar_row w g t ty cs fr d hg hu hd hi]
theorem res_ct {fn : Func} {p u : Tmp} {ty : TypeId} (h : fn.results = #[.cell p ty, .tmp u]) (tmps : Array Value) (w : World) (g : Nat) (t : TypeId) (cs : Array Value) (fr : Nat × Nat) (d : TypeDesc)
    (hp : tmps.getD p undef = .pointer (some ⟨g, 0, none⟩)) (hg : w.heap[g]? = some (.cells cs t fr))
    (hu : P.underlying ty = some d) (hd : (match d with | .struct _ | .array _ _ => true | _ => false) = true) (hi : (P.info? ty).map (·.size) = some cs.size) :
    (results fn tmps).run P w = .ok (.tuple #[.agg cs, tmps.getD u undef]) w := by
  have hp' : tmps[p]?.getD undef = .pointer (some ⟨g, 0, none⟩) := by simpa using hp
  simp [results, h, hp', asAddr, run_loadVar_row w g t ty cs fr d hg hu hd hi]
end
end Go.Proofs.Ytdhklfbelplbcaa
