/- Orders of places: plain laws of sorting in place. No program's text. -/
import Derived.Test.YtdhklfbelplbcaaFl
namespace Go.Proofs.Ytdhklfbelplbcaa
set_option linter.unusedVariables false
set_option linter.unusedSimpArgs false
open Go.RowKit

/-- the heavier first, of equals the first place -/
def LtK (K : Nat → Int) (x y : Nat) : Prop := K y < K x ∨ (K x = K y ∧ x < y)
theorem LtK.trans {K : Nat → Int} {x y z : Nat} (h : LtK K x y) (k : LtK K y z) : LtK K x z := by unfold LtK at *; omega
theorem LtK.asymm {K : Nat → Int} {x y : Nat} (h : LtK K x y) : ¬ LtK K y x := by unfold LtK at *; omega
theorem LtK.of_not {K : Nat → Int} {x y : Nat} (hne : x ≠ y) (h : ¬ LtK K x y) : LtK K y x := by
  unfold LtK at h ⊢
  have h1 : ¬ K y < K x := fun e => h (.inl e)
  have h2 : K x = K y → ¬ x < y := fun e e2 => h (.inr ⟨e, e2⟩)
  by_cases e : K x = K y
  · exact .inr ⟨e.symm, by have := h2 e; omega⟩
  · exact .inl (by omega)
theorem LtK.ne {K : Nat → Int} {x y : Nat} (h : LtK K x y) : x ≠ y := by
  rintro rfl
  unfold LtK at h
  omega
/-- what the comparison says of two places -/
def cmpK (K : Nat → Int) (x y : Nat) : Int := cmpI (K y) (K x)
theorem cmpK_lt {K : Nat → Int} {x y : Nat} (h : y < x) : cmpK K x y < 0 ↔ LtK K x y := by
  unfold cmpK cmpI LtK
  by_cases h1 : K y < K x
  · simp [h1]
  · by_cases h2 : K x < K y
    · simp [h1, h2]; omega
    · simp [h1, h2]; omega
theorem cmpK_bd (K : Nat → Int) (x y : Nat) : -1 ≤ cmpK K x y ∧ cmpK K x y ≤ 1 := by
  unfold cmpK cmpI; split <;> (try split) <;> omega

def upd (f : Nat → Nat) (i v : Nat) : Nat → Nat := fun p => if p = i then v else f p
def swp (f : Nat → Nat) (i j : Nat) : Nat → Nat := upd (upd f i (f j)) j (f i)
theorem swp_at (f : Nat → Nat) (i j p : Nat) : swp f i j p = if p = j then f i else if p = i then f j else f p := by
  unfold swp upd; rfl
def PermN (n : Nat) (f : Nat → Nat) : Prop := (∀ p, p < n → f p < n) ∧ (∀ p q, p < n → q < n → f p = f q → p = q)
theorem PermN.swp {n : Nat} {f : Nat → Nat} (h : PermN n f) {i j : Nat} (hi : i < n) (hj : j < n) : PermN n (swp f i j) := by
  obtain ⟨h1, h2⟩ := h
  refine ⟨fun p hp => ?_, fun p q hp hq e => ?_⟩
  · rw [swp_at]
    split
    · exact h1 i hi
    · split
      · exact h1 j hj
      · exact h1 p hp
  · rw [swp_at, swp_at] at e
    split at e <;> split at e <;> (try split at e) <;> (try split at e)
    all_goals (first | omega | (have := h2 _ _ hi hj e; omega) | (have := h2 _ _ hi hq e; omega) | (have := h2 _ _ hj hi e; omega) | (have := h2 _ _ hj hq e; omega) | (have := h2 _ _ hp hi e; omega) | (have := h2 _ _ hp hj e; omega) | (have := h2 _ _ hp hq e; omega))
theorem PermN.ne {n : Nat} {f : Nat → Nat} (h : PermN n f) {p q : Nat} (hp : p < n) (hq : q < n) (hne : p ≠ q) : f p ≠ f q := fun e => hne (h.2 p q hp hq e)
/-- a stretch in order -/
def SegS (K : Nat → Int) (f : Nat → Nat) (a b : Nat) : Prop := ∀ p q, a ≤ p → p < q → q < b → LtK K (f p) (f q)

/-! ### insertion -/
/-- the stretch so far is in order -/
def InsO (K : Nat → Int) (n : Nat) (f0 f : Nat → Nat) (a i : Nat) : Prop :=
  (∀ p, ¬ (a ≤ p ∧ p < i) → f p = f0 p) ∧ SegS K f a i ∧ (∀ p, a ≤ p → p < i → a ≤ f p ∧ f p < i) ∧ PermN n f
/-- the place i stands at j on its way down -/
def InsI (K : Nat → Int) (n : Nat) (f0 f : Nat → Nat) (a i j : Nat) : Prop :=
  a ≤ j ∧ j ≤ i ∧ f j = i ∧ (∀ p, ¬ (a ≤ p ∧ p < i + 1) → f p = f0 p) ∧ (∀ p q, a ≤ p → p < q → q < i + 1 → p ≠ j → q ≠ j → LtK K (f p) (f q)) ∧
  (∀ q, j < q → q < i + 1 → LtK K i (f q)) ∧ (∀ p, a ≤ p → p < i + 1 → p ≠ j → a ≤ f p ∧ f p < i) ∧ PermN n f
theorem InsO.start {K : Nat → Int} {n : Nat} {f0 : Nat → Nat} {a : Nat} (h : PermN n f0) (ha : f0 a = a) : InsO K n f0 f0 a (a + 1) :=
  ⟨fun _ _ => rfl, fun p q h1 h2 h3 => by omega, fun p h1 h2 => by have : p = a := by omega
                                                                   subst this; omega, h⟩
theorem InsO.into {K : Nat → Int} {n : Nat} {f0 f : Nat → Nat} {a i : Nat} (h : InsO K n f0 f a i) (hai : a ≤ i) (hi : f0 i = i) : InsI K n f0 f a i i := by
  obtain ⟨h1, h2, h3, h4⟩ := h
  refine ⟨hai, Nat.le_refl _, by rw [h1 i (by omega)]; exact hi, fun p hp => h1 p (by omega), fun p q k1 k2 k3 k4 k5 => h2 p q k1 k2 (by omega), fun q k1 k2 => by omega, fun p k1 k2 k3 => h3 p k1 (by omega), h4⟩
theorem InsI.step {K : Nat → Int} {n : Nat} {f0 f : Nat → Nat} {a i j : Nat} (h : InsI K n f0 f a i j) (haj : a < j) (hin : i < n) (hlt : LtK K i (f (j - 1))) : InsI K n f0 (swp f j (j - 1)) a i (j - 1) := by
  obtain ⟨h1, h2, h3, h4, h5, h6, h7, h8⟩ := h
  have hs := swp_at f j (j - 1)
  refine ⟨by omega, by omega, by rw [hs, if_pos rfl]; exact h3, fun p hp => ?_, fun p q k1 k2 k3 k4 k5 => ?_, fun q k1 k2 => ?_, fun p k1 k2 k3 => ?_, h8.swp (by omega) (by omega)⟩
  · rw [hs, if_neg (by omega), if_neg (by omega)]
    exact h4 p hp
  · rw [hs, hs, if_neg k4, if_neg k5]
    by_cases e : p = j
    · rw [if_pos e, if_neg (by omega)]
      exact h5 (j - 1) q (by omega) (by omega) k3 (by omega) (by omega)
    · rw [if_neg e]
      by_cases e2 : q = j
      · rw [if_pos e2]
        exact h5 p (j - 1) k1 (by omega) (by omega) (by omega) (by omega)
      · rw [if_neg e2]
        exact h5 p q k1 k2 k3 e e2
  · rw [hs, if_neg (by omega)]
    by_cases e : q = j
    · rw [if_pos e]; exact hlt
    · rw [if_neg e]; exact h6 q (by omega) k2
  · rw [hs, if_neg k3]
    by_cases e : p = j
    · rw [if_pos e]; exact h7 (j - 1) (by omega) (by omega) (by omega)
    · rw [if_neg e]; exact h7 p k1 k2 e
theorem InsI.done {K : Nat → Int} {n : Nat} {f0 f : Nat → Nat} {a i j : Nat} (h : InsI K n f0 f a i j) (hend : j = a ∨ LtK K (f (j - 1)) i) : InsO K n f0 f a (i + 1) := by
  obtain ⟨h1, h2, h3, h4, h5, h6, h7, h8⟩ := h
  refine ⟨h4, fun p q k1 k2 k3 => ?_, fun p k1 k2 => ?_, h8⟩
  · by_cases e : p = j
    · subst e
      rw [h3]
      exact h6 q k2 k3
    · by_cases e2 : q = j
      · subst e2
        rw [h3]
        rcases hend with hend | hend
        · omega
        · by_cases e3 : p = q - 1
          · subst e3; exact hend
          · exact (h5 p (q - 1) k1 (by omega) (by omega) e (by omega)).trans hend
      · exact h5 p q k1 k2 k3 e e2
  · by_cases e : p = j
    · subst e
      rw [h3]
      omega
    · have := h7 p k1 k2 e
      omega
theorem InsI.cmp {K : Nat → Int} {n : Nat} {f0 f : Nat → Nat} {a i j : Nat} (h : InsI K n f0 f a i j) (haj : a < j) : f (j - 1) < i := (h.2.2.2.2.2.2.1 (j - 1) (by omega) (by have := h.2.1; omega) (by omega)).2
end Go.Proofs.Ytdhklfbelplbcaa
