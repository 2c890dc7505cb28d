/- The walk of slices' merge in place. -/
import Derived.Test.YtdhklfbelplbcaaGd
namespace Go.Proofs.Ytdhklfbelplbcaa
set_option linter.unusedVariables false
set_option linter.unusedSimpArgs false
open Go.RowKit

/-- one place moved on from a to k -/
def mvUp (f : Nat → Nat) (a k : Nat) : Nat → Nat := fun p => if a ≤ p ∧ p < k then f (p + 1) else if p = k then f a else f p
theorem mvUp_zero (f : Nat → Nat) (a : Nat) : mvUp f a a = f := by
  funext p; unfold mvUp
  rw [if_neg (by omega)]
  by_cases h : p = a
  · rw [if_pos h, h]
  · rw [if_neg h]
theorem mvUp_succ (f : Nat → Nat) (a k : Nat) (h : a ≤ k) : swp (mvUp f a k) k (k + 1) = mvUp f a (k + 1) := by
  funext p
  rw [swp_at]
  unfold mvUp
  by_cases h1 : p = k + 1
  · rw [if_pos h1, if_neg (by omega), if_pos rfl, if_neg (by omega), if_pos h1]
  · rw [if_neg h1]
    by_cases h2 : p = k
    · rw [if_pos h2, if_neg (by omega), if_neg (by omega), if_pos (by omega), h2]
    · rw [if_neg h2]
      by_cases h3 : a ≤ p ∧ p < k
      · rw [if_pos h3, if_pos (by omega)]
      · rw [if_neg h3, if_neg h2, if_neg (by omega), if_neg (by omega)]
/-- one place moved down from m to k -/
def mvDn (f : Nat → Nat) (m k : Nat) : Nat → Nat := fun p => if p = k then f m else if k < p ∧ p ≤ m then f (p - 1) else f p
theorem mvDn_zero (f : Nat → Nat) (m : Nat) : mvDn f m m = f := by
  funext p; unfold mvDn
  by_cases h : p = m
  · rw [if_pos h, h]
  · rw [if_neg h, if_neg (by omega)]
theorem mvDn_succ (f : Nat → Nat) (m k : Nat) (h : k < m) : swp (mvDn f m (k + 1)) (k + 1) k = mvDn f m k := by
  funext p
  rw [swp_at]
  unfold mvDn
  by_cases h1 : p = k
  · rw [if_pos h1, if_pos rfl, if_pos h1]
  · rw [if_neg h1, if_neg h1]
    by_cases h2 : p = k + 1
    · rw [if_pos h2, if_neg (by omega), if_neg (by omega), if_pos (by omega), h2]; congr 1
    · rw [if_neg h2, if_neg h2]
      by_cases h3 : k + 1 < p ∧ p ≤ m
      · rw [if_pos h3, if_pos (by omega)]
      · rw [if_neg h3, if_neg (by omega)]

/-- what holds ahead of a merge -/
structure MgIn (K : Nat → Int) (T n : Nat) (f : Nat → Nat) (a m b : Nat) : Prop where
  am : a < m
  mb : m < b
  bn : b ≤ n
  left : SegS K f a m
  right : SegS K f m b
  lo : ∀ p, a ≤ p → p < m → f p < T
  hi : ∀ p, m ≤ p → p < b → T ≤ f p
  perm : PermN n f
/-- what holds behind it -/
structure MgOut (K : Nat → Int) (n : Nat) (f f' : Nat → Nat) (a b : Nat) : Prop where
  seg : SegS K f' a b
  out : ∀ p, ¬ (a ≤ p ∧ p < b) → f' p = f p
  from_ : ∀ p, a ≤ p → p < b → ∃ q, a ≤ q ∧ q < b ∧ f' p = f q
  perm : PermN n f'
theorem MgIn.cmp_rl {K : Nat → Int} {T n : Nat} {f : Nat → Nat} {a m b : Nat} (h : MgIn K T n f a m b) {p q : Nat} (hp : m ≤ p ∧ p < b) (hq : a ≤ q ∧ q < m) : cmpK K (f p) (f q) < 0 ↔ LtK K (f p) (f q) :=
  cmpK_lt (by have := h.lo q hq.1 hq.2; have := h.hi p hp.1 hp.2; omega)
theorem MgIn.or_ {K : Nat → Int} {T n : Nat} {f : Nat → Nat} {a m b : Nat} (h : MgIn K T n f a m b) {p q : Nat} (hp : m ≤ p ∧ p < b) (hq : a ≤ q ∧ q < m) (hn : ¬ LtK K (f p) (f q)) : LtK K (f q) (f p) :=
  LtK.of_not (by have := h.lo q hq.1 hq.2; have := h.hi p hp.1 hp.2; omega) hn
/-- one place merged into what stands behind it -/
theorem MgIn.one_left {K : Nat → Int} {T n : Nat} {f : Nat → Nat} {a b i : Nat} (h : MgIn K T n f a (a + 1) b) (hi : a + 1 ≤ i ∧ i ≤ b) (h1 : ∀ p, a + 1 ≤ p → p < i → LtK K (f p) (f a)) (h2 : ∀ p, i ≤ p → p < b → LtK K (f a) (f p))
    (hp : PermN n (mvUp f a (i - 1))) : MgOut K n f (mvUp f a (i - 1)) a b := by
  have hr := h.right
  refine ⟨fun p q k1 k2 k3 => ?_, fun p hp => ?_, fun p k1 k2 => ?_, hp⟩
  · unfold mvUp
    by_cases c1 : a ≤ p ∧ p < i - 1
    · rw [if_pos c1]
      by_cases c2 : a ≤ q ∧ q < i - 1
      · rw [if_pos c2]; exact hr _ _ (by omega) (by omega) (by omega)
      · rw [if_neg c2]
        by_cases c3 : q = i - 1
        · rw [if_pos c3]; exact h1 _ (by omega) (by omega)
        · rw [if_neg c3]; exact hr _ _ (by omega) (by omega) (by omega)
    · rw [if_neg c1]
      by_cases c3 : p = i - 1
      · rw [if_pos c3, if_neg (by omega), if_neg (by omega)]; exact h2 _ (by omega) (by omega)
      · rw [if_neg c3, if_neg (by omega), if_neg (by omega)]; exact hr _ _ (by omega) (by omega) (by omega)
  · unfold mvUp
    rw [if_neg (by omega), if_neg (by omega)]
  · unfold mvUp
    by_cases c1 : a ≤ p ∧ p < i - 1
    · rw [if_pos c1]; exact ⟨p + 1, by omega, by omega, rfl⟩
    · rw [if_neg c1]
      by_cases c3 : p = i - 1
      · rw [if_pos c3]; exact ⟨a, by omega, by omega, rfl⟩
      · rw [if_neg c3]; exact ⟨p, by omega, by omega, rfl⟩
/-- one place merged into what stands ahead of it -/
theorem MgIn.one_right {K : Nat → Int} {T n : Nat} {f : Nat → Nat} {a m i : Nat} (h : MgIn K T n f a m (m + 1)) (hi : a ≤ i ∧ i ≤ m) (h1 : ∀ p, a ≤ p → p < i → LtK K (f p) (f m)) (h2 : ∀ p, i ≤ p → p < m → LtK K (f m) (f p))
    (hp : PermN n (mvDn f m i)) : MgOut K n f (mvDn f m i) a (m + 1) := by
  have hr := h.left
  refine ⟨fun p q k1 k2 k3 => ?_, fun p hp => ?_, fun p k1 k2 => ?_, hp⟩
  · unfold mvDn
    by_cases c1 : p = i
    · rw [if_pos c1, if_neg (by omega), if_pos (by omega)]
      exact h2 _ (by omega) (by omega)
    · rw [if_neg c1]
      by_cases c2 : i < p ∧ p ≤ m
      · rw [if_pos c2, if_neg (by omega), if_pos (by omega)]
        exact hr _ _ (by omega) (by omega) (by omega)
      · rw [if_neg c2]
        by_cases c3 : q = i
        · rw [if_pos c3]; exact h1 _ (by omega) (by omega)
        · rw [if_neg c3]
          by_cases c4 : i < q ∧ q ≤ m
          · rw [if_pos c4]; exact hr _ _ (by omega) (by omega) (by omega)
          · rw [if_neg c4]; exact hr _ _ (by omega) (by omega) (by omega)
  · unfold mvDn
    rw [if_neg (by omega), if_neg (by omega)]
  · unfold mvDn
    by_cases c1 : p = i
    · rw [if_pos c1]; exact ⟨m, by have := h.am; omega, by omega, rfl⟩
    · rw [if_neg c1]
      by_cases c2 : i < p ∧ p ≤ m
      · rw [if_pos c2]; exact ⟨p - 1, by omega, by omega, rfl⟩
      · rw [if_neg c2]; exact ⟨p, by omega, by omega, rfl⟩
end Go.Proofs.Ytdhklfbelplbcaa
