/- Plain laws of the merge in place: the parting. -/
import Derived.Test.YtdhklfbelplbcaaGe
namespace Go.Proofs.Ytdhklfbelplbcaa
set_option linter.unusedVariables false
set_option linter.unusedSimpArgs false
open Go.RowKit

/-- behind the rotation: four runs, the first two below the others -/
structure MgMid (K : Nat → Int) (T n : Nat) (f f1 : Nat → Nat) (a s mid e b : Nat) : Prop where
  asl : a ≤ s
  sm : s ≤ mid
  me : mid ≤ e
  eb : e ≤ b
  bn : b ≤ n
  r1 : SegS K f1 a s
  r2 : SegS K f1 s mid
  r3 : SegS K f1 mid e
  r4 : SegS K f1 e b
  t1 : ∀ p, a ≤ p → p < s → f1 p < T
  t2 : ∀ p, s ≤ p → p < mid → T ≤ f1 p
  t3 : ∀ p, mid ≤ p → p < e → f1 p < T
  t4 : ∀ p, e ≤ p → p < b → T ≤ f1 p
  cross : ∀ p q, a ≤ p → p < mid → mid ≤ q → q < b → LtK K (f1 p) (f1 q)
  out : ∀ p, ¬ (a ≤ p ∧ p < b) → f1 p = f p
  from_ : ∀ p, a ≤ p → p < b → ∃ q, a ≤ q ∧ q < b ∧ f1 p = f q
  perm : PermN n f1


theorem MgIn.split {K : Nat → Int} {T n : Nat} {f : Nat → Nat} {a m b s mid e : Nat} (h : MgIn K T n f a m b) (hmid : a < mid ∧ mid < b) (has : a ≤ s) (hsm : s ≤ m) (hsmid : s ≤ mid) (he : e = mid + m - s) (hem : m ≤ e) (heb : e ≤ b)
    (x1 : a < s → e < b → LtK K (f (s - 1)) (f e)) (x2 : s < m → m < e → LtK K (f (e - 1)) (f s)) (hp : PermN n (rotR f s m e)) : MgMid K T n f (rotR f s m e) a s mid e b := by
  have ham := h.am
  have hmb := h.mb
  have v1 : ∀ p, p < s → rotR f s m e p = f p := fun p hp => by unfold rotR; rw [if_neg (by omega), if_neg (by omega)]
  have v2 : ∀ p, s ≤ p → p < mid → rotR f s m e p = f (p + (m - s)) := fun p k1 k2 => by unfold rotR; rw [if_pos (by omega)]
  have v3 : ∀ p, mid ≤ p → p < e → rotR f s m e p = f (p - (e - m)) := fun p k1 k2 => by unfold rotR; rw [if_neg (by omega), if_pos (by omega)]
  have v4 : ∀ p, e ≤ p → rotR f s m e p = f p := fun p hp => by unfold rotR; rw [if_neg (by omega), if_neg (by omega)]
  have hL := h.left
  have hR := h.right
  refine ⟨has, hsmid, by omega, heb, h.bn, ?_, ?_, ?_, ?_, ?_, ?_, ?_, ?_, ?_, ?_, ?_, hp⟩
  · intro p q k1 k2 k3; rw [v1 p (by omega), v1 q k3]; exact hL p q k1 k2 (by omega)
  · intro p q k1 k2 k3; rw [v2 p k1 (by omega), v2 q (by omega) k3]; exact hR _ _ (by omega) (by omega) (by omega)
  · intro p q k1 k2 k3; rw [v3 p k1 (by omega), v3 q (by omega) k3]; exact hL _ _ (by omega) (by omega) (by omega)
  · intro p q k1 k2 k3; rw [v4 p k1, v4 q (by omega)]; exact hR _ _ (by omega) k2 k3
  · intro p k1 k2; rw [v1 p k2]; exact h.lo p k1 (by omega)
  · intro p k1 k2; rw [v2 p k1 k2]; exact h.hi _ (by omega) (by omega)
  · intro p k1 k2; rw [v3 p k1 k2]; exact h.lo _ (by omega) (by omega)
  · intro p k1 k2; rw [v4 p k1]; exact h.hi _ (by omega) k2
  · intro p q k1 k2 k3 k4
    by_cases c1 : p < s
    · rw [v1 p c1]
      by_cases c2 : q < e
      · rw [v3 q k3 c2]; exact hL _ _ k1 (by omega) (by omega)
      · rw [v4 q (by omega)]
        have hx := x1 (by omega) (by omega)
        have y1 : LtK K (f p) (f e) := by
          by_cases c : p = s - 1
          · rw [c]; exact hx
          · exact (hL p (s - 1) k1 (by omega) (by omega)).trans hx
        by_cases c : q = e
        · rw [c]; exact y1
        · exact y1.trans (hR e q (by omega) (by omega) k4)
    · rw [v2 p (by omega) k2]
      by_cases c2 : q < e
      · rw [v3 q k3 c2]
        have hx := x2 (by omega) (by omega)
        have y1 : LtK K (f (p + (m - s))) (f s) := by
          by_cases c : p + (m - s) = e - 1
          · rw [c]; exact hx
          · exact (hR _ (e - 1) (by omega) (by omega) (by omega)).trans hx
        by_cases c : q - (e - m) = s
        · rw [c]; exact y1
        · exact y1.trans (hL s _ (by omega) (by omega) (by omega))
      · rw [v4 q (by omega)]
        exact hR _ _ (by omega) (by omega) k4
  · intro p hp
    by_cases c1 : p < s
    · exact v1 p c1
    · exact v4 p (by omega)
  · intro p k1 k2
    by_cases c1 : p < s
    · exact ⟨p, k1, k2, v1 p c1⟩
    · by_cases c2 : p < mid
      · exact ⟨_, by omega, by omega, v2 p (by omega) c2⟩
      · by_cases c3 : p < e
        · exact ⟨_, by omega, by omega, v3 p (by omega) c3⟩
        · exact ⟨p, k1, k2, v4 p (by omega)⟩

variable {K : Nat → Int} {T n : Nat} {f f1 f2 f3 : Nat → Nat} {a s mid e b : Nat}
theorem MgMid.goL (h : MgMid K T n f f1 a s mid e b) (h1 : a < s) (h2 : s < mid) : MgIn K T n f1 a s mid :=
  ⟨h1, h2, by have := h.me; have := h.eb; have := h.bn; omega, h.r1, h.r2, h.t1, h.t2, h.perm⟩
theorem MgOut.refl (hs : SegS K f a b) (hp : PermN n f) : MgOut K n f f a b := ⟨hs, fun _ _ => rfl, fun p h1 h2 => ⟨p, h1, h2, rfl⟩, hp⟩
theorem MgMid.noL (h : MgMid K T n f f1 a s mid e b) (h1 : ¬ (a < s ∧ s < mid)) : MgOut K n f1 f1 a mid := by
  refine MgOut.refl ?_ h.perm
  by_cases c : a = s
  · rw [c]; exact h.r2
  · have : s = mid := by have := h.asl; have := h.sm; omega
    rw [← this]; exact h.r1
theorem MgMid.goR (h : MgMid K T n f f1 a s mid e b) (k : MgOut K n f1 f2 a mid) (h1 : mid < e) (h2 : e < b) : MgIn K T n f2 mid e b := by
  have ho : ∀ p, mid ≤ p → f2 p = f1 p := fun p hp => k.out p (by omega)
  refine ⟨h1, h2, h.bn, ?_, ?_, ?_, ?_, k.perm⟩
  · intro p q k1 k2 k3; rw [ho p k1, ho q (by omega)]; exact h.r3 p q k1 k2 k3
  · intro p q k1 k2 k3; rw [ho p (by omega), ho q (by omega)]; exact h.r4 p q k1 k2 k3
  · intro p k1 k2; rw [ho p k1]; exact h.t3 p k1 k2
  · intro p k1 k2; rw [ho p (by omega)]; exact h.t4 p k1 k2
theorem MgMid.noR (h : MgMid K T n f f1 a s mid e b) (k : MgOut K n f1 f2 a mid) (h1 : ¬ (mid < e ∧ e < b)) : MgOut K n f2 f2 mid b := by
  have ho : ∀ p, mid ≤ p → f2 p = f1 p := fun p hp => k.out p (by omega)
  refine MgOut.refl ?_ k.perm
  intro p q k1 k2 k3
  rw [ho p k1, ho q (by omega)]
  by_cases c : mid = e
  · exact h.r4 p q (by omega) k2 k3
  · have : e = b := by have := h.me; have := h.eb; omega
    exact h.r3 p q k1 k2 (by omega)
theorem MgMid.all (h : MgMid K T n f f1 a s mid e b) (k : MgOut K n f1 f2 a mid) (l : MgOut K n f2 f3 mid b) : MgOut K n f f3 a b := by
  have ham : a ≤ mid := by have := h.asl; have := h.sm; omega
  have hmb : mid ≤ b := by have := h.me; have := h.eb; omega
  have lo : ∀ p, a ≤ p → p < mid → ∃ q, a ≤ q ∧ q < mid ∧ f3 p = f1 q := fun p k1 k2 => by
    obtain ⟨q, q1, q2, q3⟩ := k.from_ p k1 k2
    exact ⟨q, q1, q2, by rw [l.out p (by omega), q3]⟩
  have hi : ∀ p, mid ≤ p → p < b → ∃ q, mid ≤ q ∧ q < b ∧ f3 p = f1 q := fun p k1 k2 => by
    obtain ⟨q, q1, q2, q3⟩ := l.from_ p k1 k2
    exact ⟨q, q1, q2, by rw [q3, k.out q (by omega)]⟩
  refine ⟨fun p q k1 k2 k3 => ?_, fun p hp => ?_, fun p k1 k2 => ?_, l.perm⟩
  · by_cases c1 : p < mid
    · by_cases c2 : q < mid
      · rw [l.out p (by omega), l.out q (by omega)]; exact k.seg p q k1 k2 c2
      · obtain ⟨p', p1, p2, p3⟩ := lo p k1 c1
        obtain ⟨q', q1, q2, q3⟩ := hi q (by omega) k3
        rw [p3, q3]
        exact h.cross p' q' p1 p2 q1 q2
    · exact l.seg p q (by omega) k2 k3
  · rw [l.out p (by omega), k.out p (by omega), h.out p hp]
  · by_cases c1 : p < mid
    · obtain ⟨q, q1, q2, q3⟩ := lo p k1 c1
      obtain ⟨r, r1, r2, r3⟩ := h.from_ q q1 (by omega)
      exact ⟨r, r1, r2, by rw [q3, r3]⟩
    · obtain ⟨q, q1, q2, q3⟩ := hi p (by omega) k2
      obtain ⟨r, r1, r2, r3⟩ := h.from_ q (by omega) q2
      exact ⟨r, r1, r2, by rw [q3, r3]⟩
end Go.Proofs.Ytdhklfbelplbcaa
