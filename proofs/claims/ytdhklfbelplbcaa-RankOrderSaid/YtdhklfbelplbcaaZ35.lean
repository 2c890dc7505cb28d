/-
  The walk of slices' merge in place.
  Plain laws of the merge in place: the parting.
  The walk of slices' merge in place: one place against a run.
  The walk of slices' merge in place: a run against one place.
-/
import Derived.Test.YtdhklfbelplbcaaZ34
namespace Go.Proofs.Ytdhklfbelplbcaa
set_option linter.unusedVariables false
set_option linter.unusedSimpArgs false
open Go.RowKit

/-- one place moved on from a to k -/
def mvUp (f : Nat → Nat) (a k : Nat) : Nat → Nat := fun p => if a ≤ p ∧ p < k then f (p + 1) else if p = k then f a else f p
theorem mvUp_zero (f : Nat → Nat) (a : Nat) : mvUp f a a = f := by
  funext p; unfold mvUp
  rw [if_neg (by omega)]
  by_cases h : p = a
  · rw [if_pos h, h]
  · rw [if_neg h]
theorem mvUp_succ (f : Nat → Nat) (a k : Nat) (h : a ≤ k) : swp (mvUp f a k) k (k + 1) = mvUp f a (k + 1) := by
  funext p
  rw [swp_at]
  unfold mvUp
  by_cases h1 : p = k + 1
  · rw [if_pos h1, if_neg (by omega), if_pos rfl, if_neg (by omega), if_pos h1]
  · rw [if_neg h1]
    by_cases h2 : p = k
    · rw [if_pos h2, if_neg (by omega), if_neg (by omega), if_pos (by omega), h2]
    · rw [if_neg h2]
      by_cases h3 : a ≤ p ∧ p < k
      · rw [if_pos h3, if_pos (by omega)]
      · rw [if_neg h3, if_neg h2, if_neg (by omega), if_neg (by omega)]
/-- one place moved down from m to k -/
def mvDn (f : Nat → Nat) (m k : Nat) : Nat → Nat := fun p => if p = k then f m else if k < p ∧ p ≤ m then f (p - 1) else f p
theorem mvDn_zero (f : Nat → Nat) (m : Nat) : mvDn f m m = f := by
  funext p; unfold mvDn
  by_cases h : p = m
  · rw [if_pos h, h]
  · rw [if_neg h, if_neg (by omega)]
theorem mvDn_succ (f : Nat → Nat) (m k : Nat) (h : k < m) : swp (mvDn f m (k + 1)) (k + 1) k = mvDn f m k := by
  funext p
  rw [swp_at]
  unfold mvDn
  by_cases h1 : p = k
  · rw [if_pos h1, if_pos rfl, if_pos h1]
  · rw [if_neg h1, if_neg h1]
    by_cases h2 : p = k + 1
    · rw [if_pos h2, if_neg (by omega), if_neg (by omega), if_pos (by omega), h2]; congr 1
    · rw [if_neg h2, if_neg h2]
      by_cases h3 : k + 1 < p ∧ p ≤ m
      · rw [if_pos h3, if_pos (by omega)]
      · rw [if_neg h3, if_neg (by omega)]

/-- what holds ahead of a merge -/
structure MgIn (K : Nat → Int) (T n : Nat) (f : Nat → Nat) (a m b : Nat) : Prop where
  am : a < m
  mb : m < b
  bn : b ≤ n
  left : SegS K f a m
  right : SegS K f m b
  lo : ∀ p, a ≤ p → p < m → f p < T
  hi : ∀ p, m ≤ p → p < b → T ≤ f p
  perm : PermN n f
/-- what holds behind it -/
structure MgOut (K : Nat → Int) (n : Nat) (f f' : Nat → Nat) (a b : Nat) : Prop where
  seg : SegS K f' a b
  out : ∀ p, ¬ (a ≤ p ∧ p < b) → f' p = f p
  from_ : ∀ p, a ≤ p → p < b → ∃ q, a ≤ q ∧ q < b ∧ f' p = f q
  perm : PermN n f'
theorem MgIn.cmp_rl {K : Nat → Int} {T n : Nat} {f : Nat → Nat} {a m b : Nat} (h : MgIn K T n f a m b) {p q : Nat} (hp : m ≤ p ∧ p < b) (hq : a ≤ q ∧ q < m) : cmpK K (f p) (f q) < 0 ↔ LtK K (f p) (f q) :=
  cmpK_lt (by have := h.lo q hq.1 hq.2; have := h.hi p hp.1 hp.2; omega)
theorem MgIn.or_ {K : Nat → Int} {T n : Nat} {f : Nat → Nat} {a m b : Nat} (h : MgIn K T n f a m b) {p q : Nat} (hp : m ≤ p ∧ p < b) (hq : a ≤ q ∧ q < m) (hn : ¬ LtK K (f p) (f q)) : LtK K (f q) (f p) :=
  LtK.of_not (by have := h.lo q hq.1 hq.2; have := h.hi p hp.1 hp.2; omega) hn
/-- one place merged into what stands behind it -/
theorem MgIn.one_left {K : Nat → Int} {T n : Nat} {f : Nat → Nat} {a b i : Nat} (h : MgIn K T n f a (a + 1) b) (hi : a + 1 ≤ i ∧ i ≤ b) (h1 : ∀ p, a + 1 ≤ p → p < i → LtK K (f p) (f a)) (h2 : ∀ p, i ≤ p → p < b → LtK K (f a) (f p))
    (hp : PermN n (mvUp f a (i - 1))) : MgOut K n f (mvUp f a (i - 1)) a b := by
  have hr := h.right
  refine ⟨fun p q k1 k2 k3 => ?_, fun p hp => ?_, fun p k1 k2 => ?_, hp⟩
  · unfold mvUp
    by_cases c1 : a ≤ p ∧ p < i - 1
    · rw [if_pos c1]
      by_cases c2 : a ≤ q ∧ q < i - 1
      · rw [if_pos c2]; exact hr _ _ (by omega) (by omega) (by omega)
      · rw [if_neg c2]
        by_cases c3 : q = i - 1
        · rw [if_pos c3]; exact h1 _ (by omega) (by omega)
        · rw [if_neg c3]; exact hr _ _ (by omega) (by omega) (by omega)
    · rw [if_neg c1]
      by_cases c3 : p = i - 1
      · rw [if_pos c3, if_neg (by omega), if_neg (by omega)]; exact h2 _ (by omega) (by omega)
      · rw [if_neg c3, if_neg (by omega), if_neg (by omega)]; exact hr _ _ (by omega) (by omega) (by omega)
  · unfold mvUp
    rw [if_neg (by omega), if_neg (by omega)]
  · unfold mvUp
    by_cases c1 : a ≤ p ∧ p < i - 1
    · rw [if_pos c1]; exact ⟨p + 1, by omega, by omega, rfl⟩
    · rw [if_neg c1]
      by_cases c3 : p = i - 1
      · rw [if_pos c3]; exact ⟨a, by omega, by omega, rfl⟩
      · rw [if_neg c3]; exact ⟨p, by omega, by omega, rfl⟩
/-- one place merged into what stands ahead of it -/
theorem MgIn.one_right {K : Nat → Int} {T n : Nat} {f : Nat → Nat} {a m i : Nat} (h : MgIn K T n f a m (m + 1)) (hi : a ≤ i ∧ i ≤ m) (h1 : ∀ p, a ≤ p → p < i → LtK K (f p) (f m)) (h2 : ∀ p, i ≤ p → p < m → LtK K (f m) (f p))
    (hp : PermN n (mvDn f m i)) : MgOut K n f (mvDn f m i) a (m + 1) := by
  have hr := h.left
  refine ⟨fun p q k1 k2 k3 => ?_, fun p hp => ?_, fun p k1 k2 => ?_, hp⟩
  · unfold mvDn
    by_cases c1 : p = i
    · rw [if_pos c1, if_neg (by omega), if_pos (by omega)]
      exact h2 _ (by omega) (by omega)
    · rw [if_neg c1]
      by_cases c2 : i < p ∧ p ≤ m
      · rw [if_pos c2, if_neg (by omega), if_pos (by omega)]
        exact hr _ _ (by omega) (by omega) (by omega)
      · rw [if_neg c2]
        by_cases c3 : q = i
        · rw [if_pos c3]; exact h1 _ (by omega) (by omega)
        · rw [if_neg c3]
          by_cases c4 : i < q ∧ q ≤ m
          · rw [if_pos c4]; exact hr _ _ (by omega) (by omega) (by omega)
          · rw [if_neg c4]; exact hr _ _ (by omega) (by omega) (by omega)
  · unfold mvDn
    rw [if_neg (by omega), if_neg (by omega)]
  · unfold mvDn
    by_cases c1 : p = i
    · rw [if_pos c1]; exact ⟨m, by have := h.am; omega, by omega, rfl⟩
    · rw [if_neg c1]
      by_cases c2 : i < p ∧ p ≤ m
      · rw [if_pos c2]; exact ⟨p - 1, by omega, by omega, rfl⟩
      · rw [if_neg c2]; exact ⟨p, by omega, by omega, rfl⟩
end Go.Proofs.Ytdhklfbelplbcaa
namespace Go.Proofs.Ytdhklfbelplbcaa
set_option linter.unusedVariables false
set_option linter.unusedSimpArgs false
open Go.RowKit

/-- behind the rotation: four runs, the first two below the others -/
structure MgMid (K : Nat → Int) (T n : Nat) (f f1 : Nat → Nat) (a s mid e b : Nat) : Prop where
  asl : a ≤ s
  sm : s ≤ mid
  me : mid ≤ e
  eb : e ≤ b
  bn : b ≤ n
  r1 : SegS K f1 a s
  r2 : SegS K f1 s mid
  r3 : SegS K f1 mid e
  r4 : SegS K f1 e b
  t1 : ∀ p, a ≤ p → p < s → f1 p < T
  t2 : ∀ p, s ≤ p → p < mid → T ≤ f1 p
  t3 : ∀ p, mid ≤ p → p < e → f1 p < T
  t4 : ∀ p, e ≤ p → p < b → T ≤ f1 p
  cross : ∀ p q, a ≤ p → p < mid → mid ≤ q → q < b → LtK K (f1 p) (f1 q)
  out : ∀ p, ¬ (a ≤ p ∧ p < b) → f1 p = f p
  from_ : ∀ p, a ≤ p → p < b → ∃ q, a ≤ q ∧ q < b ∧ f1 p = f q
  perm : PermN n f1


theorem MgIn.split {K : Nat → Int} {T n : Nat} {f : Nat → Nat} {a m b s mid e : Nat} (h : MgIn K T n f a m b) (hmid : a < mid ∧ mid < b) (has : a ≤ s) (hsm : s ≤ m) (hsmid : s ≤ mid) (he : e = mid + m - s) (hem : m ≤ e) (heb : e ≤ b)
    (x1 : a < s → e < b → LtK K (f (s - 1)) (f e)) (x2 : s < m → m < e → LtK K (f (e - 1)) (f s)) (hp : PermN n (rotR f s m e)) : MgMid K T n f (rotR f s m e) a s mid e b := by
  have ham := h.am
  have hmb := h.mb
  have v1 : ∀ p, p < s → rotR f s m e p = f p := fun p hp => by unfold rotR; rw [if_neg (by omega), if_neg (by omega)]
  have v2 : ∀ p, s ≤ p → p < mid → rotR f s m e p = f (p + (m - s)) := fun p k1 k2 => by unfold rotR; rw [if_pos (by omega)]
  have v3 : ∀ p, mid ≤ p → p < e → rotR f s m e p = f (p - (e - m)) := fun p k1 k2 => by unfold rotR; rw [if_neg (by omega), if_pos (by omega)]
  have v4 : ∀ p, e ≤ p → rotR f s m e p = f p := fun p hp => by unfold rotR; rw [if_neg (by omega), if_neg (by omega)]
  have hL := h.left
  have hR := h.right
  refine ⟨has, hsmid, by omega, heb, h.bn, ?_, ?_, ?_, ?_, ?_, ?_, ?_, ?_, ?_, ?_, ?_, hp⟩
  · intro p q k1 k2 k3; rw [v1 p (by omega), v1 q k3]; exact hL p q k1 k2 (by omega)
  · intro p q k1 k2 k3; rw [v2 p k1 (by omega), v2 q (by omega) k3]; exact hR _ _ (by omega) (by omega) (by omega)
  · intro p q k1 k2 k3; rw [v3 p k1 (by omega), v3 q (by omega) k3]; exact hL _ _ (by omega) (by omega) (by omega)
  · intro p q k1 k2 k3; rw [v4 p k1, v4 q (by omega)]; exact hR _ _ (by omega) k2 k3
  · intro p k1 k2; rw [v1 p k2]; exact h.lo p k1 (by omega)
  · intro p k1 k2; rw [v2 p k1 k2]; exact h.hi _ (by omega) (by omega)
  · intro p k1 k2; rw [v3 p k1 k2]; exact h.lo _ (by omega) (by omega)
  · intro p k1 k2; rw [v4 p k1]; exact h.hi _ (by omega) k2
  · intro p q k1 k2 k3 k4
    by_cases c1 : p < s
    · rw [v1 p c1]
      by_cases c2 : q < e
      · rw [v3 q k3 c2]; exact hL _ _ k1 (by omega) (by omega)
      · rw [v4 q (by omega)]
        have hx := x1 (by omega) (by omega)
        have y1 : LtK K (f p) (f e) := by
          by_cases c : p = s - 1
          · rw [c]; exact hx
          · exact (hL p (s - 1) k1 (by omega) (by omega)).trans hx
        by_cases c : q = e
        · rw [c]; exact y1
        · exact y1.trans (hR e q (by omega) (by omega) k4)
    · rw [v2 p (by omega) k2]
      by_cases c2 : q < e
      · rw [v3 q k3 c2]
        have hx := x2 (by omega) (by omega)
        have y1 : LtK K (f (p + (m - s))) (f s) := by
          by_cases c : p + (m - s) = e - 1
          · rw [c]; exact hx
          · exact (hR _ (e - 1) (by omega) (by omega) (by omega)).trans hx
        by_cases c : q - (e - m) = s
        · rw [c]; exact y1
        · exact y1.trans (hL s _ (by omega) (by omega) (by omega))
      · rw [v4 q (by omega)]
        exact hR _ _ (by omega) (by omega) k4
  · intro p hp
    by_cases c1 : p < s
    · exact v1 p c1
    · exact v4 p (by omega)
  · intro p k1 k2
    by_cases c1 : p < s
    · exact ⟨p, k1, k2, v1 p c1⟩
    · by_cases c2 : p < mid
      · exact ⟨_, by omega, by omega, v2 p (by omega) c2⟩
      · by_cases c3 : p < e
        · exact ⟨_, by omega, by omega, v3 p (by omega) c3⟩
        · exact ⟨p, k1, k2, v4 p (by omega)⟩

variable {K : Nat → Int} {T n : Nat} {f f1 f2 f3 : Nat → Nat} {a s mid e b : Nat}
theorem MgMid.goL (h : MgMid K T n f f1 a s mid e b) (h1 : a < s) (h2 : s < mid) : MgIn K T n f1 a s mid :=
  ⟨h1, h2, by have := h.me; have := h.eb; have := h.bn; omega, h.r1, h.r2, h.t1, h.t2, h.perm⟩
theorem MgOut.refl (hs : SegS K f a b) (hp : PermN n f) : MgOut K n f f a b := ⟨hs, fun _ _ => rfl, fun p h1 h2 => ⟨p, h1, h2, rfl⟩, hp⟩
theorem MgMid.noL (h : MgMid K T n f f1 a s mid e b) (h1 : ¬ (a < s ∧ s < mid)) : MgOut K n f1 f1 a mid := by
  refine MgOut.refl ?_ h.perm
  by_cases c : a = s
  · rw [c]; exact h.r2
  · have : s = mid := by have := h.asl; have := h.sm; omega
    rw [← this]; exact h.r1
theorem MgMid.goR (h : MgMid K T n f f1 a s mid e b) (k : MgOut K n f1 f2 a mid) (h1 : mid < e) (h2 : e < b) : MgIn K T n f2 mid e b := by
  have ho : ∀ p, mid ≤ p → f2 p = f1 p := fun p hp => k.out p (by omega)
  refine ⟨h1, h2, h.bn, ?_, ?_, ?_, ?_, k.perm⟩
  · intro p q k1 k2 k3; rw [ho p k1, ho q (by omega)]; exact h.r3 p q k1 k2 k3
  · intro p q k1 k2 k3; rw [ho p (by omega), ho q (by omega)]; exact h.r4 p q k1 k2 k3
  · intro p k1 k2; rw [ho p k1]; exact h.t3 p k1 k2
  · intro p k1 k2; rw [ho p (by omega)]; exact h.t4 p k1 k2
theorem MgMid.noR (h : MgMid K T n f f1 a s mid e b) (k : MgOut K n f1 f2 a mid) (h1 : ¬ (mid < e ∧ e < b)) : MgOut K n f2 f2 mid b := by
  have ho : ∀ p, mid ≤ p → f2 p = f1 p := fun p hp => k.out p (by omega)
  refine MgOut.refl ?_ k.perm
  intro p q k1 k2 k3
  rw [ho p k1, ho q (by omega)]
  by_cases c : mid = e
  · exact h.r4 p q (by omega) k2 k3
  · have : e = b := by have := h.me; have := h.eb; omega
    exact h.r3 p q k1 k2 (by omega)
theorem MgMid.all (h : MgMid K T n f f1 a s mid e b) (k : MgOut K n f1 f2 a mid) (l : MgOut K n f2 f3 mid b) : MgOut K n f f3 a b := by
  have ham : a ≤ mid := by have := h.asl; have := h.sm; omega
  have hmb : mid ≤ b := by have := h.me; have := h.eb; omega
  have lo : ∀ p, a ≤ p → p < mid → ∃ q, a ≤ q ∧ q < mid ∧ f3 p = f1 q := fun p k1 k2 => by
    obtain ⟨q, q1, q2, q3⟩ := k.from_ p k1 k2
    exact ⟨q, q1, q2, by rw [l.out p (by omega), q3]⟩
  have hi : ∀ p, mid ≤ p → p < b → ∃ q, mid ≤ q ∧ q < b ∧ f3 p = f1 q := fun p k1 k2 => by
    obtain ⟨q, q1, q2, q3⟩ := l.from_ p k1 k2
    exact ⟨q, q1, q2, by rw [q3, k.out q (by omega)]⟩
  refine ⟨fun p q k1 k2 k3 => ?_, fun p hp => ?_, fun p k1 k2 => ?_, l.perm⟩
  · by_cases c1 : p < mid
    · by_cases c2 : q < mid
      · rw [l.out p (by omega), l.out q (by omega)]; exact k.seg p q k1 k2 c2
      · obtain ⟨p', p1, p2, p3⟩ := lo p k1 c1
        obtain ⟨q', q1, q2, q3⟩ := hi q (by omega) k3
        rw [p3, q3]
        exact h.cross p' q' p1 p2 q1 q2
    · exact l.seg p q (by omega) k2 k3
  · rw [l.out p (by omega), k.out p (by omega), h.out p hp]
  · by_cases c1 : p < mid
    · obtain ⟨q, q1, q2, q3⟩ := lo p k1 c1
      obtain ⟨r, r1, r2, r3⟩ := h.from_ q q1 (by omega)
      exact ⟨r, r1, r2, by rw [q3, r3]⟩
    · obtain ⟨q, q1, q2, q3⟩ := hi p (by omega) k2
      obtain ⟨r, r1, r2, r3⟩ := h.from_ q (by omega) q2
      exact ⟨r, r1, r2, by rw [q3, r3]⟩
end Go.Proofs.Ytdhklfbelplbcaa
namespace Go.Proofs.Ytdhklfbelplbcaa
set_option linter.unusedVariables false
set_option linter.unusedSimpArgs false
open Go.RowKit

variable {w0 : World} {gd hb gh n : Nat} {hs : List Nat}
set_option maxHeartbeats 8000000 in
set_option maxRecDepth 100000 in
theorem symm_left (E : Env w0 gd hb gh n hs) (T a b : Nat) (f : Nat → Nat) (W : World) (hst : SortSt w0 gd n f W) (hin : MgIn (keyL hs) T n f a (a + 1) b) :
    Calls Try.prog 70 #[.slice (some ⟨gd, 0, none⟩) n n, .int .i64 (a : Nat), .int .i64 ((a : Int) + 1), .int .i64 (b : Nat), FNG hb] W fun e w' => e = .returned (.tuple #[]) ∧ ∃ f', SortSt w0 gd n f' w' ∧ MgOut (keyL hs) n f f' a b := by
  have hnb := E.nb
  unfold FNG
  have hst' := Lib.hid hst
  have hin' := Lib.hid hin
  have ham := hin.am
  have hmb := hin.mb
  have hbn := hin.bn
  clear hst hin
  have d1 : (a : Int) + 1 - (a : Int) = 1 := by omega
  go_enter Try.func70, Try.ntmps70
  go_wp2_with fail
  go_loopw [10, 11] (fun i j wr => ∃ (i' j' : Nat), i = .int .i64 (i' : Nat) ∧ j = .int .i64 (j' : Nat) ∧ a + 1 ≤ i' ∧ i' ≤ j' ∧ j' ≤ b ∧ SortSt w0 gd n f wr ∧ Hid (∀ p, a + 1 ≤ p → p < i' → LtK (keyL hs) (f p) (f a)) ∧ Hid (∀ p, j' ≤ p → p < b → LtK (keyL hs) (f a) (f p))) (fun i j _ => (intOf j).toNat - (intOf i).toNat)
  case atStart => exact ⟨a + 1, b, by go_num, rfl, by omega, by omega, by omega, hst'.out, Lib.hid (fun p h1 h2 => by omega), Lib.hid (fun p h1 h2 => by omega)⟩
  case round =>
    obtain ⟨i, j, rfl, rfl, hi1, hij, hjb, hs1, hlo, hhi⟩ := hrel
    by_cases hlt : i < j
    · have hd : decide (i < j) = true := by simpa using hlt
      have hd2 : decide ((i : Int) < (j : Int)) = true := by simp; omega
      obtain ⟨h, hh, hmid⟩ : ∃ h : Nat, (i + j) / 2 = h ∧ ((i : Int) + (j : Int)) / 2 = (h : Int) := ⟨(i + j) / 2, rfl, by omega⟩
      have hb1 : i ≤ h ∧ h < j := by omega
      replace hh := Lib.hid hh
      obtain ⟨x0, -⟩ := hs1.cell h (by omega)
      obtain ⟨y0, -⟩ := hs1.cell a (by omega)
      obtain ⟨c, hc⟩ : ∃ c, cmpK (keyL hs) (f h) (f a) = c := ⟨_, rfl⟩
      have hcb := cmpK_bd (keyL hs) (f h) (f a)
      rw [hc] at hcb
      have hsg : Hid (c < 0 ↔ LtK (keyL hs) (f h) (f a)) := Lib.hid (by rw [← hc]; exact hin'.out.cmp_rl (by omega) (by omega))
      have hv := Lib.hid (E.at_ hs1)
      have f1 : f h < n := hin'.out.perm.1 h (by omega)
      have f2 : f a < n := hin'.out.perm.1 a (by omega)
      replace hc := Lib.hid hc
      replace hs1 := Lib.hid hs1
      have k1 : (0 : Int) ≤ (h : Int) := by omega
      have k2 : (h : Int) < (n : Int) := by omega
      have k3 : (0 : Int) ≤ (a : Int) := by omega
      have k4 : (a : Int) < (n : Int) := by omega
      have hright := hin'.out.right
      replace hright := Lib.hid hright
      go_upto_region 5 with fail
      go_quiet ((go_at_call 47; exact cmp_quiet hv.out (f h) (f a) f1 f2 hnb hc))
      by_cases hl : c < 0
      · have hl1 : decide (c < 0) = true := by simpa using hl
        have hlt2 := hsg.out.1 hl
        have hlo2 : Hid (∀ p, a + 1 ≤ p → p < h + 1 → LtK (keyL hs) (f p) (f a)) := Lib.hid (fun p p1 p2 => by
          by_cases e : p = h
          · rw [e]; exact hlt2
          · exact (hright.out p h p1 (by omega) (by omega)).trans hlt2)
        replace hlt2 := Lib.hid hlt2
        go_wp2_with fail
        exact ⟨⟨h + 1, j, by go_num, rfl, by omega, by omega, hjb, hs1.out.drewN _, hlo2, hhi⟩, by simp [intOf]; omega⟩
      · have hl1 : decide (c < 0) = false := by simpa using hl
        have hlt2 : LtK (keyL hs) (f a) (f h) := hin'.out.or_ (by omega) (by omega) (fun e => hl (hsg.out.2 e))
        have hhi2 : Hid (∀ p, h ≤ p → p < b → LtK (keyL hs) (f a) (f p)) := Lib.hid (fun p p1 p2 => by
          by_cases e : p = h
          · rw [e]; exact hlt2
          · exact hlt2.trans (hright.out h p (by omega) (by omega) p2))
        replace hlt2 := Lib.hid hlt2
        go_wp2_with fail
        exact ⟨⟨i, h, rfl, rfl, by omega, by omega, by omega, hs1.out.drewN _, hlo, hhi2⟩, by simp [intOf]; omega⟩
    · have hd : decide (i < j) = false := by simpa using hlt
      have hd2 : decide ((i : Int) < (j : Int)) = false := by simp; omega
      have hij2 : i = j := by omega
      subst hij2
      replace hs1 := Lib.hid hs1
      go_wp2_with fail
      go_loopw [13] (fun k wr => ∃ k' : Nat, k = .int .i64 (k' : Nat) ∧ a ≤ k' ∧ k' ≤ i - 1 ∧ SortSt w0 gd n (mvUp f a k') wr ∧ PermN n (mvUp f a k')) (fun k _ => i - (intOf k).toNat)
      case atStart => exact ⟨a, rfl, by omega, by omega, by rw [mvUp_zero]; exact hs1.out, by rw [mvUp_zero]; exact hin'.out.perm⟩
      case round =>
        obtain ⟨k, rfl, hk1, hk2, hs2, hp2⟩ := hrel
        by_cases hlt3 : k < i - 1
        · have hd3 : decide ((k : Int) < (i : Int) - 1) = true := by simp; omega
          obtain ⟨g, hg⟩ : ∃ g, mvUp f a k = g := ⟨_, rfl⟩
          rw [hg] at hs2 hp2
          obtain ⟨x0, x1⟩ := hs2.cell k (by omega)
          obtain ⟨y0, y1⟩ := hs2.cell (k + 1) (by omega)
          obtain ⟨X0, X1⟩ := hs2.drew.cell k (by omega)
          obtain ⟨Y0, Y1⟩ := hs2.drew.cell (k + 1) (by omega)
          have hsw := Lib.hid (hs2.swap k (k + 1) E.gdl)
          have hpw := Lib.hid (hp2.swp (i := k) (j := k + 1) (by omega) (by omega))
          have hfe := Lib.hid (mvUp_succ f a k hk1)
          replace hg := Lib.hid hg
          have n1 : ¬ k = k + 1 := by omega
          have n2 : ¬ k + 1 = k := by omega
          have i1 : (0 : Int) ≤ (k : Int) := by omega
          have i2 : (k : Int) < (n : Int) := by omega
          have i3 : (0 : Int) ≤ (k : Int) + 1 := by omega
          have i4 : (k : Int) + 1 < (n : Int) := by omega
          have i5 : IntKind.i64.wrap ((k : Int) + 1) = (k : Int) + 1 := by rw [IntKind.wrap_i64]; omega
          have i6 : ((k : Int) + 1).toNat = k + 1 := by omega
          clear hs2 hp2
          go_upto_region 11 with fail
          go_region_with fail
          all_goals (go_wp2_with fail)
          all_goals exact ⟨⟨k + 1, by go_num, by omega, by omega, by rw [← hfe.out, hg.out]; exact hsw.out, by rw [← hfe.out, hg.out]; exact hpw.out⟩, by simp [intOf]; omega⟩
        · have hd3 : decide ((k : Int) < (i : Int) - 1) = false := by simp; omega
          have hk3 : k = i - 1 := by omega
          have hfin := Lib.hid (hin'.out.one_left ⟨hi1, hjb⟩ hlo.out hhi.out (by rw [← hk3]; exact hp2))
          rw [hk3] at hs2
          replace hs2 := Lib.hid hs2
          replace hk3 := Lib.hid hk3
          go_wp2_with fail
          exact bodyPost_ret (v := .tuple #[]) (by simp [results, Try.results70, go_sem]) rfl ⟨rfl, _, hs2.out, hfin.out⟩
end Go.Proofs.Ytdhklfbelplbcaa
namespace Go.Proofs.Ytdhklfbelplbcaa
set_option linter.unusedVariables false
set_option linter.unusedSimpArgs false
open Go.RowKit

variable {w0 : World} {gd hb gh n : Nat} {hs : List Nat}
set_option maxHeartbeats 8000000 in
set_option maxRecDepth 100000 in
theorem symm_right (E : Env w0 gd hb gh n hs) (T a m : Nat) (f : Nat → Nat) (W : World) (hst : SortSt w0 gd n f W) (hin : MgIn (keyL hs) T n f a m (m + 1)) (hne : ¬ m = a + 1) :
    Calls Try.prog 70 #[.slice (some ⟨gd, 0, none⟩) n n, .int .i64 (a : Nat), .int .i64 (m : Nat), .int .i64 ((m : Int) + 1), FNG hb] W fun e w' => e = .returned (.tuple #[]) ∧ ∃ f', SortSt w0 gd n f' w' ∧ MgOut (keyL hs) n f f' a (m + 1) := by
  have hnb := E.nb
  unfold FNG
  have hst' := Lib.hid hst
  have hin' := Lib.hid hin
  have ham := hin.am
  have hbn := hin.bn
  clear hst hin
  have d1 : (m : Int) + 1 - (m : Int) = 1 := by omega
  have d2 : ((m : Int) - (a : Int) == 1) = false := by simp; omega
  have d3 : ¬ ((m : Int) - (a : Int) = 1) := by omega
  go_enter Try.func70, Try.ntmps70
  go_wp2_with fail
  go_loopw [14, 15] (fun i j wr => ∃ (i' j' : Nat), i = .int .i64 (i' : Nat) ∧ j = .int .i64 (j' : Nat) ∧ a ≤ i' ∧ i' ≤ j' ∧ j' ≤ m ∧ SortSt w0 gd n f wr ∧ Hid (∀ p, a ≤ p → p < i' → LtK (keyL hs) (f p) (f m)) ∧ Hid (∀ p, j' ≤ p → p < m → LtK (keyL hs) (f m) (f p))) (fun i j _ => (intOf j).toNat - (intOf i).toNat)
  case atStart => exact ⟨a, m, rfl, rfl, by omega, by omega, by omega, hst'.out, Lib.hid (fun p h1 h2 => by omega), Lib.hid (fun p h1 h2 => by omega)⟩
  case round =>
    obtain ⟨i, j, rfl, rfl, hi1, hij, hjb, hs1, hlo, hhi⟩ := hrel
    by_cases hlt : i < j
    · have hd : decide (i < j) = true := by simpa using hlt
      have hd2 : decide ((i : Int) < (j : Int)) = true := by simp; omega
      obtain ⟨h, hh, hmid⟩ : ∃ h : Nat, (i + j) / 2 = h ∧ ((i : Int) + (j : Int)) / 2 = (h : Int) := ⟨(i + j) / 2, rfl, by omega⟩
      have hb1 : i ≤ h ∧ h < j := by omega
      replace hh := Lib.hid hh
      obtain ⟨x0, -⟩ := hs1.cell h (by omega)
      obtain ⟨y0, -⟩ := hs1.cell m (by omega)
      obtain ⟨c, hc⟩ : ∃ c, cmpK (keyL hs) (f m) (f h) = c := ⟨_, rfl⟩
      have hcb := cmpK_bd (keyL hs) (f m) (f h)
      rw [hc] at hcb
      have hsg : Hid (c < 0 ↔ LtK (keyL hs) (f m) (f h)) := Lib.hid (by rw [← hc]; exact hin'.out.cmp_rl (by omega) (by omega))
      have hv := Lib.hid (E.at_ hs1)
      have f1 : f h < n := hin'.out.perm.1 h (by omega)
      have f2 : f m < n := hin'.out.perm.1 m (by omega)
      replace hc := Lib.hid hc
      replace hs1 := Lib.hid hs1
      have k1 : (0 : Int) ≤ (h : Int) := by omega
      have k2 : (h : Int) < (n : Int) := by omega
      have k3 : (0 : Int) ≤ (m : Int) := by omega
      have k4 : (m : Int) < (n : Int) := by omega
      have hleft := hin'.out.left
      replace hleft := Lib.hid hleft
      go_upto_region 17 with fail
      go_quiet ((go_at_call 47; exact cmp_quiet hv.out (f m) (f h) f2 f1 hnb hc))
      by_cases hl : c < 0
      · have hl1 : decide (c < 0) = true := by simpa using hl
        have hl2 : decide (0 ≤ c) = false := by simp; omega
        have hl3 : (!decide (c < 0)) = false := by rw [hl1]; rfl
        have hlt2 := hsg.out.1 hl
        have hhi2 : Hid (∀ p, h ≤ p → p < m → LtK (keyL hs) (f m) (f p)) := Lib.hid (fun p p1 p2 => by
          by_cases e : p = h
          · rw [e]; exact hlt2
          · exact hlt2.trans (hleft.out h p (by omega) (by omega) p2))
        replace hlt2 := Lib.hid hlt2
        rw [hl3]
        go_wp2_with fail
        exact ⟨⟨i, h, rfl, rfl, by omega, by omega, by omega, hs1.out.drewN _, hlo, hhi2⟩, by simp [intOf]; omega⟩
      · have hl1 : decide (c < 0) = false := by simpa using hl
        have hl2 : decide (0 ≤ c) = true := by simp; omega
        have hl3 : (!decide (c < 0)) = true := by rw [hl1]; rfl
        have hlt2 : LtK (keyL hs) (f h) (f m) := hin'.out.or_ (by omega) (by omega) (fun e => hl (hsg.out.2 e))
        have hlo2 : Hid (∀ p, a ≤ p → p < h + 1 → LtK (keyL hs) (f p) (f m)) := Lib.hid (fun p p1 p2 => by
          by_cases e : p = h
          · rw [e]; exact hlt2
          · exact (hleft.out p h p1 (by omega) (by omega)).trans hlt2)
        replace hlt2 := Lib.hid hlt2
        rw [hl3]
        go_wp2_with fail
        exact ⟨⟨h + 1, j, by go_num, rfl, by omega, by omega, hjb, hs1.out.drewN _, hlo2, hhi⟩, by simp [intOf]; omega⟩
    · have hd : decide (i < j) = false := by simpa using hlt
      have hd2 : decide ((i : Int) < (j : Int)) = false := by simp; omega
      have hij2 : i = j := by omega
      subst hij2
      replace hs1 := Lib.hid hs1
      go_wp2_with fail
      go_loopw [17] (fun k wr => ∃ k' : Nat, k = .int .i64 (k' : Nat) ∧ i ≤ k' ∧ k' ≤ m ∧ SortSt w0 gd n (mvDn f m k') wr ∧ PermN n (mvDn f m k')) (fun k _ => (intOf k).toNat)
      case atStart => exact ⟨m, rfl, by omega, by omega, by rw [mvDn_zero]; exact hs1.out, by rw [mvDn_zero]; exact hin'.out.perm⟩
      case round =>
        obtain ⟨k, rfl, hk1, hk2, hs2, hp2⟩ := hrel
        by_cases hlt3 : i < k
        · have hd3 : decide ((k : Int) > (i : Int)) = true := by simp; omega
          have hd4 : decide ((i : Int) < (k : Int)) = true := by simp; omega
          have hd5 : decide (i < k) = true := by simpa using hlt3
          obtain ⟨g, hg⟩ : ∃ g, mvDn f m k = g := ⟨_, rfl⟩
          rw [hg] at hs2 hp2
          obtain ⟨x0, x1⟩ := hs2.cell k (by omega)
          obtain ⟨y0, y1⟩ := hs2.cell (k - 1) (by omega)
          obtain ⟨X0, X1⟩ := hs2.drew.cell k (by omega)
          obtain ⟨Y0, Y1⟩ := hs2.drew.cell (k - 1) (by omega)
          have hsw := Lib.hid (hs2.swap k (k - 1) E.gdl)
          have hpw := Lib.hid (hp2.swp (i := k) (j := k - 1) (by omega) (by omega))
          have hfe : Hid (swp (mvDn f m k) k (k - 1) = mvDn f m (k - 1)) := Lib.hid (by
            have := mvDn_succ f m (k - 1) (by omega)
            rwa [show k - 1 + 1 = k by omega] at this)
          replace hg := Lib.hid hg
          have n1 : ¬ k = k - 1 := by omega
          have n2 : ¬ k - 1 = k := by omega
          have i1 : (0 : Int) ≤ (k : Int) := by omega
          have i2 : (k : Int) < (n : Int) := by omega
          have i3 : (0 : Int) ≤ (k : Int) - 1 := by omega
          have i4 : (k : Int) - 1 < (n : Int) := by omega
          have i5 : IntKind.i64.wrap ((k : Int) - 1) = (k : Int) - 1 := by rw [IntKind.wrap_i64]; omega
          have i6 : ((k : Int) - 1).toNat = k - 1 := by omega
          clear hs2 hp2
          go_upto_region 23 with fail
          go_region_with fail
          all_goals (go_wp2_with fail)
          all_goals exact ⟨⟨k - 1, by rw [show ((k - 1 : Nat) : Int) = (k : Int) - 1 by omega], by omega, by omega, by rw [← hfe.out, hg.out]; exact hsw.out, by rw [← hfe.out, hg.out]; exact hpw.out⟩, by simp [intOf]; omega⟩
        · have hd3 : decide ((k : Int) > (i : Int)) = false := by simp; omega
          have hd4 : decide ((i : Int) < (k : Int)) = false := by simp; omega
          have hd5 : decide (i < k) = false := by simpa using hlt3
          have hk3 : k = i := by omega
          have hfin := Lib.hid (hin'.out.one_right ⟨hi1, hjb⟩ hlo.out hhi.out (by rw [← hk3]; exact hp2))
          rw [hk3] at hs2
          replace hs2 := Lib.hid hs2
          replace hk3 := Lib.hid hk3
          go_wp2_with fail
          exact bodyPost_ret (v := .tuple #[]) (by simp [results, Try.results70, go_sem]) rfl ⟨rfl, _, hs2.out, hfin.out⟩
end Go.Proofs.Ytdhklfbelplbcaa
