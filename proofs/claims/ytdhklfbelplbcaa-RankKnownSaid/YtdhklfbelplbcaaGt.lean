/- RankKnown: plain laws. -/
import Derived.Test.YtdhklfbelplbcaaGr
import Derived.Test.YtdhklfbelplbcaaGo
namespace Go.Proofs.Ytdhklfbelplbcaa
set_option linter.unusedVariables false
set_option linter.unusedSimpArgs false
open Go.RowKit Ieee

def sA : ByteArray := ⟨#[97]⟩
def sB : ByteArray := ⟨#[98]⟩
def sC : ByteArray := ⟨#[99]⟩
def vs4 : List ByteArray := [⟨#[97]⟩, ⟨#[98]⟩, ⟨#[99]⟩, ⟨#[97]⟩]
def cs3 : List ByteArray := [⟨#[97]⟩, ⟨#[98]⟩, ⟨#[99]⟩]
theorem vs4_of : (([0, 1, 2, 0] : List Int).take 30).map nm = vs4 := by decide +kernel
theorem wt_a (hv : List Nat) : wtP cs3 hv ⟨#[97]⟩ 3 = hv[0]?.getD 0 := by simp [wtP, cs3, ByteArray.toList_eq]
theorem wt_b (hv : List Nat) : wtP cs3 hv ⟨#[98]⟩ 3 = hv[1]?.getD 0 := by simp [wtP, cs3, ByteArray.toList_eq]
theorem wt_c (hv : List Nat) : wtP cs3 hv ⟨#[99]⟩ 3 = hv[2]?.getD 0 := by simp [wtP, cs3, ByteArray.toList_eq]
theorem ct_a : cntP vs4 ⟨#[97]⟩ 4 = 2 := by simp [cntP, vs4, ByteArray.toList_eq]
theorem ct_b : cntP vs4 ⟨#[98]⟩ 4 = 1 := by simp [cntP, vs4, ByteArray.toList_eq]
theorem ct_c : cntP vs4 ⟨#[99]⟩ 4 = 1 := by simp [cntP, vs4, ByteArray.toList_eq]
theorem key_0 (hv : List Nat) : keyR vs4 cs3 hv 0 = keyO (mulO (hv[0]?.getD 0) 2) := by
  show keyO (mulO (wtP cs3 hv ⟨#[97]⟩ 3) (cntP vs4 ⟨#[97]⟩ 4)) = _; rw [wt_a, ct_a]
theorem key_1 (hv : List Nat) : keyR vs4 cs3 hv 1 = keyO (mulO (hv[1]?.getD 0) 1) := by
  show keyO (mulO (wtP cs3 hv ⟨#[98]⟩ 3) (cntP vs4 ⟨#[98]⟩ 4)) = _; rw [wt_b, ct_b]
theorem key_2 (hv : List Nat) : keyR vs4 cs3 hv 2 = keyO (mulO (hv[2]?.getD 0) 1) := by
  show keyO (mulO (wtP cs3 hv ⟨#[99]⟩ 3) (cntP vs4 ⟨#[99]⟩ 4)) = _; rw [wt_c, ct_c]
theorem key_3 (hv : List Nat) : keyR vs4 cs3 hv 3 = keyO (mulO (hv[0]?.getD 0) 2) := by
  show keyO (mulO (wtP cs3 hv ⟨#[97]⟩ 3) (cntP vs4 ⟨#[97]⟩ 4)) = _; rw [wt_a, ct_a]
theorem mul_nan {s : Nat} (x : Nat) (h : nanB s = true) : floatBits .mul .f64 s x = none := by
  rw [nanB_eq] at h
  show (((rdF s).product (rdF x)).map Ieee.double.write) = none
  cases hs : rdF s with
  | nan => cases rdF x <;> rfl
  | number => rw [hs] at h; cases h
  | infinity => rw [hs] at h; cases h
theorem order4 {K : Nat → Int} {f : Nat → Nat} (hf : PermN 4 f) (sf : SegS K f 0 4) (a b c d : Nat) (ha : a < 4) (hb : b < 4) (hc : c < 4) (hd : d < 4) (h1 : LtK K a b) (h2 : LtK K b c) (h3 : LtK K c d) : f 0 = a ∧ f 1 = b ∧ f 2 = c ∧ f 3 = d := by
  have n1 := h1.ne
  have n2 := h2.ne
  have n3 := h3.ne
  have n4 := (h1.trans h2).ne
  have n5 := (h2.trans h3).ne
  have n6 := ((h1.trans h2).trans h3).ne
  have hg : PermN 4 (fun p => if p = 0 then a else if p = 1 then b else if p = 2 then c else d) := by
    refine ⟨fun p hp => ?_, fun p q hp hq e => ?_⟩
    · dsimp only; (repeat' split) <;> assumption
    · dsimp only at e
      rcases (by omega : p = 0 ∨ p = 1 ∨ p = 2 ∨ p = 3) with rfl | rfl | rfl | rfl <;> rcases (by omega : q = 0 ∨ q = 1 ∨ q = 2 ∨ q = 3) with rfl | rfl | rfl | rfl <;> simp at e <;> omega
  have hs : SegS K (fun p => if p = 0 then a else if p = 1 then b else if p = 2 then c else d) 0 4 := by
    intro p q _ hpq hq
    rcases (by omega : (p = 0 ∧ q = 1) ∨ (p = 0 ∧ q = 2) ∨ (p = 0 ∧ q = 3) ∨ (p = 1 ∧ q = 2) ∨ (p = 1 ∧ q = 3) ∨ (p = 2 ∧ q = 3)) with ⟨rfl, rfl⟩ | ⟨rfl, rfl⟩ | ⟨rfl, rfl⟩ | ⟨rfl, rfl⟩ | ⟨rfl, rfl⟩ | ⟨rfl, rfl⟩
    · exact h1
    · exact h1.trans h2
    · exact (h1.trans h2).trans h3
    · exact h2
    · exact h2.trans h3
    · exact h3
  have := sorted_same hf hg sf hs
  exact ⟨this 0 (by omega), this 1 (by omega), this 2 (by omega), this 3 (by omega)⟩

theorem key_nan {s c : Nat} (h : nanB s = true) : keyO (mulO s c) = 2 * big + 2 := by unfold mulO; rw [mul_nan _ h]; rfl
section
variable {f : Nat → Nat} (hf : PermN 4 f)
include hf
theorem ord0 (s : SegS (keyR vs4 cs3 [4607182418800017408, 4609434218613702656, 4607182418800017408]) f 0 4) : f 0 = 0 ∧ f 1 = 3 ∧ f 2 = 1 ∧ f 3 = 2 := by
  refine order4 hf s 0 3 1 2 (by omega) (by omega) (by omega) (by omega) ?_ ?_ ?_ <;> unfold LtK <;> simp only [key_0, key_1, key_2, key_3] <;> decide +kernel
theorem ord1 (nv : Nat) (hn : nanB nv = true) (s : SegS (keyR vs4 cs3 [4607182418800017408, nv, 4607182418800017408]) f 0 4) : f 0 = 1 ∧ f 1 = 0 ∧ f 2 = 3 ∧ f 3 = 2 := by
  have e : keyO (mulO nv 1) = 2 * big + 2 := key_nan hn
  refine order4 hf s 1 0 3 2 (by omega) (by omega) (by omega) (by omega) ?_ ?_ ?_ <;> unfold LtK <;> simp only [key_0, key_1, key_2, key_3, List.getElem?_cons_zero, List.getElem?_cons_succ, Option.getD_some, e] <;> decide +kernel
theorem ord2 (s : SegS (keyR vs4 cs3 [4607182418800017408, 0, pinf]) f 0 4) : f 0 = 2 ∧ f 1 = 0 ∧ f 2 = 3 ∧ f 3 = 1 := by
  refine order4 hf s 2 0 3 1 (by omega) (by omega) (by omega) (by omega) ?_ ?_ ?_ <;> unfold LtK <;> simp only [key_0, key_1, key_2, key_3] <;> decide +kernel
theorem ord3 (s : SegS (keyR vs4 cs3 [0, 0, 0]) f 0 4) : f 0 = 0 ∧ f 1 = 1 ∧ f 2 = 2 ∧ f 3 = 3 := by
  refine order4 hf s 0 1 2 3 (by omega) (by omega) (by omega) (by omega) ?_ ?_ ?_ <;> unfold LtK <;> simp only [key_0, key_1, key_2, key_3] <;> decide +kernel
theorem ord4 (s : SegS (keyR vs4 cs3 [9223372036854775808, 0, 0]) f 0 4) : f 0 = 1 ∧ f 1 = 2 ∧ f 2 = 0 ∧ f 3 = 3 := by
  refine order4 hf s 1 2 0 3 (by omega) (by omega) (by omega) (by omega) ?_ ?_ ?_ <;> unfold LtK <;> simp only [key_0, key_1, key_2, key_3] <;> decide +kernel
theorem ord5 (s : SegS (keyR vs4 cs3 [ninf, 4617315517961601024, ninf]) f 0 4) : f 0 = 1 ∧ f 1 = 0 ∧ f 2 = 2 ∧ f 3 = 3 := by
  refine order4 hf s 1 0 2 3 (by omega) (by omega) (by omega) (by omega) ?_ ?_ ?_ <;> unfold LtK <;> simp only [key_0, key_1, key_2, key_3] <;> decide +kernel
theorem ord6 (s : SegS (keyR vs4 cs3 []) f 0 4) : f 0 = 0 ∧ f 1 = 1 ∧ f 2 = 2 ∧ f 3 = 3 := by
  refine order4 hf s 0 1 2 3 (by omega) (by omega) (by omega) (by omega) ?_ ?_ ?_ <;> unfold LtK <;> simp only [key_0, key_1, key_2, key_3] <;> decide +kernel
end

/-! ### many blocks laid one behind the other -/
def allocs (w : World) : List (Array Value × TypeId) → World
  | [] => w
  | o :: os => allocs (w.alloc (.cells o.1 o.2)) os
theorem allocs_below (os : List (Array Value × TypeId)) : ∀ (w0 w : World), Below w0.heap.size w0 w → Below w0.heap.size w0 (allocs w os) := by
  induction os with
  | nil => intro w0 w h; exact h
  | cons o os ih => intro w0 w h; exact ih w0 _ (bl_alloc h _)
theorem allocs_at (os : List (Array Value × TypeId)) : ∀ (w : World) (i : Nat) (h : i < os.length), (allocs w os).heap[w.heap.size + i]? = some (.cells os[i].1 os[i].2 (0, 0)) := by
  induction os with
  | nil => intro w i h; simp at h
  | cons o os ih =>
    intro w i h
    cases i with
    | zero => exact (allocs_below os (w.alloc (.cells o.1 o.2)) _ (Below.refl _ _)).block _ (by simp) |>.trans (heap_alloc_new w _)
    | succ i =>
      have := ih (w.alloc (.cells o.1 o.2)) i (by simpa using h)
      show (allocs (w.alloc (.cells o.1 o.2)) os).heap[w.heap.size + (i + 1)]? = some (.cells (os[i]'(by simpa using h)).1 (os[i]'(by simpa using h)).2 (0, 0))
      simpa [Nat.add_assoc, Nat.add_comm 1 i] using this
end Go.Proofs.Ytdhklfbelplbcaa
