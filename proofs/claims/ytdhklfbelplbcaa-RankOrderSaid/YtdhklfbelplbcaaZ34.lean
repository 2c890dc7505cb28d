/-
  Orders of places: plain laws of sorting in place. No program's text.
  The walks of slices' sorting: a row of places in memory, the comparison, the swap of two stretches.
  The walks of slices' sorting: two stretches changed, insertion.
  The walk of slices' rotation.
-/
import Derived.Test.YtdhklfbelplbcaaZ00
import Derived.Test.YtdhklfbelplbcaaZ01
import Derived.Sort.AtCall
import Derived.Shelf.Abstract
namespace Go.Proofs.Ytdhklfbelplbcaa
set_option linter.unusedVariables false
set_option linter.unusedSimpArgs false
open Go.RowKit

/-- the heavier first, of equals the first place -/
def LtK (K : Nat → Int) (x y : Nat) : Prop := K y < K x ∨ (K x = K y ∧ x < y)
theorem LtK.trans {K : Nat → Int} {x y z : Nat} (h : LtK K x y) (k : LtK K y z) : LtK K x z := by unfold LtK at *; omega
theorem LtK.asymm {K : Nat → Int} {x y : Nat} (h : LtK K x y) : ¬ LtK K y x := by unfold LtK at *; omega
theorem LtK.of_not {K : Nat → Int} {x y : Nat} (hne : x ≠ y) (h : ¬ LtK K x y) : LtK K y x := by
  unfold LtK at h ⊢
  have h1 : ¬ K y < K x := fun e => h (.inl e)
  have h2 : K x = K y → ¬ x < y := fun e e2 => h (.inr ⟨e, e2⟩)
  by_cases e : K x = K y
  · exact .inr ⟨e.symm, by have := h2 e; omega⟩
  · exact .inl (by omega)
theorem LtK.ne {K : Nat → Int} {x y : Nat} (h : LtK K x y) : x ≠ y := by
  rintro rfl
  unfold LtK at h
  omega
/-- what the comparison says of two places -/
def cmpK (K : Nat → Int) (x y : Nat) : Int := cmpI (K y) (K x)
theorem cmpK_lt {K : Nat → Int} {x y : Nat} (h : y < x) : cmpK K x y < 0 ↔ LtK K x y := by
  unfold cmpK cmpI LtK
  by_cases h1 : K y < K x
  · simp [h1]
  · by_cases h2 : K x < K y
    · simp [h1, h2]; omega
    · simp [h1, h2]; omega
theorem cmpK_bd (K : Nat → Int) (x y : Nat) : -1 ≤ cmpK K x y ∧ cmpK K x y ≤ 1 := by
  unfold cmpK cmpI; split <;> (try split) <;> omega

def upd (f : Nat → Nat) (i v : Nat) : Nat → Nat := fun p => if p = i then v else f p
def swp (f : Nat → Nat) (i j : Nat) : Nat → Nat := upd (upd f i (f j)) j (f i)
theorem swp_at (f : Nat → Nat) (i j p : Nat) : swp f i j p = if p = j then f i else if p = i then f j else f p := by
  unfold swp upd; rfl
def PermN (n : Nat) (f : Nat → Nat) : Prop := (∀ p, p < n → f p < n) ∧ (∀ p q, p < n → q < n → f p = f q → p = q)
theorem PermN.swp {n : Nat} {f : Nat → Nat} (h : PermN n f) {i j : Nat} (hi : i < n) (hj : j < n) : PermN n (swp f i j) := by
  obtain ⟨h1, h2⟩ := h
  refine ⟨fun p hp => ?_, fun p q hp hq e => ?_⟩
  · rw [swp_at]
    split
    · exact h1 i hi
    · split
      · exact h1 j hj
      · exact h1 p hp
  · rw [swp_at, swp_at] at e
    split at e <;> split at e <;> (try split at e) <;> (try split at e)
    all_goals (first | omega | (have := h2 _ _ hi hj e; omega) | (have := h2 _ _ hi hq e; omega) | (have := h2 _ _ hj hi e; omega) | (have := h2 _ _ hj hq e; omega) | (have := h2 _ _ hp hi e; omega) | (have := h2 _ _ hp hj e; omega) | (have := h2 _ _ hp hq e; omega))
theorem PermN.ne {n : Nat} {f : Nat → Nat} (h : PermN n f) {p q : Nat} (hp : p < n) (hq : q < n) (hne : p ≠ q) : f p ≠ f q := fun e => hne (h.2 p q hp hq e)
/-- a stretch in order -/
def SegS (K : Nat → Int) (f : Nat → Nat) (a b : Nat) : Prop := ∀ p q, a ≤ p → p < q → q < b → LtK K (f p) (f q)

/-! ### insertion -/
/-- the stretch so far is in order -/
def InsO (K : Nat → Int) (n : Nat) (f0 f : Nat → Nat) (a i : Nat) : Prop :=
  (∀ p, ¬ (a ≤ p ∧ p < i) → f p = f0 p) ∧ SegS K f a i ∧ (∀ p, a ≤ p → p < i → a ≤ f p ∧ f p < i) ∧ PermN n f
/-- the place i stands at j on its way down -/
def InsI (K : Nat → Int) (n : Nat) (f0 f : Nat → Nat) (a i j : Nat) : Prop :=
  a ≤ j ∧ j ≤ i ∧ f j = i ∧ (∀ p, ¬ (a ≤ p ∧ p < i + 1) → f p = f0 p) ∧ (∀ p q, a ≤ p → p < q → q < i + 1 → p ≠ j → q ≠ j → LtK K (f p) (f q)) ∧
  (∀ q, j < q → q < i + 1 → LtK K i (f q)) ∧ (∀ p, a ≤ p → p < i + 1 → p ≠ j → a ≤ f p ∧ f p < i) ∧ PermN n f
theorem InsO.start {K : Nat → Int} {n : Nat} {f0 : Nat → Nat} {a : Nat} (h : PermN n f0) (ha : f0 a = a) : InsO K n f0 f0 a (a + 1) :=
  ⟨fun _ _ => rfl, fun p q h1 h2 h3 => by omega, fun p h1 h2 => by have : p = a := by omega
                                                                   subst this; omega, h⟩
theorem InsO.into {K : Nat → Int} {n : Nat} {f0 f : Nat → Nat} {a i : Nat} (h : InsO K n f0 f a i) (hai : a ≤ i) (hi : f0 i = i) : InsI K n f0 f a i i := by
  obtain ⟨h1, h2, h3, h4⟩ := h
  refine ⟨hai, Nat.le_refl _, by rw [h1 i (by omega)]; exact hi, fun p hp => h1 p (by omega), fun p q k1 k2 k3 k4 k5 => h2 p q k1 k2 (by omega), fun q k1 k2 => by omega, fun p k1 k2 k3 => h3 p k1 (by omega), h4⟩
theorem InsI.step {K : Nat → Int} {n : Nat} {f0 f : Nat → Nat} {a i j : Nat} (h : InsI K n f0 f a i j) (haj : a < j) (hin : i < n) (hlt : LtK K i (f (j - 1))) : InsI K n f0 (swp f j (j - 1)) a i (j - 1) := by
  obtain ⟨h1, h2, h3, h4, h5, h6, h7, h8⟩ := h
  have hs := swp_at f j (j - 1)
  refine ⟨by omega, by omega, by rw [hs, if_pos rfl]; exact h3, fun p hp => ?_, fun p q k1 k2 k3 k4 k5 => ?_, fun q k1 k2 => ?_, fun p k1 k2 k3 => ?_, h8.swp (by omega) (by omega)⟩
  · rw [hs, if_neg (by omega), if_neg (by omega)]
    exact h4 p hp
  · rw [hs, hs, if_neg k4, if_neg k5]
    by_cases e : p = j
    · rw [if_pos e, if_neg (by omega)]
      exact h5 (j - 1) q (by omega) (by omega) k3 (by omega) (by omega)
    · rw [if_neg e]
      by_cases e2 : q = j
      · rw [if_pos e2]
        exact h5 p (j - 1) k1 (by omega) (by omega) (by omega) (by omega)
      · rw [if_neg e2]
        exact h5 p q k1 k2 k3 e e2
  · rw [hs, if_neg (by omega)]
    by_cases e : q = j
    · rw [if_pos e]; exact hlt
    · rw [if_neg e]; exact h6 q (by omega) k2
  · rw [hs, if_neg k3]
    by_cases e : p = j
    · rw [if_pos e]; exact h7 (j - 1) (by omega) (by omega) (by omega)
    · rw [if_neg e]; exact h7 p k1 k2 e
theorem InsI.done {K : Nat → Int} {n : Nat} {f0 f : Nat → Nat} {a i j : Nat} (h : InsI K n f0 f a i j) (hend : j = a ∨ LtK K (f (j - 1)) i) : InsO K n f0 f a (i + 1) := by
  obtain ⟨h1, h2, h3, h4, h5, h6, h7, h8⟩ := h
  refine ⟨h4, fun p q k1 k2 k3 => ?_, fun p k1 k2 => ?_, h8⟩
  · by_cases e : p = j
    · subst e
      rw [h3]
      exact h6 q k2 k3
    · by_cases e2 : q = j
      · subst e2
        rw [h3]
        rcases hend with hend | hend
        · omega
        · by_cases e3 : p = q - 1
          · subst e3; exact hend
          · exact (h5 p (q - 1) k1 (by omega) (by omega) e (by omega)).trans hend
      · exact h5 p q k1 k2 k3 e e2
  · by_cases e : p = j
    · subst e
      rw [h3]
      omega
    · have := h7 p k1 k2 e
      omega
theorem InsI.cmp {K : Nat → Int} {n : Nat} {f0 f : Nat → Nat} {a i j : Nat} (h : InsI K n f0 f a i j) (haj : a < j) : f (j - 1) < i := (h.2.2.2.2.2.2.1 (j - 1) (by omega) (by have := h.2.1; omega) (by omega)).2
end Go.Proofs.Ytdhklfbelplbcaa
namespace Go.Proofs.Ytdhklfbelplbcaa
set_option linter.unusedVariables false
set_option linter.unusedSimpArgs false
open Go.RowKit

/-- a row of places -/
def rowF (n : Nat) (f : Nat → Nat) : List Value := (List.range n).map fun p => Value.int .i64 (f p : Nat)
theorem rowF_len (n : Nat) (f : Nat → Nat) : (rowF n f).length = n := by simp [rowF]
theorem rowF_set (n : Nat) (f : Nat → Nat) (p v : Nat) : (rowF n f).set p (.int .i64 (v : Nat)) = rowF n (upd f p v) := by
  apply List.ext_getElem
  · simp [rowF]
  · intro i h1 h2
    simp only [rowF, List.getElem_set, List.getElem_map, List.getElem_range, upd]
    by_cases e : p = i
    · subst e; simp
    · rw [if_neg e, if_neg (by omega)]
/-- the world while the row gd is being sorted -/
def SortSt (w0 : World) (gd n : Nat) (f : Nat → Nat) (W : World) : Prop := w0.grownBy W (some gd) ∧ W.heap[gd]? = some (.cells (rowF n f).toArray 3 (0, 0))
theorem SortSt.drewN {w0 W : World} {gd n : Nat} {f : Nat → Nat} (h : SortSt w0 gd n f W) (k : Nat) : SortSt w0 gd n f (W.drewN k) :=
  ⟨⟨h.1.os, h.1.tape, h.1.output, h.1.size, h.1.block⟩, h.2⟩
theorem SortSt.drew {w0 W : World} {gd n : Nat} {f : Nat → Nat} (h : SortSt w0 gd n f W) : SortSt w0 gd n f W.drew :=
  ⟨⟨h.1.os, h.1.tape, h.1.output, h.1.size, h.1.block⟩, h.2⟩
theorem SortSt.cell {w0 W : World} {gd n : Nat} {f : Nat → Nat} (h : SortSt w0 gd n f W) (p : Nat) (hp : p < n) : W.cell? ⟨gd, p, none⟩ = some (.int .i64 (f p : Nat)) ∧ W.frozen? ⟨gd, p, none⟩ = false := by
  refine ⟨?_, by simp [World.frozen?, h.2]⟩
  rw [cell_of_row W gd p _ 3 (0, 0) h.2]
  simp [rowF, hp]
theorem SortSt.set {w0 W : World} {gd n : Nat} {f : Nat → Nat} (h : SortSt w0 gd n f W) (p v : Nat) (hgd : gd < w0.heap.size) : SortSt w0 gd n (upd f p v) (W.setCell ⟨gd, p, none⟩ (.int .i64 (v : Nat))) := by
  have hs : W.setCell ⟨gd, p, none⟩ (.int .i64 (v : Nat)) = W.setRow gd (rowF n (upd f p v)).toArray := by
    rw [setCell_eq_setRow W gd p _ 3 (0, 0) _ h.2, List.setIfInBounds_toArray, rowF_set]
  rw [hs]
  refine ⟨⟨h.1.os, h.1.tape, h.1.output, by simpa [World.setRow] using h.1.size, fun k hk hne => ?_⟩, setRow_heap W gd _ _ 3 _ h.2⟩
  rw [setRow_other _ _ _ _ (fun e => hne (by rw [e]))]
  exact h.1.block k hk hne
theorem SortSt.swap {w0 W : World} {gd n : Nat} {f : Nat → Nat} (h : SortSt w0 gd n f W) (i j : Nat) (hgd : gd < w0.heap.size) :
    SortSt w0 gd n (swp f i j) ((W.setCell ⟨gd, i, none⟩ (.int .i64 (f j : Nat))).setCell ⟨gd, j, none⟩ (.int .i64 (f i : Nat))).drew := ((h.set i (f j) hgd).set j (f i) hgd).drew

/-- what the comparison captures: the weights, boxed -/
def HvAt (W : World) (hb gh n : Nat) (hs : List Nat) : Prop := W.heap[hb]? = some (.cells #[.slice (some ⟨gh, 0, none⟩) n n] 25 (0, 0)) ∧ W.heap[gh]? = some (.cells (fl hs).toArray 23 (0, 0)) ∧ hs.length = n
/-- where all lies -/
structure Env (w0 : World) (gd hb gh n : Nat) (hs : List Nat) : Prop where
  hv : HvAt w0 hb gh n hs
  gdl : gd < w0.heap.size
  ne1 : hb ≠ gd
  ne2 : gh ≠ gd
  nb : n ≤ 1000
def FNG (hb : Nat) : Value := .func (.func 47) #[] #[.pointer (some ⟨hb, 0, none⟩)]
def keyL (hs : List Nat) (i : Nat) : Int := keyF (hs[i]?.getD 0)
theorem Env.at_ {w0 W : World} {gd hb gh n : Nat} {hs : List Nat} {f : Nat → Nat} (E : Env w0 gd hb gh n hs) (h : SortSt w0 gd n f W) : HvAt W hb gh n hs := by
  obtain ⟨h1, h2, h3⟩ := E.hv
  refine ⟨?_, ?_, h3⟩
  · rw [h.1.block hb (Array.getElem?_eq_some_iff.1 h1).1 (by simp [E.ne1])]; exact h1
  · rw [h.1.block gh (Array.getElem?_eq_some_iff.1 h2).1 (by simp [E.ne2])]; exact h2

set_option maxHeartbeats 2000000 in
theorem cmp_fn {W : World} {hb gh n : Nat} {hs : List Nat} (h : HvAt W hb gh n hs) (x y : Nat) (hx : x < n) (hy : y < n) (hn : n ≤ 1000) :
    Calls Try.prog 47 #[.int .i64 (x : Nat), .int .i64 (y : Nat), .pointer (some ⟨hb, 0, none⟩)] W fun e w' => e = .returned (.int .i64 (cmpK (keyL hs) x y)) ∧ ∃ k, w' = W.drewN k := by
  obtain ⟨h1, h2, h3⟩ := h
  have c0 : W.cell? ⟨hb, 0, none⟩ = some (.slice (some ⟨gh, 0, none⟩) n n) := by rw [cell_of_row W hb 0 _ 25 (0, 0) h1]; rfl
  have cx : W.cell? ⟨gh, x, none⟩ = some (.float .f64 hs[x]) := by rw [cell_of_row W gh x _ 23 (0, 0) h2]; simp [fl, enc, show x < hs.length by omega]
  have cy : W.cell? ⟨gh, y, none⟩ = some (.float .f64 hs[y]) := by rw [cell_of_row W gh y _ 23 (0, 0) h2]; simp [fl, enc, show y < hs.length by omega]
  have hk : Hid (cmpF hs[y] hs[x] = cmpK (keyL hs) x y) := Lib.hid (by
    rw [cmpF_key]
    unfold cmpK keyL
    rw [List.getElem?_eq_getElem (by omega), List.getElem?_eq_getElem (by omega)]
    rfl)
  have i1 : (0 : Int) ≤ (x : Int) := by omega
  have i2 : (x : Int) < (n : Int) := by omega
  have i3 : (0 : Int) ≤ (y : Int) := by omega
  have i4 : (y : Int) < (n : Int) := by omega
  replace h3 := Lib.hid h3
  clear h1 h2
  go_enter Try.func47, Try.ntmps47
  go_wp2_with fail
  go_quiet ((go_at_call 13; exact quiet_same (cmp_any _ _ _)))
  go_wp2_with fail
  go_ret
  exact ⟨ret_int hk.out, _, rfl⟩
end Go.Proofs.Ytdhklfbelplbcaa
namespace Go.Proofs.Ytdhklfbelplbcaa
set_option linter.unusedVariables false
set_option linter.unusedSimpArgs false
open Go.RowKit

/-- two stretches changed for each other -/
def swR (f : Nat → Nat) (a b k : Nat) : Nat → Nat := fun p => if a ≤ p ∧ p < a + k then f (p - a + b) else if b ≤ p ∧ p < b + k then f (p - b + a) else f p
theorem swR_zero (f : Nat → Nat) (a b : Nat) : swR f a b 0 = f := by
  funext p
  unfold swR
  rw [if_neg (by omega), if_neg (by omega)]
theorem swR_succ (f : Nat → Nat) (a b k : Nat) (h : a + (k + 1) ≤ b) : swp (swR f a b k) (a + k) (b + k) = swR f a b (k + 1) := by
  funext p
  rw [swp_at]
  unfold swR
  by_cases h1 : p = b + k
  · rw [if_pos h1, if_neg (by omega), if_neg (by omega), if_neg (by omega), if_pos (by omega)]
    congr 1; omega
  · rw [if_neg h1]
    by_cases h2 : p = a + k
    · rw [if_pos h2, if_neg (by omega), if_neg (by omega), if_pos (by omega)]
      congr 1; omega
    · rw [if_neg h2]
      by_cases h3 : a ≤ p ∧ p < a + k
      · rw [if_pos h3, if_pos (by omega)]
      · rw [if_neg h3, if_neg (show ¬ (a ≤ p ∧ p < a + (k + 1)) by omega)]
        by_cases h4 : b ≤ p ∧ p < b + k
        · rw [if_pos h4, if_pos (by omega)]
        · rw [if_neg h4, if_neg (by omega)]

variable {w0 : World} {gd hb gh n : Nat} {hs : List Nat}
set_option maxHeartbeats 4000000 in
set_option maxRecDepth 100000 in
theorem swaprange_any (E : Env w0 gd hb gh n hs) (a b k : Nat) (f : Nat → Nat) (W : World) (hst : SortSt w0 gd n f W) (hp : PermN n f) (hab : a + k ≤ b) (hbn : b + k ≤ n) :
    Calls Try.prog 72 #[.slice (some ⟨gd, 0, none⟩) n n, .int .i64 (a : Nat), .int .i64 (b : Nat), .int .i64 (k : Nat), FNG hb] W fun e w' => e = .returned (.tuple #[]) ∧ SortSt w0 gd n (swR f a b k) w' ∧ PermN n (swR f a b k) := by
  have hnb := E.nb
  unfold FNG
  have hst' := Lib.hid hst
  have hp' := Lib.hid hp
  clear hst hp
  go_enter Try.func72, Try.ntmps72
  go_wp2_with fail
  go_loopw [10] (fun i wr => ∃ j : Nat, i = .int .i64 j ∧ j ≤ k ∧ SortSt w0 gd n (swR f a b j) wr ∧ PermN n (swR f a b j)) (fun i _ => k - (intOf i).toNat)
  case atStart => exact ⟨0, rfl, by omega, by rw [swR_zero]; exact hst'.out, by rw [swR_zero]; exact hp'.out⟩
  case round =>
    obtain ⟨j, rfl, hj, hs1, hp1⟩ := hrel
    by_cases hlt : j < k
    · have hd : decide (j < k) = true := by simpa using hlt
      have hd2 : decide ((j : Int) < (k : Int)) = true := by simp; omega
      generalize hf : swR f a b j = fj at hs1 hp1
      obtain ⟨x0, x1⟩ := hs1.cell (a + j) (by omega)
      obtain ⟨y0, y1⟩ := hs1.cell (b + j) (by omega)
      obtain ⟨X0, X1⟩ := hs1.drew.cell (a + j) (by omega)
      obtain ⟨Y0, Y1⟩ := hs1.drew.cell (b + j) (by omega)
      have hsw := Lib.hid (hs1.swap (a + j) (b + j) E.gdl)
      have hpw := Lib.hid (hp1.swp (i := a + j) (j := b + j) (by omega) (by omega))
      have hfe := Lib.hid (swR_succ f a b j (by omega))
      replace hf := Lib.hid hf
      have n1 : ¬ a + j = b + j := by omega
      have n2 : ¬ b + j = a + j := by omega
      have i1 : (0 : Int) ≤ (a : Int) + (j : Int) := by omega
      have i2 : (a : Int) + (j : Int) < (n : Int) := by omega
      have i3 : (0 : Int) ≤ (b : Int) + (j : Int) := by omega
      have i4 : (b : Int) + (j : Int) < (n : Int) := by omega
      have i5 : IntKind.i64.wrap ((a : Int) + (j : Int)) = (a : Int) + (j : Int) := by rw [IntKind.wrap_i64]; omega
      have i6 : IntKind.i64.wrap ((b : Int) + (j : Int)) = (b : Int) + (j : Int) := by rw [IntKind.wrap_i64]; omega
      have i7 : ((a : Int) + (j : Int)).toNat = a + j := by omega
      have i8 : ((b : Int) + (j : Int)).toNat = b + j := by omega
      clear hs1 hp1
      go_upto_region 3 with fail
      go_region_with fail
      all_goals (go_wp2_with fail)
      all_goals exact ⟨⟨j + 1, by go_num, by omega, by rw [← hfe.out, hf.out]; exact hsw.out, by rw [← hfe.out, hf.out]; exact hpw.out⟩, by simp [intOf]; omega⟩
    · have hd : decide (j < k) = false := by simpa using hlt
      have hd2 : decide ((j : Int) < (k : Int)) = false := by simp; omega
      have hjk : j = k := by omega
      subst hjk
      go_wp2_with fail
      first | go_end0 | go_ret
      exact ⟨rfl, hs1, hp1⟩

theorem cmp_quiet {W : World} {hb gh n : Nat} {hs : List Nat} {m : Nat} (h : HvAt W hb gh n hs) (x y : Nat) (hx : x < n) (hy : y < n) (hn : n ≤ 1000) {c : Int} (hc : Hid (cmpK (keyL hs) x y = c)) :
    Calls Try.prog 47 #[.int .i64 (x : Nat), .int .i64 (y : Nat), .pointer (some ⟨hb, 0, none⟩)] (W.drewN m) fun e w' => e = .returned (.int .i64 c) ∧ ∃ k, w' = W.drewN k := by
  have h' : HvAt (W.drewN m) hb gh n hs := h
  refine (cmp_fn h' x y hx hy hn).mono ?_
  rintro e w' ⟨rfl, k, rfl⟩
  exact ⟨by rw [hc.out], m + k, by simp [World.drewN, Nat.add_assoc]⟩

set_option maxHeartbeats 8000000 in
set_option maxRecDepth 100000 in
theorem insert_any (E : Env w0 gd hb gh n hs) (a b : Nat) (f : Nat → Nat) (W : World) (hst : SortSt w0 gd n f W) (hp : PermN n f) (hid : ∀ p, a ≤ p → p < b → f p = p) (hbn : b ≤ n) (han : a ≤ n) :
    Calls Try.prog 69 #[.slice (some ⟨gd, 0, none⟩) n n, .int .i64 (a : Nat), .int .i64 (b : Nat), FNG hb] W fun e w' => e = .returned (.tuple #[]) ∧ ∃ f', SortSt w0 gd n f' w' ∧ PermN n f' ∧ (∀ p, ¬ (a ≤ p ∧ p < b) → f' p = f p) ∧ SegS (keyL hs) f' a b ∧ (∀ p, a ≤ p → p < b → a ≤ f' p ∧ f' p < b) := by
  have hnb := E.nb
  unfold FNG
  by_cases hab : a < b
  · have hst' := Lib.hid hst
    have hp' := Lib.hid hp
    have hid' := Lib.hid hid
    clear hst hp hid
    go_enter Try.func69, Try.ntmps69
    go_wp2_with fail
    go_loopw [8] (fun i wr => ∃ (i' : Nat) (f' : Nat → Nat), i = .int .i64 i' ∧ a + 1 ≤ i' ∧ i' ≤ b ∧ SortSt w0 gd n f' wr ∧ InsO (keyL hs) n f f' a i') (fun i _ => b - (intOf i).toNat)
    case atStart => exact ⟨a + 1, f, by go_num, by omega, by omega, hst'.out, InsO.start hp'.out (hid'.out a (by omega) hab)⟩
    case round =>
      obtain ⟨i, f1, rfl, hi1, hi2, hs1, ho1⟩ := hrel
      by_cases hlt : i < b
      · have hd : decide (i < b) = true := by simpa using hlt
        have hd2 : decide ((i : Int) < (b : Int)) = true := by simp; omega
        have hin := ho1.into (by omega) (hid'.out i (by omega) hlt)
        have hfi : i < n := by omega
        clear ho1
        go_wp2_with fail
        go_loopw [9] (fun j wr => ∃ (j' : Nat) (f' : Nat → Nat), j = .int .i64 j' ∧ SortSt w0 gd n f' wr ∧ InsI (keyL hs) n f f' a i j') (fun j _ => (intOf j).toNat)
        case atStart => exact ⟨i, f1, rfl, hs1, hin⟩
        case round =>
          obtain ⟨j, f2, rfl, hs2, hn2⟩ := hrel
          have haj : a ≤ j := hn2.1
          have hji : j ≤ i := hn2.2.1
          by_cases hja : a < j
          · have hg : decide (a < j) = true := by simpa using hja
            have hg2 : decide ((j : Int) > (a : Int)) = true := by simp; omega
            have hg3 : decide ((a : Int) < (j : Int)) = true := by simp; omega
            have hcl := hn2.cmp hja
            have hfj : f2 j = i := hn2.2.2.1
            obtain ⟨x0, x1⟩ := hs2.cell j (by omega)
            obtain ⟨y0, y1⟩ := hs2.cell (j - 1) (by omega)
            rw [hfj] at x0
            obtain ⟨u, hu⟩ : ∃ u, f2 (j - 1) = u := ⟨_, rfl⟩
            rw [hu] at y0 hcl
            obtain ⟨c, hc⟩ : ∃ c, cmpK (keyL hs) i u = c := ⟨_, rfl⟩
            have hcb := cmpK_bd (keyL hs) i u
            rw [hc] at hcb
            have hv := Lib.hid (E.at_ hs2)
            replace hc := Lib.hid hc
            replace hu := Lib.hid hu
            replace hfj := Lib.hid hfj
            have k1 : (0 : Int) ≤ (j : Int) := by omega
            have k2 : (j : Int) < (n : Int) := by omega
            have k3 : (0 : Int) ≤ (j : Int) - 1 := by omega
            have k4 : (j : Int) - 1 < (n : Int) := by omega
            have k5 : IntKind.i64.wrap ((j : Int) - 1) = (j : Int) - 1 := by rw [IntKind.wrap_i64]; omega
            have k6 : ((j : Int) - 1).toNat = j - 1 := by omega
            by_cases hl : c < 0
            · have hl1 : decide (c < 0) = true := by simpa using hl
              have hlt2 : LtK (keyL hs) i (f2 (j - 1)) := by rw [hu.out]; exact (cmpK_lt hcl).1 (by rw [hc.out]; exact hl)
              have hst := Lib.hid (hn2.step hja (by omega) hlt2)
              have hsw : Hid (∀ q, SortSt w0 gd n (swp f2 j (j - 1)) (((wr.drewN q).setCell ⟨gd, j, none⟩ (.int .i64 (u : Nat))).setCell ⟨gd, j - 1, none⟩ (.int .i64 (i : Nat)))) := Lib.hid (fun q => by
                have h1 := ((hs2.drewN q).set j (f2 (j - 1)) E.gdl).set (j - 1) (f2 j) E.gdl
                rw [hu.out, hfj.out] at h1
                unfold swp
                rw [hu.out, hfj.out]
                exact h1)
              clear hn2 hs2 hlt2
              have n1 : ¬ j = j - 1 := by omega
              have n2 : ¬ j - 1 = j := by omega
              go_upto_region 4 with fail
              go_quiet ((go_at_call 47; exact cmp_quiet hv.out i u (by omega) (by omega) hnb hc))
              go_upto_region 6 with fail
              go_region_with fail
              all_goals (go_wp2_with fail)
              all_goals exact ⟨⟨j - 1, swp f2 j (j - 1), by rw [show ((j - 1 : Nat) : Int) = (j : Int) - 1 by omega], hsw.out _, hst.out⟩, by simp [intOf]; omega⟩
            · have hl1 : decide (c < 0) = false := by simpa using hl
              have hlt2 : LtK (keyL hs) (f2 (j - 1)) i := by
                rw [hu.out]
                exact LtK.of_not (by omega) (fun h => hl (by rw [← hc.out]; exact (cmpK_lt hcl).2 h))
              have hdn := Lib.hid (hn2.done (.inr hlt2))
              replace hs2 := Lib.hid hs2
              clear hn2 hlt2
              go_upto_region 4 with fail
              go_quiet ((go_at_call 47; exact cmp_quiet hv.out i u (by omega) (by omega) hnb hc))
              go_wp2_with fail
              exact ⟨⟨i + 1, f2, by go_num, by omega, by omega, hs2.out.drewN _, hdn.out⟩, by simp [intOf]; omega⟩
          · have hja2 : j = a := by omega
            have hg : decide (a < j) = false := by simpa using hja
            have hg2 : decide ((j : Int) > (a : Int)) = false := by simp; omega
            have hg3 : decide ((a : Int) < (j : Int)) = false := by simp; omega
            have hdn := Lib.hid (hn2.done (.inl hja2))
            replace hs2 := Lib.hid hs2
            replace hja2 := Lib.hid hja2
            clear hn2
            go_upto_region 4 with fail
            go_quiet (fail)
            go_wp2_with fail
            exact ⟨⟨i + 1, f2, by go_num, by omega, by omega, hs2.out.drewN _, hdn.out⟩, by simp [intOf]; omega⟩
      · have hd : decide (i < b) = false := by simpa using hlt
        have hd2 : decide ((i : Int) < (b : Int)) = false := by simp; omega
        have hib : i = b := by omega
        subst hib
        go_wp2_with fail
        first | go_end0 | go_ret
        obtain ⟨h1, h2, h3, h4⟩ := ho1
        exact ⟨rfl, f1, hs1, h4, h1, h2, h3⟩
  · have hd : decide (a + 1 < b) = false := by simp; omega
    have hd2 : decide ((a : Int) + 1 < (b : Int)) = false := by simp; omega
    have hst' := Lib.hid hst
    have hp' := Lib.hid hp
    clear hst hp hid
    go_enter Try.func69, Try.ntmps69
    go_wp2_with fail
    go_loopw [8] (fun i wr => i = .int .i64 ((a : Int) + 1) ∧ wr = W) (fun _ _ => 0)
    case atStart => exact ⟨rfl, rfl⟩
    case round =>
      obtain ⟨rfl, rfl⟩ := hrel
      go_wp2_with fail
      first | go_end0 | go_ret
      exact ⟨rfl, f, hst'.out, hp'.out, fun _ _ => rfl, fun p q h1 h2 h3 => by omega, fun p h1 h2 => by omega⟩
end Go.Proofs.Ytdhklfbelplbcaa
namespace Go.Proofs.Ytdhklfbelplbcaa
set_option linter.unusedVariables false
set_option linter.unusedSimpArgs false
open Go.RowKit

/-- two neighbours change their places: [a, m) and [m, b) -/
def rotR (f : Nat → Nat) (a m b : Nat) : Nat → Nat := fun p => if a ≤ p ∧ p < a + (b - m) then f (p + (m - a)) else if a + (b - m) ≤ p ∧ p < b then f (p - (b - m)) else f p
/-- what is still to be rotated: i ahead of m, j behind it -/
def RotI (f f1 : Nat → Nat) (a m b i j : Nat) : Prop :=
  (∀ p, p < m - i ∨ m + j ≤ p → f1 p = rotR f a m b p) ∧ (∀ p, m - i ≤ p → p < m - i + j → rotR f a m b p = f1 (p + i)) ∧ (∀ p, m - i + j ≤ p → p < m + j → rotR f a m b p = f1 (p - j))
theorem RotI.start (f : Nat → Nat) (a m b : Nat) (h1 : a < m) (h2 : m < b) : RotI f f a m b (m - a) (b - m) := by
  refine ⟨fun p hp => ?_, fun p k1 k2 => ?_, fun p k1 k2 => ?_⟩
  · unfold rotR; rw [if_neg (by omega), if_neg (by omega)]
  · unfold rotR; rw [if_pos (by omega)]
  · unfold rotR; rw [if_neg (by omega), if_pos (by omega)]
theorem RotI.left {f f1 : Nat → Nat} {a m b i j : Nat} (h : RotI f f1 a m b i j) (hi : i ≤ m) (hij : j < i) : RotI f (swR f1 (m - i) m j) a m b (i - j) j := by
  obtain ⟨hA, hB, hC⟩ := h
  refine ⟨fun p hp => ?_, fun p k1 k2 => ?_, fun p k1 k2 => ?_⟩
  · unfold swR
    by_cases c1 : m - i ≤ p ∧ p < m - i + j
    · rw [if_pos c1, hB p c1.1 c1.2]; congr 1; omega
    · rw [if_neg c1, if_neg (by omega)]; exact hA p (by omega)
  · rw [hC p (by omega) (by omega)]
    unfold swR
    rw [if_neg (by omega), if_pos (by omega)]; congr 1; omega
  · rw [hC p (by omega) (by omega)]
    unfold swR
    rw [if_neg (by omega), if_neg (by omega)]
theorem RotI.right {f f1 : Nat → Nat} {a m b i j : Nat} (h : RotI f f1 a m b i j) (hi : i ≤ m) (hij : i < j) : RotI f (swR f1 (m - i) (m + j - i) i) a m b i (j - i) := by
  obtain ⟨hA, hB, hC⟩ := h
  refine ⟨fun p hp => ?_, fun p k1 k2 => ?_, fun p k1 k2 => ?_⟩
  · unfold swR
    by_cases c1 : m + j - i ≤ p ∧ p < m + j - i + i
    · rw [if_neg (by omega), if_pos c1, hC p (by omega) (by omega)]; congr 1; omega
    · rw [if_neg (by omega), if_neg c1]; exact hA p (by omega)
  · rw [hB p (by omega) (by omega)]
    unfold swR
    rw [if_neg (by omega), if_neg (by omega)]
  · rw [hB p (by omega) (by omega)]
    unfold swR
    rw [if_pos (by omega)]; congr 1; omega
theorem RotI.last {f f1 : Nat → Nat} {a m b i : Nat} (h : RotI f f1 a m b i i) (hi : i ≤ m) : swR f1 (m - i) m i = rotR f a m b := by
  obtain ⟨hA, hB, hC⟩ := h
  funext p
  unfold swR
  by_cases c1 : m - i ≤ p ∧ p < m - i + i
  · rw [if_pos c1, hB p c1.1 c1.2]; congr 1; omega
  · rw [if_neg c1]
    by_cases c2 : m ≤ p ∧ p < m + i
    · rw [if_pos c2, hC p (by omega) (by omega)]; congr 1; omega
    · rw [if_neg c2]; exact hA p (by omega)

variable {w0 : World} {gd hb gh n : Nat} {hs : List Nat}
set_option maxHeartbeats 4000000 in
set_option maxRecDepth 100000 in
theorem rotate_any (E : Env w0 gd hb gh n hs) (a m b : Nat) (f : Nat → Nat) (W : World) (hst : SortSt w0 gd n f W) (hp : PermN n f) (ham : a < m) (hmb : m < b) (hbn : b ≤ n) :
    Calls Try.prog 71 #[.slice (some ⟨gd, 0, none⟩) n n, .int .i64 (a : Nat), .int .i64 (m : Nat), .int .i64 (b : Nat), FNG hb] W fun e w' => e = .returned (.tuple #[]) ∧ SortSt w0 gd n (rotR f a m b) w' ∧ PermN n (rotR f a m b) := by
  have hnb := E.nb
  have hst' := Lib.hid hst
  have hp' := Lib.hid hp
  clear hst hp
  have hsr := Lib.hid (RotI.start f a m b ham hmb)
  have e1 : ((m - a : Nat) : Int) = (m : Int) - (a : Int) := by omega
  have e2 : ((b - m : Nat) : Int) = (b : Int) - (m : Int) := by omega
  replace e1 := Lib.hid e1
  replace e2 := Lib.hid e2
  go_enter Try.func71, Try.ntmps71
  go_wp2_with fail
  go_loopw [10, 11] (fun i j wr => ∃ (i' j' : Nat) (f1 : Nat → Nat), i = .int .i64 (i' : Nat) ∧ j = .int .i64 (j' : Nat) ∧ 0 < i' ∧ 0 < j' ∧ i' ≤ m - a ∧ j' ≤ b - m ∧ SortSt w0 gd n f1 wr ∧ PermN n f1 ∧ RotI f f1 a m b i' j') (fun i j _ => (intOf i).toNat + (intOf j).toNat)
  case atStart => exact ⟨m - a, b - m, f, by rw [e1.out], by rw [e2.out], by omega, by omega, Nat.le_refl _, Nat.le_refl _, hst'.out, hp'.out, hsr.out⟩
  case round =>
    obtain ⟨i, j, f1, rfl, rfl, hi0, hj0, him, hjm, hs1, hp1, hr1⟩ := hrel
    have hs1' := Lib.hid hs1
    have hp1' := Lib.hid hp1
    have hr1' := Lib.hid hr1
    clear hs1 hp1 hr1
    have q1 : (m : Int) - (i : Int) = ((m - i : Nat) : Int) := by omega
    have q2 : (m : Int) + (j : Int) - (i : Int) = ((m + j - i : Nat) : Int) := by omega
    replace q1 := Lib.hid q1
    replace q2 := Lib.hid q2
    by_cases hij : i = j
    · subst hij
      have hd : ((i : Int) != (i : Int)) = false := by simp
      go_wp2_with (go_at_call 72; rw [q1.out]; refine (swaprange_any E (m - i) m i f1 _ hs1'.out hp1'.out (by omega) (by omega)).mono ?_; rintro e w' ⟨rfl, h1, h2⟩; rw [hr1'.out.last (by omega)] at h1 h2; replace h1 := Lib.hid h1; replace h2 := Lib.hid h2)
      first | go_end0 | go_ret
      exact ⟨rfl, h1.out, h2.out⟩
    · have hd : ((i : Int) == (j : Int)) = false := by simp; omega
      have hd1 : ((i : Int) != (j : Int)) = true := by simp only [bne, hd, Bool.not_false]
      by_cases hlt : j < i
      · have hd2 : decide (j < i) = true := by simpa using hlt
        have hd3 : decide ((i : Int) > (j : Int)) = true := by simp; omega
        have hl := Lib.hid (hr1'.out.left (by omega) hlt)
        go_wp2_with (go_at_call 72; rw [q1.out]; refine (swaprange_any E (m - i) m j f1 _ hs1'.out hp1'.out (by omega) (by omega)).mono ?_; rintro e w' ⟨rfl, h1, h2⟩; replace h1 := Lib.hid h1; replace h2 := Lib.hid h2)
        exact ⟨⟨i - j, j, _, by rw [show ((i - j : Nat) : Int) = (i : Int) - (j : Int) by omega], rfl, by omega, by omega, by omega, by omega, h1.out, h2.out, hl.out⟩, by simp [intOf]; omega⟩
      · have hd2 : decide (j < i) = false := by simpa using hlt
        have hd3 : decide ((i : Int) > (j : Int)) = false := by simp; omega
        have hl := Lib.hid (hr1'.out.right (by omega) (by omega))
        go_wp2_with (go_at_call 72; rw [q1.out, q2.out]; refine (swaprange_any E (m - i) (m + j - i) i f1 _ hs1'.out hp1'.out (by omega) (by omega)).mono ?_; rintro e w' ⟨rfl, h1, h2⟩; replace h1 := Lib.hid h1; replace h2 := Lib.hid h2)
        exact ⟨⟨i, j - i, _, rfl, by rw [show ((j - i : Nat) : Int) = (j : Int) - (i : Int) by omega], by omega, by omega, by omega, by omega, h1.out, h2.out, hl.out⟩, by simp [intOf]; omega⟩
end Go.Proofs.Ytdhklfbelplbcaa
