/- The walks of slices' sorting: a row of places in memory, the comparison, the swap of two stretches. -/
import Derived.Test.YtdhklfbelplbcaaFc
import Derived.Test.YtdhklfbelplbcaaGa
import Derived.Sort.AtCall
import Derived.Shelf.Abstract
namespace Go.Proofs.Ytdhklfbelplbcaa
set_option linter.unusedVariables false
set_option linter.unusedSimpArgs false
open Go.RowKit

/-- a row of places -/
def rowF (n : Nat) (f : Nat → Nat) : List Value := (List.range n).map fun p => Value.int .i64 (f p : Nat)
theorem rowF_len (n : Nat) (f : Nat → Nat) : (rowF n f).length = n := by simp [rowF]
theorem rowF_set (n : Nat) (f : Nat → Nat) (p v : Nat) : (rowF n f).set p (.int .i64 (v : Nat)) = rowF n (upd f p v) := by
  apply List.ext_getElem
  · simp [rowF]
  · intro i h1 h2
    simp only [rowF, List.getElem_set, List.getElem_map, List.getElem_range, upd]
    by_cases e : p = i
    · subst e; simp
    · rw [if_neg e, if_neg (by omega)]
/-- the world while the row gd is being sorted -/
def SortSt (w0 : World) (gd n : Nat) (f : Nat → Nat) (W : World) : Prop := w0.grownBy W (some gd) ∧ W.heap[gd]? = some (.cells (rowF n f).toArray 3 (0, 0))
theorem SortSt.drewN {w0 W : World} {gd n : Nat} {f : Nat → Nat} (h : SortSt w0 gd n f W) (k : Nat) : SortSt w0 gd n f (W.drewN k) :=
  ⟨⟨h.1.os, h.1.tape, h.1.output, h.1.size, h.1.block⟩, h.2⟩
theorem SortSt.drew {w0 W : World} {gd n : Nat} {f : Nat → Nat} (h : SortSt w0 gd n f W) : SortSt w0 gd n f W.drew :=
  ⟨⟨h.1.os, h.1.tape, h.1.output, h.1.size, h.1.block⟩, h.2⟩
theorem SortSt.cell {w0 W : World} {gd n : Nat} {f : Nat → Nat} (h : SortSt w0 gd n f W) (p : Nat) (hp : p < n) : W.cell? ⟨gd, p, none⟩ = some (.int .i64 (f p : Nat)) ∧ W.frozen? ⟨gd, p, none⟩ = false := by
  refine ⟨?_, by simp [World.frozen?, h.2]⟩
  rw [cell_of_row W gd p _ 3 (0, 0) h.2]
  simp [rowF, hp]
theorem SortSt.set {w0 W : World} {gd n : Nat} {f : Nat → Nat} (h : SortSt w0 gd n f W) (p v : Nat) (hgd : gd < w0.heap.size) : SortSt w0 gd n (upd f p v) (W.setCell ⟨gd, p, none⟩ (.int .i64 (v : Nat))) := by
  have hs : W.setCell ⟨gd, p, none⟩ (.int .i64 (v : Nat)) = W.setRow gd (rowF n (upd f p v)).toArray := by
    rw [setCell_eq_setRow W gd p _ 3 (0, 0) _ h.2, List.setIfInBounds_toArray, rowF_set]
  rw [hs]
  refine ⟨⟨h.1.os, h.1.tape, h.1.output, by simpa [World.setRow] using h.1.size, fun k hk hne => ?_⟩, setRow_heap W gd _ _ 3 _ h.2⟩
  rw [setRow_other _ _ _ _ (fun e => hne (by rw [e]))]
  exact h.1.block k hk hne
theorem SortSt.swap {w0 W : World} {gd n : Nat} {f : Nat → Nat} (h : SortSt w0 gd n f W) (i j : Nat) (hgd : gd < w0.heap.size) :
    SortSt w0 gd n (swp f i j) ((W.setCell ⟨gd, i, none⟩ (.int .i64 (f j : Nat))).setCell ⟨gd, j, none⟩ (.int .i64 (f i : Nat))).drew := ((h.set i (f j) hgd).set j (f i) hgd).drew

/-- what the comparison captures: the weights, boxed -/
def HvAt (W : World) (hb gh n : Nat) (hs : List Nat) : Prop := W.heap[hb]? = some (.cells #[.slice (some ⟨gh, 0, none⟩) n n] 25 (0, 0)) ∧ W.heap[gh]? = some (.cells (fl hs).toArray 23 (0, 0)) ∧ hs.length = n
/-- where all lies -/
structure Env (w0 : World) (gd hb gh n : Nat) (hs : List Nat) : Prop where
  hv : HvAt w0 hb gh n hs
  gdl : gd < w0.heap.size
  ne1 : hb ≠ gd
  ne2 : gh ≠ gd
  nb : n ≤ 1000
def FN (hb : Nat) : Value := .func (.func 47) #[] #[.pointer (some ⟨hb, 0, none⟩)]
def keyL (hs : List Nat) (i : Nat) : Int := keyF (hs[i]?.getD 0)
theorem Env.at_ {w0 W : World} {gd hb gh n : Nat} {hs : List Nat} {f : Nat → Nat} (E : Env w0 gd hb gh n hs) (h : SortSt w0 gd n f W) : HvAt W hb gh n hs := by
  obtain ⟨h1, h2, h3⟩ := E.hv
  refine ⟨?_, ?_, h3⟩
  · rw [h.1.block hb (Array.getElem?_eq_some_iff.1 h1).1 (by simp [E.ne1])]; exact h1
  · rw [h.1.block gh (Array.getElem?_eq_some_iff.1 h2).1 (by simp [E.ne2])]; exact h2

set_option maxHeartbeats 2000000 in
theorem cmp_fn {W : World} {hb gh n : Nat} {hs : List Nat} (h : HvAt W hb gh n hs) (x y : Nat) (hx : x < n) (hy : y < n) (hn : n ≤ 1000) :
    Calls Try.prog 47 #[.int .i64 (x : Nat), .int .i64 (y : Nat), .pointer (some ⟨hb, 0, none⟩)] W fun e w' => e = .returned (.int .i64 (cmpK (keyL hs) x y)) ∧ ∃ k, w' = W.drewN k := by
  obtain ⟨h1, h2, h3⟩ := h
  have c0 : W.cell? ⟨hb, 0, none⟩ = some (.slice (some ⟨gh, 0, none⟩) n n) := by rw [cell_of_row W hb 0 _ 25 (0, 0) h1]; rfl
  have cx : W.cell? ⟨gh, x, none⟩ = some (.float .f64 hs[x]) := by rw [cell_of_row W gh x _ 23 (0, 0) h2]; simp [fl, enc, show x < hs.length by omega]
  have cy : W.cell? ⟨gh, y, none⟩ = some (.float .f64 hs[y]) := by rw [cell_of_row W gh y _ 23 (0, 0) h2]; simp [fl, enc, show y < hs.length by omega]
  have hk : Hid (cmpF hs[y] hs[x] = cmpK (keyL hs) x y) := Lib.hid (by
    rw [cmpF_key]
    unfold cmpK keyL
    rw [List.getElem?_eq_getElem (by omega), List.getElem?_eq_getElem (by omega)]
    rfl)
  have i1 : (0 : Int) ≤ (x : Int) := by omega
  have i2 : (x : Int) < (n : Int) := by omega
  have i3 : (0 : Int) ≤ (y : Int) := by omega
  have i4 : (y : Int) < (n : Int) := by omega
  replace h3 := Lib.hid h3
  clear h1 h2
  go_enter Try.func47, Try.ntmps47
  go_wp2_with fail
  go_quiet ((go_at_call 13; exact quiet_same (cmp_any _ _ _)))
  go_wp2_with fail
  go_ret
  exact ⟨ret_int hk.out, _, rfl⟩
end Go.Proofs.Ytdhklfbelplbcaa
