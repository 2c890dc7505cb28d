/-
  Raw statements, opened: an argument of type []Raw is a tree.
  The orders of drawn regions of RankOrder.
-/
import Derived.Test.YtdhklfbelplbcaaZ03
import Derived.ChangeArms
import Derived.ChangeSlices
import Derived.DataReads
import Derived.KernelRfl
import Derived.Test.YtdhklfbelplbcaaZ10
namespace Go.Proofs.Ytdhklfbelplbcaa
set_option linter.unusedVariables false
open Go.RowKit

theorem cellsOf43 : Try.prog.cellsOf 43 = 4 := by kernel_rfl
theorem cellsOf3 : Try.prog.cellsOf 3 = 1 := by kernel_rfl
theorem cellsOf35 : Try.prog.cellsOf 35 = 1 := by kernel_rfl
theorem add_at (a : Addr) (k j : Nat) (hj : 0 < j) : (⟨(a.add k).block, (a.add k).off + j, none⟩ : Addr) = (a.add k).add j ∨ True := .inr trivial
theorem cell_add {w : World} {a : Addr} {j : Nat} {v : Value} (hj : 0 < j) (h : w.cell? (a.add j) = some v) : w.cell? ⟨a.block, a.off + j, none⟩ = some v := by
  unfold Addr.add at h
  rw [if_neg (by omega)] at h
  exact h
theorem add_zero' (a : Addr) : a.add 0 = a := by unfold Addr.add; simp
/-- what a slice of raw statements holds -/
theorem raw_open {H : Type} {enc : TypeId × Value → H} {w : World} {base : Nat} {spare : Nat → Bool} {held : Bool} : ∀ (fuel : Nat) (cs : List Value) (x : DataW H × List MemPlace), DataW.trod enc Try.prog w base spare held fuel 35 cs = some x →
    ∃ A t c, cs = [.slice A (RT.len t) c] ∧ t.len ≤ c ∧ c ≤ 9223372036854775807 ∧ RdRT w.cell? t A 0 ∧ (A = none → t.len = 0 ∧ c = 0) := by
  intro fuel
  induction fuel using Nat.strongRecOn with
  | _ fuel ih =>
    intro cs x h
    rcases DataW.trod_slice Try.underlying35 h with ⟨rfl, -⟩ | ⟨a, len, cap, elems, rest, n, rfl, rfl, -, -, hl, hm, hlen, hel, -, -⟩
    · exact ⟨none, .nil, 0, rfl, Nat.le_refl _, by omega, trivial, fun _ => ⟨rfl, rfl⟩⟩
    · have key : ∀ d, d ≤ len → ∃ t, RT.len t = d ∧ RdRT w.cell? t (some a) (len - d) := by
        intro d
        induction d with
        | zero => exact fun _ => ⟨.nil, rfl, trivial⟩
        | succ d ihd =>
          intro hd
          obtain ⟨r, hr, hrd⟩ := ihd (by omega)
          have hi : len - (d + 1) < len := by omega
          have h1 := hel _ hi
          rw [List.getElem?_eq_getElem (by omega), Option.bind_eq_some_iff, cellsOf43] at h1
          obtain ⟨ds, h2, h3⟩ := h1
          obtain ⟨-, hdl, hdc⟩ := World.cells?_some h2
          obtain ⟨xs, m, rfl, -, -, hxl, hf⟩ := DataW.trod_struct Try.underlying43 h3
          have q : ∀ o u, ds[o]? = some u → o < 4 → w.cell? ((a.add ((len - (d + 1)) * 4)).add o) = some u := fun o u hu ho => by rw [hdc o ho, hu]
          have x4 : xs.length = 4 := hxl
          have f0 := hf 0 _ rfl
          have f1 := hf 1 _ rfl
          have f2 := hf 2 _ rfl
          have f3 := hf 3 _ rfl
          rw [List.getElem?_eq_getElem (by omega)] at f0 f1 f2 f3
          have f0' : DataW.trod enc Try.prog w base spare held m 3 ((ds.drop 0).take (Try.prog.cellsOf 3)) = _ := f0
          have f1' : DataW.trod enc Try.prog w base spare held m 3 ((ds.drop 1).take (Try.prog.cellsOf 3)) = _ := f1
          have f2' : DataW.trod enc Try.prog w base spare held m 35 ((ds.drop 2).take (Try.prog.cellsOf 35)) = _ := f2
          have f3' : DataW.trod enc Try.prog w base spare held m 35 ((ds.drop 3).take (Try.prog.cellsOf 35)) = _ := f3
          rw [cellsOf3] at f0' f1'
          rw [cellsOf35] at f2' f3'
          clear f0 f1 f2 f3
          obtain ⟨k, e0, -⟩ := DataW.trod_int Try.underlying3 f0'
          obtain ⟨nn, e1, -⟩ := DataW.trod_int Try.underlying3 f1'
          obtain ⟨A1, t1, c1, e2, l1, m1, r1, -⟩ := ih m (by omega) _ _ f2'
          obtain ⟨A2, t2, c2, e3, l2, m2, r2, -⟩ := ih m (by omega) _ _ f3'
          have g : ∀ o u, (ds.drop o).take 1 = [u] → ds[o]? = some u := fun o u hu => by
            have := congrArg (·[0]?) hu
            simpa [List.getElem?_take, List.getElem?_drop] using this
          refine ⟨.cons k nn t1 t2 r, by simp [RT.len, hr], ⟨⟨a, A1, c1, A2, c2, rfl, ?_, ?_, ?_, ?_, l1, m1, l2, m2, r1, r2⟩, ?_⟩⟩
          · have := q 0 _ (g 0 _ e0) (by omega)
            rwa [add_zero'] at this
          · exact cell_add (by omega) (q 1 _ (g 1 _ e1) (by omega))
          · exact cell_add (by omega) (q 2 _ (g 2 _ e2) (by omega))
          · exact cell_add (by omega) (q 3 _ (g 3 _ e3) (by omega))
          · rw [show len - (d + 1) + 1 = len - d by omega]; exact hrd
      obtain ⟨t, ht, hrd⟩ := key len (Nat.le_refl _)
      rw [Nat.sub_self] at hrd
      exact ⟨some a, t, cap, by rw [ht], by omega, by simpa [maxLen] using hm, hrd, fun e => by cases e⟩
/-- a slice of raw statements -/
def SlRt (f : Addr → Option Value) (t : RT) (v : Value) : Prop := ∃ A c, v = .slice A t.len c ∧ t.len ≤ c ∧ c ≤ 9223372036854775807 ∧ RdRT f t A 0
/-- these cells are these raw statements -/
def RtIn (f : Addr → Option Value) : RT → List Value → Prop
  | .nil, xs => xs = []
  | .cons k n a b r, xs => ∃ va vb ys, xs = [.int .i64 k, .int .i64 n, va, vb] ++ ys ∧ SlRt f a va ∧ SlRt f b vb ∧ RtIn f r ys
theorem RtIn.mono {f g : Addr → Option Value} (hb : Le f g) : ∀ (t : RT) (xs : List Value), RtIn f t xs → RtIn g t xs := by
  intro t
  induction t with
  | nil => intro xs h; exact h
  | cons k n a b r iha ihb ihr =>
    intro xs h
    obtain ⟨va, vb, ys, h1, ⟨A1, c1, p1, p2, p3, p4⟩, ⟨A2, c2, q1, q2, q3, q4⟩, h4⟩ := h
    exact ⟨va, vb, ys, h1, ⟨A1, c1, p1, p2, p3, RdRT.mono hb _ _ _ p4⟩, ⟨A2, c2, q1, q2, q3, RdRT.mono hb _ _ _ q4⟩, ihr _ h4⟩
theorem RtIn.len {f : Addr → Option Value} : ∀ (t : RT) (xs : List Value), RtIn f t xs → xs.length = t.len * 4 ∧ ∀ u ∈ xs, u.oneCell' = true := by
  intro t
  induction t with
  | nil => intro xs h; have h' : xs = [] := h; subst h'; exact ⟨rfl, fun u hu => by cases hu⟩
  | cons k n a b r _ _ ihr =>
    intro xs h
    obtain ⟨va, vb, ys, h1, ⟨A1, c1, rfl, -⟩, ⟨A2, c2, rfl, -⟩, h4⟩ := h
    obtain ⟨q1, q2⟩ := ihr _ h4
    subst h1
    refine ⟨by simp only [List.length_append, List.length_cons, List.length_nil, q1, RT.len]; omega, fun u hu => ?_⟩
    simp only [List.cons_append, List.nil_append, List.mem_cons] at hu
    rcases hu with rfl | rfl | rfl | rfl | hu
    · rfl
    · rfl
    · rfl
    · rfl
    · exact q2 u hu
/-- the cells of a slice of raw statements -/
theorem RtIn.of {w : World} : ∀ (t : RT) (A : Option Addr) (i : Nat), RdRT w.cell? t A i → ∃ xs, RtIn w.cell? t xs ∧ ∀ j u, xs[j]? = some u → ∃ ad, A = some ad ∧ w.cell? (ad.add (i * 4 + j)) = some u := by
  intro t
  induction t with
  | nil => intro A i _; exact ⟨[], rfl, fun j u h => by simp at h⟩
  | cons k n a b r _ _ ihr =>
    intro A i h
    obtain ⟨⟨ad, A1, c1, A2, c2, hA, h0, h1, h2, h3, l1, l2, l3, l4, ha, hbb⟩, hr⟩ := h
    obtain ⟨ys, hy, hc⟩ := ihr A (i + 1) hr
    refine ⟨_, ⟨_, _, ys, rfl, ⟨A1, c1, rfl, l1, l2, ha⟩, ⟨A2, c2, rfl, l3, l4, hbb⟩, hy⟩, fun j u hj => ?_⟩
    have hoff : ∀ o, 0 < o → (⟨(ad.add (i * 4)).block, (ad.add (i * 4)).off + o, none⟩ : Addr) = ad.add (i * 4 + o) ∨ w.cell? ⟨(ad.add (i * 4)).block, (ad.add (i * 4)).off + o, none⟩ = w.cell? (ad.add (i * 4 + o)) := by
      intro o ho
      right
      unfold Addr.add
      rw [if_neg (by omega : ¬ i * 4 + o = 0)]
      split
      · rename_i h; rw [show i * 4 + o = o by omega]
      · rw [Nat.add_assoc]
    have hoff' : ∀ o, 0 < o → w.cell? ⟨(ad.add (i * 4)).block, (ad.add (i * 4)).off + o, none⟩ = w.cell? (ad.add (i * 4 + o)) := fun o ho => by
      rcases hoff o ho with h | h
      · rw [h]
      · exact h
    refine ⟨ad, hA, ?_⟩
    rcases (by omega : j = 0 ∨ j = 1 ∨ j = 2 ∨ j = 3 ∨ 4 ≤ j) with rfl | rfl | rfl | rfl | hj4
    · simp at hj; subst hj; exact h0
    · simp at hj; subst hj; rw [← hoff' 1 (by omega)]; exact h1
    · simp at hj; subst hj; rw [← hoff' 2 (by omega)]; exact h2
    · simp at hj; subst hj; rw [← hoff' 3 (by omega)]; exact h3
    · rw [List.getElem?_append_right (by simpa using hj4)] at hj
      obtain ⟨ad', e1, e2⟩ := hc _ _ hj
      rw [hA] at e1; cases e1
      rw [← e2]
      congr 2
      simp; omega
theorem RtIn.rd {f : Addr → Option Value} {g : Nat} (cells : List Value) (hc : ∀ j v, cells[j]? = some v → f ⟨g, j, none⟩ = some v) : ∀ (t : RT) (xs pre : List Value) (i : Nat), cells = pre ++ xs → pre.length = i * 4 → RtIn f t xs → RdRT f t (some ⟨g, 0, none⟩) i := by
  intro t
  induction t with
  | nil => intro xs pre i _ _ _; trivial
  | cons k n a b r _ _ ihr =>
    intro xs pre i e hl h
    obtain ⟨va, vb, ys, h1, ⟨A1, c1, rfl, l1, l2, q1⟩, ⟨A2, c2, rfl, l3, l4, q2⟩, h4⟩ := h
    subst h1
    have hat : ∀ j v, [Value.int .i64 k, .int .i64 n, .slice A1 a.len c1, .slice A2 b.len c2][j]? = some v → f ⟨g, i * 4 + j, none⟩ = some v := by
      intro j v hj
      have hj5 : j < 4 := by have := (List.getElem?_eq_some_iff.1 hj).1; simpa using this
      exact hc (i * 4 + j) v (by rw [e, List.getElem?_append_right (by omega), hl, Nat.add_sub_cancel_left, List.getElem?_append_left (by simpa using hj5)]; exact hj)
    refine ⟨⟨⟨g, 0, none⟩, A1, c1, A2, c2, rfl, ?_, ?_, ?_, ?_, l1, l2, l3, l4, q1, q2⟩, ihr ys (pre ++ [.int .i64 k, .int .i64 n, .slice A1 a.len c1, .slice A2 b.len c2]) (i + 1) (by rw [e, List.append_assoc]) (by simp [hl]; omega) h4⟩
    · rw [add_plain]; exact hat 0 _ rfl
    · rw [add_plain]; exact hat 1 _ rfl
    · rw [add_plain]; exact hat 2 _ rfl
    · rw [add_plain]; exact hat 3 _ rfl
end Go.Proofs.Ytdhklfbelplbcaa
namespace Go.Proofs.Ytdhklfbelplbcaa
set_option maxRecDepth 100000
noncomputable def opsQ6 : Array Oper := regIn 6 Try.f7
theorem nsQ6 : Region.noSelect opsQ6 = true := by kernel_rfl
theorem liQ6 : Array.replicate opsQ6.size false = (bitsB 6 0) := by kernel_rfl
theorem rdQ6_0 : Region.ready .any opsQ6 (bitsB 6 0) = [0, 1, 4] := by kernel_rfl
theorem frQ6_0 : Region.free .any opsQ6 (bitsB 6 0) 0 = true := by kernel_rfl
theorem stQ6_0 : (bitsB 6 0).setIfInBounds 0 true = (bitsB 6 1) := by kernel_rfl
theorem rdQ6_1 : Region.ready .any opsQ6 (bitsB 6 1) = [1, 4] := by kernel_rfl
theorem frQ6_1 : Region.free .any opsQ6 (bitsB 6 1) 1 = true := by kernel_rfl
theorem stQ6_1 : (bitsB 6 1).setIfInBounds 1 true = (bitsB 6 3) := by kernel_rfl
theorem stQ6_2 : (bitsB 6 3).setIfInBounds 4 true = (bitsB 6 19) := by kernel_rfl
theorem stQ6_3 : (bitsB 6 3).setIfInBounds 2 true = (bitsB 6 7) := by kernel_rfl
theorem rdQ6_2 : Region.ready .any opsQ6 (bitsB 6 3) = [2, 4] := by kernel_rfl
theorem stQ6_4 : (bitsB 6 7).setIfInBounds 4 true = (bitsB 6 23) := by kernel_rfl
theorem stQ6_5 : (bitsB 6 7).setIfInBounds 3 true = (bitsB 6 15) := by kernel_rfl
theorem rdQ6_3 : Region.ready .any opsQ6 (bitsB 6 7) = [3, 4] := by kernel_rfl
theorem rdQ6_4 : Region.ready .any opsQ6 (bitsB 6 15) = [4] := by kernel_rfl
theorem stQ6_6 : (bitsB 6 15).setIfInBounds 4 true = (bitsB 6 31) := by kernel_rfl
theorem rdQ6_5 : Region.ready .any opsQ6 (bitsB 6 31) = [5] := by kernel_rfl
theorem stQ6_7 : (bitsB 6 31).setIfInBounds 5 true = (bitsB 6 63) := by kernel_rfl
theorem rdQ6_6 : Region.ready .any opsQ6 (bitsB 6 63) = [] := by kernel_rfl
theorem rdQ6_7 : Region.ready .any opsQ6 (bitsB 6 23) = [3] := by kernel_rfl
theorem stQ6_8 : (bitsB 6 23).setIfInBounds 3 true = (bitsB 6 31) := by kernel_rfl
theorem rdQ6_8 : Region.ready .any opsQ6 (bitsB 6 19) = [2] := by kernel_rfl
theorem stQ6_9 : (bitsB 6 19).setIfInBounds 2 true = (bitsB 6 23) := by kernel_rfl
noncomputable def opsQ21 : Array Oper := regIn 21 Try.f7
theorem nsQ21 : Region.noSelect opsQ21 = true := by kernel_rfl
theorem liQ21 : Array.replicate opsQ21.size false = (bitsB 9 0) := by kernel_rfl
theorem rdQ21_0 : Region.ready .any opsQ21 (bitsB 9 0) = [0, 1, 4, 5] := by kernel_rfl
theorem frQ21_0 : Region.free .any opsQ21 (bitsB 9 0) 0 = true := by kernel_rfl
theorem stQ21_0 : (bitsB 9 0).setIfInBounds 0 true = (bitsB 9 1) := by kernel_rfl
theorem rdQ21_1 : Region.ready .any opsQ21 (bitsB 9 1) = [1, 4, 5] := by kernel_rfl
theorem frQ21_1 : Region.free .any opsQ21 (bitsB 9 1) 1 = true := by kernel_rfl
theorem stQ21_1 : (bitsB 9 1).setIfInBounds 1 true = (bitsB 9 3) := by kernel_rfl
theorem rdQ21_2 : Region.ready .any opsQ21 (bitsB 9 3) = [2, 4, 5] := by kernel_rfl
theorem frQ21_2 : Region.free .any opsQ21 (bitsB 9 3) 2 = true := by kernel_rfl
theorem stQ21_2 : (bitsB 9 3).setIfInBounds 2 true = (bitsB 9 7) := by kernel_rfl
theorem rdQ21_3 : Region.ready .any opsQ21 (bitsB 9 7) = [3, 4, 5] := by kernel_rfl
theorem frQ21_3 : Region.free .any opsQ21 (bitsB 9 7) 3 = true := by kernel_rfl
theorem stQ21_3 : (bitsB 9 7).setIfInBounds 3 true = (bitsB 9 15) := by kernel_rfl
theorem rdQ21_4 : Region.ready .any opsQ21 (bitsB 9 15) = [4, 5] := by kernel_rfl
theorem frQ21_4 : Region.free .any opsQ21 (bitsB 9 15) 4 = true := by kernel_rfl
theorem stQ21_4 : (bitsB 9 15).setIfInBounds 4 true = (bitsB 9 31) := by kernel_rfl
theorem rdQ21_5 : Region.ready .any opsQ21 (bitsB 9 31) = [5] := by kernel_rfl
theorem stQ21_5 : (bitsB 9 31).setIfInBounds 5 true = (bitsB 9 63) := by kernel_rfl
theorem rdQ21_6 : Region.ready .any opsQ21 (bitsB 9 63) = [6] := by kernel_rfl
theorem stQ21_6 : (bitsB 9 63).setIfInBounds 6 true = (bitsB 9 127) := by kernel_rfl
theorem rdQ21_7 : Region.ready .any opsQ21 (bitsB 9 127) = [7] := by kernel_rfl
theorem stQ21_7 : (bitsB 9 127).setIfInBounds 7 true = (bitsB 9 255) := by kernel_rfl
theorem rdQ21_8 : Region.ready .any opsQ21 (bitsB 9 255) = [8] := by kernel_rfl
theorem stQ21_8 : (bitsB 9 255).setIfInBounds 8 true = (bitsB 9 511) := by kernel_rfl
theorem rdQ21_9 : Region.ready .any opsQ21 (bitsB 9 511) = [] := by kernel_rfl
end Go.Proofs.Ytdhklfbelplbcaa
