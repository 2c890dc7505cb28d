/-
  The walk of Prog: a program out of raw bodies.
-/
import Derived.Test.YtdhklfbelplbcaaZ04
namespace Go.Proofs.Ytdhklfbelplbcaa
set_option linter.unusedVariables false
set_option linter.unusedSimpArgs false
open Go.RowKit

/-! ### many blocks laid one behind the other -/
def allocs (w : World) : List (Array Value × TypeId) → World
  | [] => w
  | o :: os => allocs (w.alloc (.cells o.1 o.2)) os
theorem allocs_below (os : List (Array Value × TypeId)) : ∀ (w0 w : World), Below w0.heap.size w0 w → Below w0.heap.size w0 (allocs w os) := by
  induction os with
  | nil => intro w0 w h; exact h
  | cons o os ih => intro w0 w h; exact ih w0 _ (bl_alloc h _)
theorem allocs_at (os : List (Array Value × TypeId)) : ∀ (w : World) (i : Nat) (h : i < os.length), (allocs w os).heap[w.heap.size + i]? = some (.cells os[i].1 os[i].2 (0, 0)) := by
  induction os with
  | nil => intro w i h; simp at h
  | cons o os ih =>
    intro w i h
    cases i with
    | zero => exact (allocs_below os (w.alloc (.cells o.1 o.2)) _ (Below.refl _ _)).block _ (by simp) |>.trans (heap_alloc_new w _)
    | succ i =>
      have := ih (w.alloc (.cells o.1 o.2)) i (by simpa using h)
      show (allocs (w.alloc (.cells o.1 o.2)) os).heap[w.heap.size + (i + 1)]? = some (.cells (os[i]'(by simpa using h)).1 (os[i]'(by simpa using h)).2 (0, 0))
      simpa [Nat.add_assoc, Nat.add_comm 1 i] using this
/-- a program, seen: its locks, its functions -/
def PrOk (f : Addr → Option Value) (v : Value) (bs : Nat → St) : Prop :=
  ∃ A0 n0 c0 g1 g2, v = .agg #[.slice A0 n0 c0, .slice (some ⟨g1, 0, none⟩) 3 3, .slice (some ⟨g2, 0, none⟩) 4 4] ∧ (∀ i, i < 3 → f ⟨g1, i * 2, none⟩ = some (.string (lkN i))) ∧
    ∀ i, i < 4 → f ⟨g2, i * 3, none⟩ = some (.string (fnN i)) ∧ ∃ vb, f ⟨g2, i * 3 + 2, none⟩ = some vb ∧ SlSt f (bs i) vb
theorem PrOk.mono {f g : Addr → Option Value} {v : Value} {bs : Nat → St} (hb : Le f g) (h : PrOk f v bs) : PrOk g v bs := by
  obtain ⟨A0, n0, c0, g1, g2, h1, h2, h3⟩ := h
  exact ⟨A0, n0, c0, g1, g2, h1, fun i hi => hb _ _ (h2 i hi), fun i hi => ⟨hb _ _ (h3 i hi).1, by obtain ⟨vb, q1, q2⟩ := (h3 i hi).2; exact ⟨vb, hb _ _ q1, q2.mono hb⟩⟩⟩
/-- the four bodies -/
def bodies (t0 t1 t2 t3 : RT) (i : Nat) : St := if i = 0 then blockM t0 else if i = 1 then blockM t1 else if i = 2 then blockM t2 else blockM t3

set_option maxHeartbeats 8000000 in
set_option maxRecDepth 100000 in
theorem prog_any (w : World) (t0 t1 t2 t3 : RT) (A0 A1 A2 A3 : Option Addr) (c0 c1 c2 c3 : Nat) (h0 : RdRT w.cell? t0 A0 0) (h1 : RdRT w.cell? t1 A1 0) (h2 : RdRT w.cell? t2 A2 0) (h3 : RdRT w.cell? t3 A3 0)
    (l0 : t0.len ≤ c0) (l1 : t1.len ≤ c1) (l2 : t2.len ≤ c2) (l3 : t3.len ≤ c3) (m0 : c0 ≤ 9223372036854775807) (m1 : c1 ≤ 9223372036854775807) (m2 : c2 ≤ 9223372036854775807) (m3 : c3 ≤ 9223372036854775807)
    (n0 : t0.cnt ≤ 1000) (n1 : t1.cnt ≤ 1000) (n2 : t2.cnt ≤ 1000) (n3 : t3.cnt ≤ 1000) :
    Calls Try.prog 20 #[.slice A0 t0.len c0, .slice A1 t1.len c1, .slice A2 t2.len c2, .slice A3 t3.len c3, .int .i64 1] w fun e w' => ∃ v, e = .returned v ∧ PrOk (vis (fun b => w.heap.size ≤ b) w') v (bodies t0 t1 t2 t3) ∧ Below w.heap.size w w' := by
  have h0' := Lib.hid h0
  have h1' := Lib.hid h1
  have h2' := Lib.hid h2
  have h3' := Lib.hid h3
  clear h0 h1 h2 h3
  go_enter Try.func20, Try.ntmps20
  go_upto_region 4 with (first | (go_at_call 33; refine (within33 _ _ _ (by omega) (by omega)).mono ?_; rintro e w' ⟨rfl, rfl⟩))
  obtain ⟨g, hg⟩ : ∃ g, g = w.heap.size := ⟨_, rfl⟩
  rw [← hg]
  obtain ⟨Wp, hWp⟩ : ∃ x, x = allocs w [(#[.slice none 0 0, .slice none 0 0, .slice none 0 0], 40), (#[.string ⟨#[120]⟩, .int .i64 0, .string ⟨#[121]⟩, .int .i64 0, .string ⟨#[122]⟩, .int .i64 0], 68), (#[.string ⟨#[108]⟩, .int .i64 0, .string ⟨#[109]⟩, .int .i64 0, .string ⟨#[110]⟩, .int .i64 0], 68), (#[.slice (some ⟨g + 1, 0, none⟩) 3 3, .slice (some ⟨g + 1 + 1, 0, none⟩) 3 3, .slice none 0 0], 40)] := ⟨_, rfl⟩
  have hBp : Hid (Below w.heap.size w Wp) := Lib.hid (by rw [hWp]; exact allocs_below _ _ _ (Below.refl _ _))
  have hlay : Hid (∀ i, ∀ h : i < 4, Wp.heap[g + i]? = some (.cells (([(#[.slice none 0 0, .slice none 0 0, .slice none 0 0], 40), (#[.string ⟨#[120]⟩, .int .i64 0, .string ⟨#[121]⟩, .int .i64 0, .string ⟨#[122]⟩, .int .i64 0], 68), (#[.string ⟨#[108]⟩, .int .i64 0, .string ⟨#[109]⟩, .int .i64 0, .string ⟨#[110]⟩, .int .i64 0], 68), (#[.slice (some ⟨g + 1, 0, none⟩) 3 3, .slice (some ⟨g + 1 + 1, 0, none⟩) 3 3, .slice none 0 0], 40)] : List (Array Value × TypeId))[i]'h).1 (([(#[.slice none 0 0, .slice none 0 0, .slice none 0 0], 40), (#[.string ⟨#[120]⟩, .int .i64 0, .string ⟨#[121]⟩, .int .i64 0, .string ⟨#[122]⟩, .int .i64 0], 68), (#[.string ⟨#[108]⟩, .int .i64 0, .string ⟨#[109]⟩, .int .i64 0, .string ⟨#[110]⟩, .int .i64 0], 68), (#[.slice (some ⟨g + 1, 0, none⟩) 3 3, .slice (some ⟨g + 1 + 1, 0, none⟩) 3 3, .slice none 0 0], 40)] : List (Array Value × TypeId))[i]'h).2 (0, 0))) := Lib.hid (fun i h => by have h1 := allocs_at [(#[.slice none 0 0, .slice none 0 0, .slice none 0 0], 40), (#[.string ⟨#[120]⟩, .int .i64 0, .string ⟨#[121]⟩, .int .i64 0, .string ⟨#[122]⟩, .int .i64 0], 68), (#[.string ⟨#[108]⟩, .int .i64 0, .string ⟨#[109]⟩, .int .i64 0, .string ⟨#[110]⟩, .int .i64 0], 68), (#[.slice (some ⟨g + 1, 0, none⟩) 3 3, .slice (some ⟨g + 1 + 1, 0, none⟩) 3 3, .slice none 0 0], 40)] w i h; rw [← hg] at h1; rw [hWp]; exact h1)
  have hzp : Wp.heap.size = g + 4 := by rw [hWp]; simp [allocs, hg]
  simp only [allocs] at hWp
  rw [← hWp]
  replace hWp := Lib.hid hWp
  replace hg := Lib.hid hg
  go_upto_region 5 with (first
    | (go_at_call_of 34 (Value.slice A0 t0.len c0); refine (block_any t0.cnt t0 (Nat.le_refl _) n0 A0 c0 Wp (RdRT.below hBp.out _ _ _ h0'.out) l0 m0).mono ?_; rintro e w5 ⟨v0, rfl, hs0, hb0⟩; have hs0' := hs0; obtain ⟨Q0, d0, rfl, -⟩ := hs0'; have hz0 := hb0.size; replace hs0 := Lib.hid hs0; have hB0 := Lib.hid (bl_then hBp.out (by have := hBp.out.size; omega) hb0); replace hb0 := Lib.hid hb0)
    | (go_at_call_of 34 (Value.slice A1 t1.len c1); refine (block_any t1.cnt t1 (Nat.le_refl _) n1 A1 c1 w5 (RdRT.below hB0.out _ _ _ h1'.out) l1 m1).mono ?_; rintro e w6 ⟨v1, rfl, hs1, hb1⟩; have hs1' := hs1; obtain ⟨Q1, d1, rfl, -⟩ := hs1'; have hz1 := hb1.size; replace hs1 := Lib.hid hs1; have hB1 := Lib.hid (bl_then hB0.out (by have := hB0.out.size; omega) hb1); replace hb1 := Lib.hid hb1)
    | (go_at_call_of 34 (Value.slice A2 t2.len c2); refine (block_any t2.cnt t2 (Nat.le_refl _) n2 A2 c2 w6 (RdRT.below hB1.out _ _ _ h2'.out) l2 m2).mono ?_; rintro e w7 ⟨v2, rfl, hs2, hb2⟩; have hs2' := hs2; obtain ⟨Q2, d2, rfl, -⟩ := hs2'; have hz2 := hb2.size; replace hs2 := Lib.hid hs2; have hB2 := Lib.hid (bl_then hB1.out (by have := hB1.out.size; omega) hb2); replace hb2 := Lib.hid hb2)
    | (go_at_call_of 34 (Value.slice A3 t3.len c3); refine (block_any t3.cnt t3 (Nat.le_refl _) n3 A3 c3 w7 (RdRT.below hB2.out _ _ _ h3'.out) l3 m3).mono ?_; rintro e w8 ⟨v3, rfl, hs3, hb3⟩; have hs3' := hs3; obtain ⟨Q3, d3, rfl, -⟩ := hs3'; have hz3 := hb3.size; replace hs3 := Lib.hid hs3; have hB3 := Lib.hid (bl_then hB2.out (by have := hB2.out.size; omega) hb3); replace hb3 := Lib.hid hb3; have hr8 := Lib.hid (bl_row hb3.out (bl_row hb2.out (bl_row hb1.out (bl_row hb0.out (hlay.out 3 (by decide)))))); have yy : ∀ o, (w8.alloc o).cell? ⟨g + 1 + 1 + 1, 2, none⟩ = some (.slice none 0 0) := (fun o => by rw [cell_of_row _ (g + 1 + 1 + 1) 2 _ 40 (0, 0) (blk_alloc hr8.out o)]; rfl); have zz : ∀ o, (w8.alloc o).frozen? ⟨g + 1 + 1 + 1, 2, none⟩ = false := (fun o => by simp [World.frozen?, blk_alloc hr8.out o])))
  have hz := hg.out
  have ea := blk_alloc hr8.out (.cells #[.string ⟨#[109, 97, 105, 110]⟩, .int .i64 0, .slice Q0 (blockM t0).len d0, .string ⟨#[102]⟩, .int .i64 0, .slice Q1 (blockM t1).len d1, .string ⟨#[103]⟩, .int .i64 0, .slice Q2 (blockM t2).len d2, .string ⟨#[104]⟩, .int .i64 0, .slice Q3 (blockM t3).len d3] 72)
  have e1 := set_field (w8.alloc (.cells #[.string ⟨#[109, 97, 105, 110]⟩, .int .i64 0, .slice Q0 (blockM t0).len d0, .string ⟨#[102]⟩, .int .i64 0, .slice Q1 (blockM t1).len d1, .string ⟨#[103]⟩, .int .i64 0, .slice Q2 (blockM t2).len d2, .string ⟨#[104]⟩, .int .i64 0, .slice Q3 (blockM t3).len d3] 72)) (g + 1 + 1 + 1) 2 [.slice (some ⟨g + 1, 0, none⟩) 3 3, .slice (some ⟨g + 1 + 1, 0, none⟩) 3 3, .slice none 0 0] (.slice (some ⟨w8.heap.size, 0, none⟩) 4 4) 40 ea
  have hF := e1.2.block w8.heap.size (by simp) (by simp only [ne_eq, Option.some.injEq]; omega)
  rw [heap_alloc_new w8 _] at hF
  have h10 := e1.2.block g (by simp; omega) (by simp only [ne_eq, Option.some.injEq]; omega)
  rw [blk_alloc (bl_row hb3.out (bl_row hb2.out (bl_row hb1.out (bl_row hb0.out (show Wp.heap[g]? = _ from hlay.out 0 (by decide)))))) _] at h10
  have hL := e1.2.block (g + 2) (by simp; omega) (by simp only [ne_eq, Option.some.injEq]; omega)
  rw [blk_alloc (bl_row hb3.out (bl_row hb2.out (bl_row hb1.out (bl_row hb0.out (hlay.out 2 (by decide)))))) _] at hL
  have l8 : Le (vis (fun b => Wp.heap.size ≤ b) w8) (vis (fun b => Wp.heap.size ≤ b) ((w8.alloc (.cells #[.string ⟨#[109, 97, 105, 110]⟩, .int .i64 0, .slice Q0 (blockM t0).len d0, .string ⟨#[102]⟩, .int .i64 0, .slice Q1 (blockM t1).len d1, .string ⟨#[103]⟩, .int .i64 0, .slice Q2 (blockM t2).len d2, .string ⟨#[104]⟩, .int .i64 0, .slice Q3 (blockM t3).len d3] 72)).setCell ⟨g + 1 + 1 + 1, 2, none⟩ (.slice (some ⟨w8.heap.size, 0, none⟩) 4 4))) := (vis_below (bl_alloc (Below.refl _ _) _)).trans (vis_new e1.2 (by omega))
  have hz9 : w8.heap.size + 1 ≤ ((w8.alloc (.cells #[.string ⟨#[109, 97, 105, 110]⟩, .int .i64 0, .slice Q0 (blockM t0).len d0, .string ⟨#[102]⟩, .int .i64 0, .slice Q1 (blockM t1).len d1, .string ⟨#[103]⟩, .int .i64 0, .slice Q2 (blockM t2).len d2, .string ⟨#[104]⟩, .int .i64 0, .slice Q3 (blockM t3).len d3] 72)).setCell ⟨g + 1 + 1 + 1, 2, none⟩ (.slice (some ⟨w8.heap.size, 0, none⟩) 4 4)).heap.size := by have h := e1.2.size; rw [World.size_alloc] at h; exact h
  have hB9 := (bl_alloc hB3.out (.cells #[.string ⟨#[109, 97, 105, 110]⟩, .int .i64 0, .slice Q0 (blockM t0).len d0, .string ⟨#[102]⟩, .int .i64 0, .slice Q1 (blockM t1).len d1, .string ⟨#[103]⟩, .int .i64 0, .slice Q2 (blockM t2).len d2, .string ⟨#[104]⟩, .int .i64 0, .slice Q3 (blockM t3).len d3] 72)).setCell (p := ⟨g + 1 + 1 + 1, 2, none⟩) (by show w.heap.size ≤ g + 1 + 1 + 1; omega) (.slice (some ⟨w8.heap.size, 0, none⟩) 4 4)
  generalize (w8.alloc (.cells #[.string ⟨#[109, 97, 105, 110]⟩, .int .i64 0, .slice Q0 (blockM t0).len d0, .string ⟨#[102]⟩, .int .i64 0, .slice Q1 (blockM t1).len d1, .string ⟨#[103]⟩, .int .i64 0, .slice Q2 (blockM t2).len d2, .string ⟨#[104]⟩, .int .i64 0, .slice Q3 (blockM t3).len d3] 72)).setCell ⟨g + 1 + 1 + 1, 2, none⟩ (.slice (some ⟨w8.heap.size, 0, none⟩) 4 4) = W9 at e1 hF h10 hL l8 hz9 hB9 ⊢
  have h11 : W9.heap[g + 1 + 1 + 1]? = some (.cells ([.slice (some ⟨g + 1, 0, none⟩) 3 3, .slice (some ⟨g + 1 + 1, 0, none⟩) 3 3, .slice (some ⟨w8.heap.size, 0, none⟩) 4 4] : List Value).toArray 40 (0, 0)) := e1.1
  have y0 : W9.cell? ⟨g + 1 + 1 + 1, 0, none⟩ = some (.slice (some ⟨g + 1, 0, none⟩) 3 3) := by rw [cell_of_row _ _ 0 _ 40 (0, 0) h11]; rfl
  have y1 : W9.cell? ⟨g + 1 + 1 + 1, 1, none⟩ = some (.slice (some ⟨g + 1 + 1, 0, none⟩) 3 3) := by rw [cell_of_row _ _ 1 _ 40 (0, 0) h11]; rfl
  have y2 : W9.cell? ⟨g + 1 + 1 + 1, 2, none⟩ = some (.slice (some ⟨w8.heap.size, 0, none⟩) 4 4) := by rw [cell_of_row _ _ 2 _ 40 (0, 0) h11]; rfl
  have x0 : W9.cell? ⟨g, 0, none⟩ = some (.slice none 0 0) := by rw [cell_of_row _ _ 0 _ 40 (0, 0) h10]; rfl
  have x1 : W9.cell? ⟨g, 1, none⟩ = some (.slice none 0 0) := by rw [cell_of_row _ _ 1 _ 40 (0, 0) h10]; rfl
  have x2 : W9.cell? ⟨g, 2, none⟩ = some (.slice none 0 0) := by rw [cell_of_row _ _ 2 _ 40 (0, 0) h10]; rfl
  have z0 : W9.frozen? ⟨g, 0, none⟩ = false := by simp [World.frozen?, h10]
  have z1 : W9.frozen? ⟨g, 1, none⟩ = false := by simp [World.frozen?, h10]
  have z2 : W9.frozen? ⟨g, 2, none⟩ = false := by simp [World.frozen?, h10]
  replace e1 := Lib.hid e1
  replace ea := Lib.hid ea
  replace hF := Lib.hid hF
  replace h10 := Lib.hid h10
  replace h11 := Lib.hid h11
  replace hL := Lib.hid hL
  replace l8 := Lib.hid l8
  replace hB9 := Lib.hid hB9
  clear yy zz hz hzp
  go_wp2_with (first | (go_at_call 33; refine (within33 _ _ _ (by omega) (by omega)).mono ?_; rintro e w' ⟨rfl, rfl⟩))
  have s1 := set_field W9 g 0 [.slice none 0 0, .slice none 0 0, .slice none 0 0] (.slice (some ⟨g + 1, 0, none⟩) 3 3) 40 h10.out
  have s2 := set_field _ g 1 _ (.slice (some ⟨g + 1 + 1, 0, none⟩) 3 3) 40 s1.1
  have s3 := set_field _ g 2 _ (.slice (some ⟨w8.heap.size, 0, none⟩) 4 4) 40 s2.1
  have hgg := hg.out
  have hpz := hBp.out.size
  have hzp : g + 4 ≤ Wp.heap.size := by
    have := hlay.out 3 (by decide)
    have := (Array.getElem?_eq_some_iff.1 this).1
    omega
  have hB10 := ((hB9.out.setCell (p := ⟨g, 0, none⟩) (by show w.heap.size ≤ g; omega) (.slice (some ⟨g + 1, 0, none⟩) 3 3)).setCell (p := ⟨g, 1, none⟩) (by show w.heap.size ≤ g; omega) (.slice (some ⟨g + 1 + 1, 0, none⟩) 3 3)).setCell (p := ⟨g, 2, none⟩) (by show w.heap.size ≤ g; omega) (.slice (some ⟨w8.heap.size, 0, none⟩) 4 4)
  have l10 := fun B (hB : g < B) => (vis_new s1.2 hB).trans ((vis_new s2.2 hB).trans (vis_new s3.2 hB))
  have hkeep : ∀ j o, g < j → j < W9.heap.size → W9.heap[j]? = some o → (((W9.setCell ⟨g, 0, none⟩ (.slice (some ⟨g + 1, 0, none⟩) 3 3)).setCell ⟨g, 1, none⟩ (.slice (some ⟨g + 1 + 1, 0, none⟩) 3 3)).setCell ⟨g, 2, none⟩ (.slice (some ⟨w8.heap.size, 0, none⟩) 4 4)).heap[j]? = some o := by
    intro j o hj hj2 h
    have z1 := s1.2.size
    have z2 := s2.2.size
    rw [s3.2.block j (by omega) (by simp only [ne_eq, Option.some.injEq]; omega), s2.2.block j (by omega) (by simp only [ne_eq, Option.some.injEq]; omega), s1.2.block j hj2 (by simp only [ne_eq, Option.some.injEq]; omega)]
    exact h
  have hz8 : Wp.heap.size ≤ w8.heap.size := by omega
  have kF := hkeep _ _ (by omega) (by omega) hF.out
  have kL := hkeep _ _ (by omega) (by omega) hL.out
  generalize ((W9.setCell ⟨g, 0, none⟩ (.slice (some ⟨g + 1, 0, none⟩) 3 3)).setCell ⟨g, 1, none⟩ (.slice (some ⟨g + 1 + 1, 0, none⟩) 3 3)).setCell ⟨g, 2, none⟩ (.slice (some ⟨w8.heap.size, 0, none⟩) 4 4) = W10 at s3 l10 hB10 kF kL ⊢
  have m0 := (((vis_below hb1.out).trans ((vis_below hb2.out).trans (vis_below hb3.out))).trans (l8.out.trans (l10 _ (by omega)))).trans (vis_mono (Q := fun b => w.heap.size ≤ b) _ fun b _ h => by omega)
  have lq : ∀ B, g + 1 + 1 + 1 < B → Le (vis (fun b => B ≤ b) w8) (vis (fun b => w.heap.size ≤ b) W10) := fun B hB => ((vis_below (bl_alloc (Below.refl _ _) _)).trans ((vis_new (show (w8.alloc _).grownBy W9 (some (g + 1 + 1 + 1)) from e1.out.2) hB).trans (l10 B (by omega)))).trans (vis_mono _ fun b _ h => by omega)
  refine bodyPost_ret (v := .agg #[.slice (some ⟨g + 1, 0, none⟩) 3 3, .slice (some ⟨g + 1 + 1, 0, none⟩) 3 3, .slice (some ⟨w8.heap.size, 0, none⟩) 4 4]) (res_c rfl _ _ g 40 _ (0, 0) _ rfl s3.1 Try.underlying40 rfl (by kernel_rfl)) rfl ⟨_, rfl, ⟨_, _, _, g + 2, w8.heap.size, rfl, fun i hi => ?_, fun i hi => ?_⟩, hB10⟩
  · refine vis_of (by show w.heap.size ≤ g + 2; omega) ?_
    rw [cell_of_row _ _ _ _ 68 (0, 0) kL]
    rcases (by omega : i = 0 ∨ i = 1 ∨ i = 2) with rfl | rfl | rfl <;> rfl
  · have hc : ∀ j v, (#[.string ⟨#[109, 97, 105, 110]⟩, .int .i64 0, .slice Q0 (blockM t0).len d0, .string ⟨#[102]⟩, .int .i64 0, .slice Q1 (blockM t1).len d1, .string ⟨#[103]⟩, .int .i64 0, .slice Q2 (blockM t2).len d2, .string ⟨#[104]⟩, .int .i64 0, .slice Q3 (blockM t3).len d3] : Array Value)[j]? = some v → vis (fun b => w.heap.size ≤ b) W10 ⟨w8.heap.size, j, none⟩ = some v := fun j v h => vis_of (by show w.heap.size ≤ w8.heap.size; omega) (by rw [cell_of_row _ _ _ _ 72 (0, 0) kF]; exact h)
    rcases (by omega : i = 0 ∨ i = 1 ∨ i = 2 ∨ i = 3) with rfl | rfl | rfl | rfl
    · exact ⟨hc 0 _ rfl, _, hc 2 _ rfl, hs0.out.mono (((vis_below hb1.out).trans ((vis_below hb2.out).trans (vis_below hb3.out))).trans (lq _ (by omega)))⟩
    · exact ⟨hc 3 _ rfl, _, hc 5 _ rfl, hs1.out.mono (((vis_below hb2.out).trans (vis_below hb3.out)).trans (lq _ (by omega)))⟩
    · exact ⟨hc 6 _ rfl, _, hc 8 _ rfl, hs2.out.mono ((vis_below hb3.out).trans (lq _ (by omega)))⟩
    · exact ⟨hc 9 _ rfl, _, hc 11 _ rfl, hs3.out.mono (lq _ (by omega))⟩
end Go.Proofs.Ytdhklfbelplbcaa
