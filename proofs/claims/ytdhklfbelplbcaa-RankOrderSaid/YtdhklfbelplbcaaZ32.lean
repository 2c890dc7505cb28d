/-
  whole, put together: one analysis.
  The orders of drawn regions of All.
-/
import Derived.Test.YtdhklfbelplbcaaZ25
import Derived.Test.YtdhklfbelplbcaaZ27
import Derived.Test.YtdhklfbelplbcaaZ29
import Derived.Test.YtdhklfbelplbcaaZ31
import Derived.Test.YtdhklfbelplbcaaZ14
namespace Go.Proofs.Ytdhklfbelplbcaa
set_option linter.unusedVariables false
set_option linter.unusedSimpArgs false
open Go.RowKit
/-- what one analysis gives: the functions' own effects, and of each the states ahead of all Sites it reaches -/
structure WhR (w w' : World) (bs : Nat → St) (go co ga ca : Nat) (own : Nat → List Int) : Prop where
  hB : Below w.heap.size w w'
  ef : ∀ j, j < 4 → Ef 3 (own j)
  ow : Rd w' (some ⟨go, 0, none⟩) (ownV own)
  rows : ∀ j, j < 4 → ∃ A c xs, w'.cell? ⟨ga, j, none⟩ = some (.slice A (tl bs j).length c) ∧ (tl bs j).length ≤ c ∧ c ≤ 9223372036854775807 ∧ Rd w' A xs ∧ xs.length = (tl bs j).length * 8 ∧ ToOk xs (tl bs j) ∧ ∀ a, A = some a → a = ⟨a.block, 0, none⟩
def WhPost (w : World) (bs : Nat → St) (e : Ending) (w' : World) : Prop := ∃ go co ga ca own, e = .returned (.tuple #[.slice (some ⟨go, 0, none⟩) 4 co, .slice (some ⟨ga, 0, none⟩) 4 ca]) ∧ 4 ≤ co ∧ co ≤ 9223372036854775807 ∧ 4 ≤ ca ∧ ca ≤ 9223372036854775807 ∧ Hid (WhR w w' bs go co ga ca own)
theorem FxS.rows {W0 W : World} {bs : Nat → St} {ga ca : Nat} {vl : List Value} {Es : Nat → Nat → List Int} (h : FxS W0 W bs ga ca vl Es) : ∀ j, j < 4 → ∃ A c xs, W.cell? ⟨ga, j, none⟩ = some (.slice A (tl bs j).length c) ∧ (tl bs j).length ≤ c ∧ c ≤ 9223372036854775807 ∧ Rd W A xs ∧ xs.length = (tl bs j).length * 8 ∧ ToOk xs (tl bs j) ∧ ∀ a, A = some a → a = ⟨a.block, 0, none⟩ := by
  intro j hj
  have hl : j < vl.length := by rw [h.len]; exact hj
  obtain ⟨xs, q1, q2, -⟩ := h.ot j hl
  obtain ⟨A, c, e, e1, e2, e3, -⟩ := Rd.own q1
  have hc := own_at h.oa j (List.getElem?_eq_getElem hl)
  rw [e] at hc
  refine ⟨A, c, xs, hc, e1, e2, e3, q1.1, q2, fun a ha => ?_⟩
  rcases q1.2 with ⟨h5, -⟩ | ⟨g', cap, cur, h5, -⟩
  · rw [e] at h5; simp only [Value.slice.injEq] at h5; rw [h5.1] at ha; cases ha
  · rw [e] at h5; simp only [Value.slice.injEq] at h5; rw [h5.1] at ha; cases ha; rfl
theorem WhS.pts {wb W1 W2 : World} {bs : Nat → St} {most : Bool} {go co gp cp : Nat} {own : Nat → List Int} {vs : Nat → Value} (h : WhS wb W1 W2 bs most go co gp cp own vs true 0) : ∀ j, j < 4 → ∃ A c xs, W2.cell? ⟨gp, j, none⟩ = some (.slice A (ptsN (bs j)) c) ∧ ptsN (bs j) ≤ c ∧ c ≤ 9223372036854775807 ∧ Rd W2 A xs ∧ xs.length = ptsN (bs j) * 7 ∧ PtsOk (bs j) xs (ptsN (bs j)) ∧ ∀ a, A = some a → a = ⟨a.block, 0, none⟩ := by
  intro j hj
  obtain ⟨A, c, xs, e, h1, h2, h3, h4, h5, h6, h7⟩ := h.pt j hj (.inl rfl)
  have hc := own_at h.two.oy j (vsL_at vs hj)
  rw [e] at hc
  exact ⟨A, c, xs, hc, h1, h2, h3, h4, h5, fun a ha => (h7 a ha).2⟩
set_option maxHeartbeats 64000000 in
set_option maxRecDepth 100000 in
theorem refwhole_any (v : Value) (bs : Nat → St) (most : Bool) (w : World) (hp : PrOk w.cell? v bs) (hok : ∀ j, j < 4 → StOk (bs j)) (hcnt : ∀ j, j < 4 → (bs j).cnt ≤ 200) :
    Calls Try.prog 43 #[v, .bool most] w (WhPost w bs) := by
  have hp' := Lib.hid hp
  obtain ⟨A0, n0, c0, g1, g2, rfl, -, -⟩ := hp
  replace hok := Lib.hid hok
  replace hcnt := Lib.hid hcnt
  obtain ⟨wb, hwb⟩ : ∃ Z, Z = w.alloc (.cells #[.slice A0 n0 c0, .slice (some ⟨g1, 0, none⟩) 3 3, .slice (some ⟨g2, 0, none⟩) 4 4] 40) := ⟨_, rfl⟩
  have hbb : Hid (Below w.heap.size w wb) := Lib.hid (by rw [hwb]; exact bl_alloc (Below.refl _ _) _)
  have hbx : Hid (wb.heap[w.heap.size]? = some (.cells #[.slice A0 n0 c0, .slice (some ⟨g1, 0, none⟩) 3 3, .slice (some ⟨g2, 0, none⟩) 4 4] 40 (0, 0))) := Lib.hid (by rw [hwb]; exact heap_alloc_new w _)
  have hbz : Hid (wb.heap.size = w.heap.size + 1) := Lib.hid (by rw [hwb]; simp)
  have y1 : wb.cell? ⟨w.heap.size, 1, none⟩ = some (.slice (some ⟨g1, 0, none⟩) 3 3) := by rw [cell_of_row _ _ 1 _ 40 (0, 0) hbx.out]; rfl
  have y2 : Hid (wb.cell? ⟨w.heap.size, 2, none⟩ = some (.slice (some ⟨g2, 0, none⟩) 4 4)) := Lib.hid (by rw [cell_of_row _ _ 2 _ 40 (0, 0) hbx.out]; rfl)
  obtain ⟨tc, htc⟩ : ∃ t, t = topC most := ⟨_, rfl⟩
  have ht0 : 48 ≤ tc := by rw [htc]; unfold topC; split <;> omega
  have ht1 : tc ≤ 50 := by rw [htc]; unfold topC; split <;> omega
  have htm : Hid (tc = topC most) := Lib.hid htc
  go_enter Try.func43, Try.ntmps43
  have hways : ∀ W : World, True := fun _ => trivial
  cases most with
  | true =>
    obtain rfl : tc = 48 := htc
    go_upto_block 0 with fail
    rw [← hwb]
    replace hwb := Lib.hid hwb
    refine whole_b0 w.heap.size g2 48 _ _ _ _ _ _ _ _ _ _ _ _ _ _ _ _ _ _ _ _ _ _ _ _ _ _ _ _ _ _ _ _ _ _ _ _ _ _ _ _ _ _ _ _ _ _ _ _ _ _ _ _ _ _ _ _ _ _ _ _ _ _ _ _ _ _ _ _ _ _ _ _ _ _ _ _ _ _ _ _ _ _ _ _ _ _ _ _ _ _ _ _ _ _ _ _ _ _ _ _ _ _ _ _ _ _ _ _ _ _ _ _ _ _ _ _ _ _ _ _ _ _ _ _ _ _ _ _ _ _ _ _ _ _ _ _ _ _ _ _ _ _ _ _ _ _ _ _ _ _ _ _ _ _ _ _ _ _ _ _ _ _ _ _ _ _ _ _ _ _ _ _ _ _ _ _ _ _ _ _ _ _ _ _ _ _ _ _ _ _ _ _ _ _ _ _ _ _ _ _ _ _ _ _ _ _ _ _ _ _ _ _ _ _ _ _ _ _ _ _ _ _ _ _ _ _ _ _ _ _ _ _ _ _ _ _ _ _ _ _ _ _ _ _ _ _ _ _ _ _ _ _ _ _ _ _ _ _ _ _ _ _ _ _ _ _ _ _ _ _ _ _ _ _ _ wb _ y2 ht0 ht1 (Lib.hid (fun _ _ d _ _ h => by cases d <;> exact h)) (Lib.hid (fun go co gp cp _ _ _ _ _ _ _ _ _ _ _ _ _ _ _ _ _ W1 hT => ?_))
    have hbx1 := Lib.hid (bl_row hT.out.hB hbx.out)
    have hgo : wb.heap.size ≤ go := own_base hT.out.ox _ rfl
    have hgp : wb.heap.size ≤ gp := own_base hT.out.oy _ rfl
    have hbn : Hid (w.heap.size ≠ go ∧ w.heap.size ≠ gp) := Lib.hid (by have := hbz.out; omega)
    have hpr1 : Hid (PrOk (vis (fun b => b < wb.heap.size) W1) (.agg #[.slice A0 n0 c0, .slice (some ⟨g1, 0, none⟩) 3 3, .slice (some ⟨g2, 0, none⟩) 4 4]) bs) := Lib.hid (hp'.out.mono (fun a u e => vis_of (by have := World.block_lt_of_cell? w a e; have := hbz.out; omega) (bl_cell hT.out.hB (bl_cell hbb.out e))))
    clear y1
    go_upto_block 2 with fail
    refine whole_b2 wb w.heap.size g1 g2 n0 c0 go co gp cp A0 true bs _ _ _ _ _ _ _ _ _ _ _ _ _ _ _ _ _ _ _ _ _ _ _ _ _ _ _ _ _ _ _ _ _ _ _ _ _ _ _ _ _ _ _ _ _ _ _ _ _ _ _ _ _ _ _ _ _ _ _ _ _ _ _ _ _ _ _ _ _ _ _ _ _ _ _ _ _ _ _ _ _ _ _ _ _ _ _ _ _ _ _ _ _ _ _ _ _ _ _ _ _ _ _ _ _ _ _ _ _ _ _ _ _ _ _ _ _ _ _ _ _ _ _ _ _ _ _ _ _ _ _ _ _ _ _ _ _ _ _ _ _ _ _ _ _ _ _ _ _ _ _ _ _ _ _ _ _ _ _ _ _ _ _ _ _ _ _ _ _ _ _ _ _ _ _ _ _ _ _ _ _ _ _ _ _ _ _ _ _ _ _ _ _ _ _ _ _ _ _ _ _ _ _ _ _ _ _ _ _ _ _ _ _ _ _ _ _ _ _ _ _ _ _ _ _ _ _ _ _ _ _ _ _ _ _ _ _ _ _ _ _ _ _ _ _ _ _ _ _ _ _ _ _ _ _ _ _ _ _ _ _ _ _ _ _ _ _ _ _ _ _ _ _ _ _ W1 _ hbx1 hbn hpr1 hok hcnt (Lib.hid hT.out) (Lib.hid (fun _ _ d _ _ h => by cases d <;> exact h)) (Lib.hid (fun own vs _ _ _ _ _ _ _ _ _ _ _ _ _ _ _ _ _ _ _ _ _ _ _ _ _ _ _ _ _ _ _ _ _ _ _ _ _ _ _ _ _ _ _ _ W2 hS => ?_))
    have hbx2 := Lib.hid ((hS.out.kp.block _ (Array.getElem?_eq_some_iff.1 hbx1.out).1 hbn.out.1 hbn.out.2).trans hbx1.out)
    have hpr2 := Lib.hid (hS.out.kp.pr hpr1.out hgo hgp)
    have hpt2 := Lib.hid hS.out.pts
    go_upto_block 6 with fail
    refine whole_b6 w.heap.size g1 g2 n0 c0 gp cp A0 48 bs _ _ _ _ _ _ _ _ _ _ _ _ _ _ _ _ _ _ _ _ _ _ _ _ _ _ _ _ _ _ _ _ _ _ _ _ _ _ _ _ _ _ _ _ _ _ _ _ _ _ _ _ _ _ _ _ _ _ _ _ _ _ _ _ _ _ _ _ _ _ _ _ _ _ _ _ _ _ _ _ _ _ _ _ _ _ _ _ _ _ _ _ _ _ _ _ _ _ _ _ _ _ _ _ _ _ _ _ _ _ _ _ _ _ _ _ _ _ _ _ _ _ _ _ _ _ _ _ _ _ _ _ _ _ _ _ _ _ _ _ _ _ _ _ _ _ _ _ _ _ _ _ _ _ _ _ _ _ _ _ _ _ _ _ _ _ _ _ _ _ _ _ _ _ _ _ _ _ _ _ _ _ _ _ _ _ _ _ _ _ _ _ _ _ _ _ _ _ _ _ _ _ _ _ _ _ _ _ _ _ _ _ _ _ _ _ _ _ _ _ _ _ _ _ _ _ _ _ _ _ _ _ _ _ _ _ _ _ _ _ _ _ _ _ _ _ _ _ _ _ _ _ _ _ _ _ _ _ _ _ _ _ _ _ _ _ _ _ _ _ _ _ _ _ _ W2 _ ht0 ht1 hbx2 hpr2 hok hcnt hpt2 (Lib.hid (fun _ _ d _ _ h => by cases d <;> exact h)) (Lib.hid (fun u15 _ _ _ _ _ _ _ _ _ _ _ _ _ _ _ _ _ _ _ _ _ _ _ _ _ _ _ _ _ _ _ _ _ _ _ _ _ _ _ _ _ _ _ _ _ _ _ _ _ _ _ _ _ _ _ _ _ _ _ _ _ _ _ _ _ _ _ _ _ _ _ _ _ _ _ _ _ _ _ _ _ _ _ _ _ _ _ W3 hA => ?_))
    obtain ⟨vl, hvl, hA2⟩ := hA.out
    obtain ⟨ga, ca, Es, rfl, hF⟩ := hA2.fx hvl
    replace hF := Lib.hid hF
    replace hvl := Lib.hid hvl
    replace hA2 := Lib.hid hA2
    go_upto_block 12 with fail
    refine whole_b12 W2 w.heap.size g1 g2 n0 c0 gp cp ga ca A0 true bs vl Es _ _ _ _ _ _ _ _ _ _ _ _ _ _ _ _ _ _ _ _ _ _ _ _ _ _ _ _ _ _ _ _ _ _ _ _ _ _ _ _ _ _ _ _ _ _ _ _ _ _ _ _ _ _ _ _ _ _ _ _ _ _ _ _ _ _ _ _ _ _ _ _ _ _ _ _ _ _ _ _ _ _ _ _ _ _ _ _ _ _ _ _ _ _ _ _ _ _ _ _ _ _ _ _ _ _ _ _ _ _ _ _ _ _ _ _ _ _ _ _ _ _ _ _ _ _ _ _ _ _ _ _ _ _ _ _ _ _ _ _ _ _ _ _ _ _ _ _ _ _ _ _ _ _ _ _ _ _ _ _ _ _ _ _ _ _ _ _ _ _ _ _ _ _ _ _ _ _ _ _ _ _ _ _ _ _ _ _ _ _ _ _ _ _ _ _ _ _ _ _ _ _ _ _ _ _ _ _ _ _ _ _ _ _ _ _ _ _ _ _ _ _ _ _ _ _ _ _ _ _ _ _ _ _ _ _ _ _ _ _ _ _ _ _ _ _ _ _ _ _ _ _ _ _ _ _ _ _ _ _ _ _ _ _ _ _ _ _ _ _ _ _ _ _ _ _ W3 _ hbx2 hpr2 hok hcnt hpt2 hF (Lib.hid (fun _ _ d _ _ h => by cases d <;> exact h)) (Lib.hid (fun _ _ _ _ _ _ _ _ _ _ _ _ _ _ _ _ _ _ _ _ _ _ _ _ _ _ _ _ _ _ _ _ _ _ _ _ _ _ _ _ _ _ _ _ _ _ _ _ _ _ _ _ _ _ _ _ _ _ _ _ _ _ _ _ _ _ _ _ _ _ _ _ _ _ _ _ _ _ _ _ _ _ _ _ _ _ _ _ _ _ _ _ _ _ _ _ _ _ _ _ _ _ _ _ _ _ _ _ _ _ _ _ _ _ _ _ W4 hF4 => ?_))
    go_wp2_with fail
    go_ret2
    obtain ⟨Es4, hF4⟩ := hF4.out
    obtain ⟨A5, c5, e5, e6, e7, e8, -⟩ := Rd.own hS.out.two.ox
    cases e5
    obtain ⟨A6, c6, f5, f6, f7, -⟩ := Rd.own hF4.oa
    cases f5
    exact ⟨go, co, ga, ca, own, rfl, e6, e7, f6, f7, Lib.hid ⟨(hbb.out.trans (hS.out.two.hB.mono hbb.out.size)).trans (hF4.hB.mono (Nat.le_trans hbb.out.size hS.out.two.hB.size)), hS.out.pre.1, e8.below hF4.hB, hF4.rows⟩⟩

  | false =>
    obtain rfl : tc = 50 := htc
    go_upto_block 0 with fail
    rw [← hwb]
    replace hwb := Lib.hid hwb
    refine whole_b0 w.heap.size g2 50 _ _ _ _ _ _ _ _ _ _ _ _ _ _ _ _ _ _ _ _ _ _ _ _ _ _ _ _ _ _ _ _ _ _ _ _ _ _ _ _ _ _ _ _ _ _ _ _ _ _ _ _ _ _ _ _ _ _ _ _ _ _ _ _ _ _ _ _ _ _ _ _ _ _ _ _ _ _ _ _ _ _ _ _ _ _ _ _ _ _ _ _ _ _ _ _ _ _ _ _ _ _ _ _ _ _ _ _ _ _ _ _ _ _ _ _ _ _ _ _ _ _ _ _ _ _ _ _ _ _ _ _ _ _ _ _ _ _ _ _ _ _ _ _ _ _ _ _ _ _ _ _ _ _ _ _ _ _ _ _ _ _ _ _ _ _ _ _ _ _ _ _ _ _ _ _ _ _ _ _ _ _ _ _ _ _ _ _ _ _ _ _ _ _ _ _ _ _ _ _ _ _ _ _ _ _ _ _ _ _ _ _ _ _ _ _ _ _ _ _ _ _ _ _ _ _ _ _ _ _ _ _ _ _ _ _ _ _ _ _ _ _ _ _ _ _ _ _ _ _ _ _ _ _ _ _ _ _ _ _ _ _ _ _ _ _ _ _ _ _ _ _ _ _ _ wb _ y2 ht0 ht1 (Lib.hid (fun _ _ d _ _ h => by cases d <;> exact h)) (Lib.hid (fun go co gp cp _ _ _ _ _ _ _ _ _ _ _ _ _ _ _ _ _ W1 hT => ?_))
    have hbx1 := Lib.hid (bl_row hT.out.hB hbx.out)
    have hgo : wb.heap.size ≤ go := own_base hT.out.ox _ rfl
    have hgp : wb.heap.size ≤ gp := own_base hT.out.oy _ rfl
    have hbn : Hid (w.heap.size ≠ go ∧ w.heap.size ≠ gp) := Lib.hid (by have := hbz.out; omega)
    have hpr1 : Hid (PrOk (vis (fun b => b < wb.heap.size) W1) (.agg #[.slice A0 n0 c0, .slice (some ⟨g1, 0, none⟩) 3 3, .slice (some ⟨g2, 0, none⟩) 4 4]) bs) := Lib.hid (hp'.out.mono (fun a u e => vis_of (by have := World.block_lt_of_cell? w a e; have := hbz.out; omega) (bl_cell hT.out.hB (bl_cell hbb.out e))))
    clear y1
    go_upto_block 2 with fail
    refine whole_b2 wb w.heap.size g1 g2 n0 c0 go co gp cp A0 false bs _ _ _ _ _ _ _ _ _ _ _ _ _ _ _ _ _ _ _ _ _ _ _ _ _ _ _ _ _ _ _ _ _ _ _ _ _ _ _ _ _ _ _ _ _ _ _ _ _ _ _ _ _ _ _ _ _ _ _ _ _ _ _ _ _ _ _ _ _ _ _ _ _ _ _ _ _ _ _ _ _ _ _ _ _ _ _ _ _ _ _ _ _ _ _ _ _ _ _ _ _ _ _ _ _ _ _ _ _ _ _ _ _ _ _ _ _ _ _ _ _ _ _ _ _ _ _ _ _ _ _ _ _ _ _ _ _ _ _ _ _ _ _ _ _ _ _ _ _ _ _ _ _ _ _ _ _ _ _ _ _ _ _ _ _ _ _ _ _ _ _ _ _ _ _ _ _ _ _ _ _ _ _ _ _ _ _ _ _ _ _ _ _ _ _ _ _ _ _ _ _ _ _ _ _ _ _ _ _ _ _ _ _ _ _ _ _ _ _ _ _ _ _ _ _ _ _ _ _ _ _ _ _ _ _ _ _ _ _ _ _ _ _ _ _ _ _ _ _ _ _ _ _ _ _ _ _ _ _ _ _ _ _ _ _ _ _ _ _ _ _ _ _ _ _ W1 _ hbx1 hbn hpr1 hok hcnt (Lib.hid hT.out) (Lib.hid (fun _ _ d _ _ h => by cases d <;> exact h)) (Lib.hid (fun own vs _ _ _ _ _ _ _ _ _ _ _ _ _ _ _ _ _ _ _ _ _ _ _ _ _ _ _ _ _ _ _ _ _ _ _ _ _ _ _ _ _ _ _ _ W2 hS => ?_))
    have hbx2 := Lib.hid ((hS.out.kp.block _ (Array.getElem?_eq_some_iff.1 hbx1.out).1 hbn.out.1 hbn.out.2).trans hbx1.out)
    have hpr2 := Lib.hid (hS.out.kp.pr hpr1.out hgo hgp)
    have hpt2 := Lib.hid hS.out.pts
    go_upto_block 6 with fail
    refine whole_b6 w.heap.size g1 g2 n0 c0 gp cp A0 50 bs _ _ _ _ _ _ _ _ _ _ _ _ _ _ _ _ _ _ _ _ _ _ _ _ _ _ _ _ _ _ _ _ _ _ _ _ _ _ _ _ _ _ _ _ _ _ _ _ _ _ _ _ _ _ _ _ _ _ _ _ _ _ _ _ _ _ _ _ _ _ _ _ _ _ _ _ _ _ _ _ _ _ _ _ _ _ _ _ _ _ _ _ _ _ _ _ _ _ _ _ _ _ _ _ _ _ _ _ _ _ _ _ _ _ _ _ _ _ _ _ _ _ _ _ _ _ _ _ _ _ _ _ _ _ _ _ _ _ _ _ _ _ _ _ _ _ _ _ _ _ _ _ _ _ _ _ _ _ _ _ _ _ _ _ _ _ _ _ _ _ _ _ _ _ _ _ _ _ _ _ _ _ _ _ _ _ _ _ _ _ _ _ _ _ _ _ _ _ _ _ _ _ _ _ _ _ _ _ _ _ _ _ _ _ _ _ _ _ _ _ _ _ _ _ _ _ _ _ _ _ _ _ _ _ _ _ _ _ _ _ _ _ _ _ _ _ _ _ _ _ _ _ _ _ _ _ _ _ _ _ _ _ _ _ _ _ _ _ _ _ _ _ _ _ _ W2 _ ht0 ht1 hbx2 hpr2 hok hcnt hpt2 (Lib.hid (fun _ _ d _ _ h => by cases d <;> exact h)) (Lib.hid (fun u15 _ _ _ _ _ _ _ _ _ _ _ _ _ _ _ _ _ _ _ _ _ _ _ _ _ _ _ _ _ _ _ _ _ _ _ _ _ _ _ _ _ _ _ _ _ _ _ _ _ _ _ _ _ _ _ _ _ _ _ _ _ _ _ _ _ _ _ _ _ _ _ _ _ _ _ _ _ _ _ _ _ _ _ _ _ _ _ W3 hA => ?_))
    obtain ⟨vl, hvl, hA2⟩ := hA.out
    obtain ⟨ga, ca, Es, rfl, hF⟩ := hA2.fx hvl
    replace hF := Lib.hid hF
    replace hvl := Lib.hid hvl
    replace hA2 := Lib.hid hA2
    go_upto_block 12 with fail
    refine whole_b12 W2 w.heap.size g1 g2 n0 c0 gp cp ga ca A0 false bs vl Es _ _ _ _ _ _ _ _ _ _ _ _ _ _ _ _ _ _ _ _ _ _ _ _ _ _ _ _ _ _ _ _ _ _ _ _ _ _ _ _ _ _ _ _ _ _ _ _ _ _ _ _ _ _ _ _ _ _ _ _ _ _ _ _ _ _ _ _ _ _ _ _ _ _ _ _ _ _ _ _ _ _ _ _ _ _ _ _ _ _ _ _ _ _ _ _ _ _ _ _ _ _ _ _ _ _ _ _ _ _ _ _ _ _ _ _ _ _ _ _ _ _ _ _ _ _ _ _ _ _ _ _ _ _ _ _ _ _ _ _ _ _ _ _ _ _ _ _ _ _ _ _ _ _ _ _ _ _ _ _ _ _ _ _ _ _ _ _ _ _ _ _ _ _ _ _ _ _ _ _ _ _ _ _ _ _ _ _ _ _ _ _ _ _ _ _ _ _ _ _ _ _ _ _ _ _ _ _ _ _ _ _ _ _ _ _ _ _ _ _ _ _ _ _ _ _ _ _ _ _ _ _ _ _ _ _ _ _ _ _ _ _ _ _ _ _ _ _ _ _ _ _ _ _ _ _ _ _ _ _ _ _ _ _ _ _ _ _ _ _ _ _ _ _ _ _ W3 _ hbx2 hpr2 hok hcnt hpt2 hF (Lib.hid (fun _ _ d _ _ h => by cases d <;> exact h)) (Lib.hid (fun _ _ _ _ _ _ _ _ _ _ _ _ _ _ _ _ _ _ _ _ _ _ _ _ _ _ _ _ _ _ _ _ _ _ _ _ _ _ _ _ _ _ _ _ _ _ _ _ _ _ _ _ _ _ _ _ _ _ _ _ _ _ _ _ _ _ _ _ _ _ _ _ _ _ _ _ _ _ _ _ _ _ _ _ _ _ _ _ _ _ _ _ _ _ _ _ _ _ _ _ _ _ _ _ _ _ _ _ _ _ _ _ _ _ _ _ W4 hF4 => ?_))
    go_wp2_with fail
    go_ret2
    obtain ⟨Es4, hF4⟩ := hF4.out
    obtain ⟨A5, c5, e5, e6, e7, e8, -⟩ := Rd.own hS.out.two.ox
    cases e5
    obtain ⟨A6, c6, f5, f6, f7, -⟩ := Rd.own hF4.oa
    cases f5
    exact ⟨go, co, ga, ca, own, rfl, e6, e7, f6, f7, Lib.hid ⟨(hbb.out.trans (hS.out.two.hB.mono hbb.out.size)).trans (hF4.hB.mono (Nat.le_trans hbb.out.size hS.out.two.hB.size)), hS.out.pre.1, e8.below hF4.hB, hF4.rows⟩⟩

end Go.Proofs.Ytdhklfbelplbcaa
namespace Go.Proofs.Ytdhklfbelplbcaa
set_option maxRecDepth 100000
noncomputable def opsA7 : Array Oper := regIn 7 Try.f22
theorem nsA7 : Region.noSelect opsA7 = true := by kernel_rfl
theorem liA7 : Array.replicate opsA7.size false = (bitsB 11 0) := by kernel_rfl
theorem rdA7_0 : Region.ready .any opsA7 (bitsB 11 0) = [0, 1, 4, 5, 9] := by kernel_rfl
theorem frA7_0 : Region.free .any opsA7 (bitsB 11 0) 0 = true := by kernel_rfl
theorem stA7_0 : (bitsB 11 0).setIfInBounds 0 true = (bitsB 11 1) := by kernel_rfl
theorem rdA7_1 : Region.ready .any opsA7 (bitsB 11 1) = [1, 4, 5, 9] := by kernel_rfl
theorem frA7_1 : Region.free .any opsA7 (bitsB 11 1) 1 = true := by kernel_rfl
theorem stA7_1 : (bitsB 11 1).setIfInBounds 1 true = (bitsB 11 3) := by kernel_rfl
theorem rdA7_2 : Region.ready .any opsA7 (bitsB 11 3) = [2, 4, 5, 9] := by kernel_rfl
theorem frA7_2 : Region.free .any opsA7 (bitsB 11 3) 2 = true := by kernel_rfl
theorem stA7_2 : (bitsB 11 3).setIfInBounds 2 true = (bitsB 11 7) := by kernel_rfl
theorem rdA7_3 : Region.ready .any opsA7 (bitsB 11 7) = [3, 4, 5, 9] := by kernel_rfl
theorem frA7_3 : Region.free .any opsA7 (bitsB 11 7) 3 = true := by kernel_rfl
theorem stA7_3 : (bitsB 11 7).setIfInBounds 3 true = (bitsB 11 15) := by kernel_rfl
theorem rdA7_4 : Region.ready .any opsA7 (bitsB 11 15) = [4, 5, 9] := by kernel_rfl
theorem frA7_4 : Region.free .any opsA7 (bitsB 11 15) 4 = true := by kernel_rfl
theorem stA7_4 : (bitsB 11 15).setIfInBounds 4 true = (bitsB 11 31) := by kernel_rfl
theorem rdA7_5 : Region.ready .any opsA7 (bitsB 11 31) = [5, 9] := by kernel_rfl
theorem frA7_5 : Region.free .any opsA7 (bitsB 11 31) 5 = true := by kernel_rfl
theorem stA7_5 : (bitsB 11 31).setIfInBounds 5 true = (bitsB 11 63) := by kernel_rfl
theorem rdA7_6 : Region.ready .any opsA7 (bitsB 11 63) = [6, 9] := by kernel_rfl
theorem frA7_6 : Region.free .any opsA7 (bitsB 11 63) 6 = true := by kernel_rfl
theorem stA7_6 : (bitsB 11 63).setIfInBounds 6 true = (bitsB 11 127) := by kernel_rfl
theorem rdA7_7 : Region.ready .any opsA7 (bitsB 11 127) = [7, 9] := by kernel_rfl
theorem frA7_7 : Region.free .any opsA7 (bitsB 11 127) 7 = true := by kernel_rfl
theorem stA7_7 : (bitsB 11 127).setIfInBounds 7 true = (bitsB 11 255) := by kernel_rfl
theorem rdA7_8 : Region.ready .any opsA7 (bitsB 11 255) = [8, 9] := by kernel_rfl
theorem frA7_8 : Region.free .any opsA7 (bitsB 11 255) 8 = true := by kernel_rfl
theorem stA7_8 : (bitsB 11 255).setIfInBounds 8 true = (bitsB 11 511) := by kernel_rfl
theorem rdA7_9 : Region.ready .any opsA7 (bitsB 11 511) = [9] := by kernel_rfl
theorem stA7_9 : (bitsB 11 511).setIfInBounds 9 true = (bitsB 11 1023) := by kernel_rfl
theorem rdA7_10 : Region.ready .any opsA7 (bitsB 11 1023) = [10] := by kernel_rfl
theorem stA7_10 : (bitsB 11 1023).setIfInBounds 10 true = (bitsB 11 2047) := by kernel_rfl
theorem rdA7_11 : Region.ready .any opsA7 (bitsB 11 2047) = [] := by kernel_rfl
noncomputable def opsA17 : Array Oper := regIn 17 Try.f22
theorem nsA17 : Region.noSelect opsA17 = true := by kernel_rfl
theorem liA17 : Array.replicate opsA17.size false = (bitsB 20 0) := by kernel_rfl
theorem rdA17_0 : Region.ready .any opsA17 (bitsB 20 0) = [0, 2, 4, 7, 8, 11] := by kernel_rfl
theorem frA17_0 : Region.free .any opsA17 (bitsB 20 0) 0 = true := by kernel_rfl
theorem laA17_0 : lateOn .any opsA17 19 0 = true := by kernel_rfl
theorem stA17_0 : (bitsB 20 0).setIfInBounds 0 true = (bitsB 20 1) := by kernel_rfl
theorem rdA17_1 : Region.ready .any opsA17 (bitsB 20 1) = [1, 2, 4, 7, 8, 11] := by kernel_rfl
theorem frA17_1 : Region.free .any opsA17 (bitsB 20 1) 1 = true := by kernel_rfl
theorem laA17_1 : lateOn .any opsA17 19 1 = true := by kernel_rfl
theorem stA17_1 : (bitsB 20 1).setIfInBounds 1 true = (bitsB 20 3) := by kernel_rfl
theorem rdA17_2 : Region.ready .any opsA17 (bitsB 20 3) = [2, 4, 7, 8, 11] := by kernel_rfl
theorem frA17_2 : Region.free .any opsA17 (bitsB 20 3) 2 = true := by kernel_rfl
theorem laA17_2 : lateOn .any opsA17 19 2 = true := by kernel_rfl
theorem stA17_2 : (bitsB 20 3).setIfInBounds 2 true = (bitsB 20 7) := by kernel_rfl
theorem rdA17_3 : Region.ready .any opsA17 (bitsB 20 7) = [3, 4, 7, 8, 11] := by kernel_rfl
theorem frA17_3 : Region.free .any opsA17 (bitsB 20 7) 3 = true := by kernel_rfl
theorem laA17_3 : lateOn .any opsA17 19 3 = true := by kernel_rfl
theorem stA17_3 : (bitsB 20 7).setIfInBounds 3 true = (bitsB 20 15) := by kernel_rfl
theorem rdA17_4 : Region.ready .any opsA17 (bitsB 20 15) = [4, 7, 8, 11] := by kernel_rfl
theorem frA17_4 : Region.free .any opsA17 (bitsB 20 15) 4 = true := by kernel_rfl
theorem laA17_4 : lateOn .any opsA17 19 4 = true := by kernel_rfl
theorem stA17_4 : (bitsB 20 15).setIfInBounds 4 true = (bitsB 20 31) := by kernel_rfl
theorem rdA17_5 : Region.ready .any opsA17 (bitsB 20 31) = [5, 7, 8, 11] := by kernel_rfl
theorem frA17_5 : Region.free .any opsA17 (bitsB 20 31) 5 = true := by kernel_rfl
theorem laA17_5 : lateOn .any opsA17 19 5 = true := by kernel_rfl
theorem stA17_5 : (bitsB 20 31).setIfInBounds 5 true = (bitsB 20 63) := by kernel_rfl
theorem rdA17_6 : Region.ready .any opsA17 (bitsB 20 63) = [6, 7, 8, 11] := by kernel_rfl
theorem frA17_6 : Region.free .any opsA17 (bitsB 20 63) 6 = true := by kernel_rfl
theorem laA17_6 : lateOn .any opsA17 19 6 = true := by kernel_rfl
theorem stA17_6 : (bitsB 20 63).setIfInBounds 6 true = (bitsB 20 127) := by kernel_rfl
theorem rdA17_7 : Region.ready .any opsA17 (bitsB 20 127) = [7, 8, 11] := by kernel_rfl
theorem frA17_7 : Region.free .any opsA17 (bitsB 20 127) 7 = true := by kernel_rfl
theorem laA17_7 : lateOn .any opsA17 19 7 = true := by kernel_rfl
theorem stA17_7 : (bitsB 20 127).setIfInBounds 7 true = (bitsB 20 255) := by kernel_rfl
theorem rdA17_8 : Region.ready .any opsA17 (bitsB 20 255) = [8, 11] := by kernel_rfl
theorem frA17_8 : Region.free .any opsA17 (bitsB 20 255) 8 = true := by kernel_rfl
theorem laA17_8 : lateOn .any opsA17 19 8 = true := by kernel_rfl
theorem stA17_8 : (bitsB 20 255).setIfInBounds 8 true = (bitsB 20 511) := by kernel_rfl
theorem rdA17_9 : Region.ready .any opsA17 (bitsB 20 511) = [9, 11] := by kernel_rfl
theorem frA17_9 : Region.free .any opsA17 (bitsB 20 511) 9 = true := by kernel_rfl
theorem laA17_9 : lateOn .any opsA17 19 9 = true := by kernel_rfl
theorem stA17_9 : (bitsB 20 511).setIfInBounds 9 true = (bitsB 20 1023) := by kernel_rfl
theorem rdA17_10 : Region.ready .any opsA17 (bitsB 20 1023) = [10, 11] := by kernel_rfl
theorem frA17_10 : Region.free .any opsA17 (bitsB 20 1023) 10 = true := by kernel_rfl
theorem laA17_10 : lateOn .any opsA17 19 10 = true := by kernel_rfl
theorem stA17_10 : (bitsB 20 1023).setIfInBounds 10 true = (bitsB 20 2047) := by kernel_rfl
theorem rdA17_11 : Region.ready .any opsA17 (bitsB 20 2047) = [11] := by kernel_rfl
theorem stA17_11 : (bitsB 20 2047).setIfInBounds 11 true = (bitsB 20 4095) := by kernel_rfl
theorem rdA17_12 : Region.ready .any opsA17 (bitsB 20 4095) = [12] := by kernel_rfl
theorem stA17_12 : (bitsB 20 4095).setIfInBounds 12 true = (bitsB 20 8191) := by kernel_rfl
theorem rdA17_13 : Region.ready .any opsA17 (bitsB 20 8191) = [13] := by kernel_rfl
theorem stA17_13 : (bitsB 20 8191).setIfInBounds 13 true = (bitsB 20 16383) := by kernel_rfl
theorem rdA17_14 : Region.ready .any opsA17 (bitsB 20 16383) = [14] := by kernel_rfl
theorem stA17_14 : (bitsB 20 16383).setIfInBounds 14 true = (bitsB 20 32767) := by kernel_rfl
theorem rdA17_15 : Region.ready .any opsA17 (bitsB 20 32767) = [15] := by kernel_rfl
theorem stA17_15 : (bitsB 20 32767).setIfInBounds 15 true = (bitsB 20 65535) := by kernel_rfl
theorem rdA17_16 : Region.ready .any opsA17 (bitsB 20 65535) = [16] := by kernel_rfl
theorem stA17_16 : (bitsB 20 65535).setIfInBounds 16 true = (bitsB 20 131071) := by kernel_rfl
theorem rdA17_17 : Region.ready .any opsA17 (bitsB 20 131071) = [17] := by kernel_rfl
theorem stA17_17 : (bitsB 20 131071).setIfInBounds 17 true = (bitsB 20 262143) := by kernel_rfl
theorem rdA17_18 : Region.ready .any opsA17 (bitsB 20 262143) = [18] := by kernel_rfl
theorem stA17_18 : (bitsB 20 262143).setIfInBounds 18 true = (bitsB 20 524287) := by kernel_rfl
theorem rdA17_19 : Region.ready .any opsA17 (bitsB 20 524287) = [19] := by kernel_rfl
theorem stA17_19 : (bitsB 20 524287).setIfInBounds 19 true = (bitsB 20 1048575) := by kernel_rfl
theorem rdA17_20 : Region.ready .any opsA17 (bitsB 20 1048575) = [] := by kernel_rfl
end Go.Proofs.Ytdhklfbelplbcaa
