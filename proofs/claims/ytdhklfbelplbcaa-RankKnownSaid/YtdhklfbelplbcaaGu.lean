/- RankKnown: these orders are just these. -/
import Derived.Test.YtdhklfbelplbcaaGq
import Derived.Test.YtdhklfbelplbcaaGt
namespace Go.Proofs.Ytdhklfbelplbcaa
set_option linter.unusedVariables false
set_option linter.unusedSimpArgs false
open Go.RowKit Go.Maps

theorem s_ninf : floatBits .sub .f64 0 pinf = some ninf := by decide +kernel
def xs4 : List Int := [0, 1, 2, 0]
theorem xs4_len : xs4.length = 4 := rfl
theorem vs4_len : vs4.length = 4 := rfl
theorem cs3_len : cs3.length = 3 := rfl
theorem vs4_size : ∀ x ∈ vs4, x.size ≤ maxLen := by decide
/-- what is laid for the seven orders -/
def objsK (B : Option Addr) (d g nv : Nat) : List (Array Value × TypeId) :=
  [(#[.slice B 4 d, .slice none 0 0, .slice none 0 0], 48),
    (#[.int .i64 0, .int .i64 3, .int .i64 1, .int .i64 2], 3),
    (#[.int .i64 1, .int .i64 0, .int .i64 3, .int .i64 2], 3),
    (#[.int .i64 2, .int .i64 0, .int .i64 3, .int .i64 1], 3),
    (#[.int .i64 0, .int .i64 1, .int .i64 2, .int .i64 3], 3),
    (#[.int .i64 1, .int .i64 2, .int .i64 0, .int .i64 3], 3),
    (#[.int .i64 1, .int .i64 0, .int .i64 2, .int .i64 3], 3),
    (#[.int .i64 0, .int .i64 1, .int .i64 2, .int .i64 3], 3),
    (#[.slice (some ⟨g + 1, 0, none⟩) 4 4, .slice (some ⟨g + 1 + 1, 0, none⟩) 4 4, .slice (some ⟨g + 1 + 1 + 1, 0, none⟩) 4 4, .slice (some ⟨g + 1 + 1 + 1 + 1, 0, none⟩) 4 4, .slice (some ⟨g + 1 + 1 + 1 + 1 + 1, 0, none⟩) 4 4, .slice (some ⟨g + 1 + 1 + 1 + 1 + 1 + 1, 0, none⟩) 4 4, .slice (some ⟨g + 1 + 1 + 1 + 1 + 1 + 1 + 1, 0, none⟩) 4 4], 22),
    (#[.string ⟨#[97]⟩, .string ⟨#[98]⟩, .string ⟨#[99]⟩], 9),
    (#[.float .f64 4607182418800017408, .float .f64 4609434218613702656, .float .f64 4607182418800017408], 23),
    (#[.float .f64 4607182418800017408, .float .f64 nv, .float .f64 4607182418800017408], 23),
    (#[.float .f64 4607182418800017408, .float .f64 0, .float .f64 pinf], 23),
    (#[.float .f64 0, .float .f64 0, .float .f64 0], 23),
    (#[.float .f64 9223372036854775808, .float .f64 0, .float .f64 0], 23),
    (#[.float .f64 ninf, .float .f64 4617315517961601024, .float .f64 ninf], 23),
    (#[.slice (some ⟨g + 1 + 1 + 1 + 1 + 1 + 1 + 1 + 1 + 1 + 1, 0, none⟩) 3 3, .slice (some ⟨g + 1 + 1 + 1 + 1 + 1 + 1 + 1 + 1 + 1 + 1 + 1, 0, none⟩) 3 3, .slice (some ⟨g + 1 + 1 + 1 + 1 + 1 + 1 + 1 + 1 + 1 + 1 + 1 + 1, 0, none⟩) 3 3, .slice (some ⟨g + 1 + 1 + 1 + 1 + 1 + 1 + 1 + 1 + 1 + 1 + 1 + 1 + 1, 0, none⟩) 3 3, .slice (some ⟨g + 1 + 1 + 1 + 1 + 1 + 1 + 1 + 1 + 1 + 1 + 1 + 1 + 1 + 1, 0, none⟩) 3 3, .slice (some ⟨g + 1 + 1 + 1 + 1 + 1 + 1 + 1 + 1 + 1 + 1 + 1 + 1 + 1 + 1 + 1, 0, none⟩) 3 3, .slice none 0 0], 25)]
theorem objsK_len (B : Option Addr) (d g nv : Nat) : (objsK B d g nv).length = 17 := rfl
theorem row_rd {w : World} {g : Nat} {t : TypeId} {cs : Array Value} (h : w.heap[g]? = some (.cells cs t (0, 0))) (xs : List Value) (e : cs = xs.toArray) : Rd w (some ⟨g, 0, none⟩) xs := by subst e; exact rd_row h
theorem row_cell {w : World} {g : Nat} {t : TypeId} {cs : Array Value} (h : w.heap[g]? = some (.cells cs t (0, 0))) (i : Nat) (v : Value) (e : cs[i]? = some v) : w.cell? ⟨g, i, none⟩ = some v := by rw [cell_of_row _ _ _ _ _ _ h]; exact e
theorem four_cells {w : World} {gd : Nat} {f : Nat → Nat} (h : w.heap[gd]? = some (.cells (rowF 4 f).toArray 3 (0, 0))) (p : Nat) (hp : p < 4) : w.cell? ⟨gd, p, none⟩ = some (.int .i64 (f p : Nat)) := by
  rw [cell_of_row w gd p _ 3 (0, 0) h]; simp [rowF, hp]

set_option maxHeartbeats 8000000 in
set_option maxRecDepth 100000 in
theorem rankknown_any (w : World) (a : Int) (_ : (Lit.int .i64 a).wf = true) :
    Calls Try.prog 8 #[.int .i64 a] w fun e w' => e = .returned (.bool true) ∧ Below w.heap.size w w' := by
  have hq0 := fun w => run_float_nan (P := Try.prog) w .quo 23 _ _ (by simp) q_nan
  have hq1 := fun w => run_float_arith (P := Try.prog) w .quo 23 .f64 _ _ _ q_inf
  have hq3 := fun w => run_float_arith (P := Try.prog) w .mul 23 .f64 _ _ _ m_zero
  have hq4 := fun w => run_float_arith (P := Try.prog) w .sub 23 .f64 _ _ _ s_ninf
  obtain ⟨v, hv, v0, v7⟩ : ∃ v : Int, a % 7 = v ∧ 0 ≤ v ∧ v < 7 := ⟨a % 7, rfl, by omega, by omega⟩
  replace hv := Lib.hid hv
  go_enter Try.func8, Try.ntmps8
  go_upto_region 10 with (first
    | (go_at_call 11; refine (known_any _).mono ?_; rintro e w1 ⟨rfl, hb1⟩; have hB1 := Lib.hid hb1; clear hb1)
    | (go_at_call 25; have hrc := races_any (w1.alloc (.cells #[.int .i64 0, .int .i64 1, .int .i64 2, .int .i64 0] 3)).drew (some ⟨w1.heap.size, 0, none⟩) 4 xs4 (rd_new w1 (ints xs4) 3) (by rw [xs4_len]; omega) (by omega); rw [xs4_len] at hrc; (with_reducible refine hrc.mono ?_); clear hrc; rintro e w2 ⟨B, d, vs, rfl, hR, hvd, hdm, hvs, hb2⟩; obtain rfl : vs = vs4 := hvs.trans vs4_of; have hR2 := Lib.hid hR; have hB2 := Lib.hid (bl_then (bl_alloc hB1.out _).drew (by have := hB1.out.size; show _ ≤ (w1.alloc _).heap.size; simp; omega) hb2); clear hR hvs hb2)
    | (go_at_call 18; refine (within_any _ _ _ (by omega) (by omega)).mono ?_; rintro e w' ⟨rfl, rfl⟩; rw [hv.out]))
  clear hq0 hq1 hq3 hq4
  rw [vs4_len] at hvd
  rw [vs4_len]
  generalize hnv : nanAt w1 0 0 = nv
  have hnn : Hid (nanB nv = true) := Lib.hid (by rw [← hnv]; exact nanAt_nan _ _ _)
  replace hnv := Lib.hid hnv
  obtain ⟨g, hg⟩ : ∃ g, g = w2.heap.size := ⟨_, rfl⟩
  rw [← hg]
  obtain ⟨wb, hwb⟩ : ∃ x, x = allocs w2 (objsK B d g nv) := ⟨_, rfl⟩
  have hlay : Hid (∀ i, ∀ h : i < 17, wb.heap[g + i]? = some (.cells ((objsK B d g nv)[i]'h).1 ((objsK B d g nv)[i]'h).2 (0, 0))) := Lib.hid (fun i h => by have h1 := allocs_at (objsK B d g nv) w2 i h; rw [← hg] at h1; rw [hwb]; exact h1)
  have hw2b : Below w2.heap.size w2 wb := by rw [hwb]; exact allocs_below _ _ _ (Below.refl _ _)
  have hBb := Lib.hid (bl_then hB2.out hB2.out.size hw2b).drew
  have hRb := Lib.hid ((hR2.out.below hw2b).below (Below.refl _ _).drew)
  simp only [allocs, objsK] at hwb
  rw [← hwb]
  replace hwb := Lib.hid hwb
  replace hg := Lib.hid hg
  clear hw2b
  have hn9 := Lib.hid ((row_rd (hlay.out 9 (by omega)) (strs cs3) rfl).below (Below.refl _ _).drew)
  have h0 := hlay.out 0 (by omega)
  have p0 := row_cell h0 0 _ rfl
  have p1 := row_cell h0 1 _ rfl
  have p2 := row_cell h0 2 _ rfl
  have hP := Lib.hid (And.intro p0 (And.intro p1 p2))
  clear h0 p0 p1 p2
  have hsz := hBb.out.size
  rcases (by omega : v = 0 ∨ v = 1 ∨ v = 2 ∨ v = 3 ∨ v = 4 ∨ v = 5 ∨ v = 6) with rfl | rfl | rfl | rfl | rfl | rfl | rfl
  · have hSd : wb.drew.cell? ⟨g, 0, none⟩ = some (.slice B 4 d) ∧ wb.drew.cell? ⟨g, 1, none⟩ = some (.slice none 0 0) ∧ wb.drew.cell? ⟨g, 2, none⟩ = some (.slice none 0 0) ∧ wb.drew.cell? ⟨g + 1 + 1 + 1 + 1 + 1 + 1 + 1 + 1 + 1 + 1 + 1 + 1 + 1 + 1 + 1 + 1, 0, none⟩ = some (.slice (some ⟨g + 1 + 1 + 1 + 1 + 1 + 1 + 1 + 1 + 1 + 1, 0, none⟩) 3 3) := ⟨hP.out.1, hP.out.2.1, hP.out.2.2, row_cell (hlay.out 16 (by omega)) 0 _ rfl⟩
    have hSk : Hid (∀ w', Below wb.drew.heap.size wb.drew w' → (w'.cell? ⟨g, 0, none⟩ = some (.slice B 4 d) ∧ w'.cell? ⟨g, 1, none⟩ = some (.slice none 0 0) ∧ w'.cell? ⟨g, 2, none⟩ = some (.slice none 0 0) ∧ w'.cell? ⟨g + 1 + 1 + 1 + 1 + 1 + 1 + 1 + 1 + 1 + 1 + 1 + 1 + 1 + 1 + 1 + 1, 0, none⟩ = some (.slice (some ⟨g + 1 + 1 + 1 + 1 + 1 + 1 + 1 + 1 + 1 + 1, 0, none⟩) 3 3))) := Lib.hid (fun w' hb => ⟨bl_cell hb hSd.1, bl_cell hb hSd.2.1, bl_cell hb hSd.2.2.1, bl_cell hb hSd.2.2.2⟩)
    have ho := order_any wb.drew B none none (some ⟨g + 1 + 1 + 1 + 1 + 1 + 1 + 1 + 1 + 1, 0, none⟩) (some ⟨g + 1 + 1 + 1 + 1 + 1 + 1 + 1 + 1 + 1 + 1, 0, none⟩) d 0 0 0 0 3 3 vs4 cs3 [4607182418800017408, 4609434218613702656, 4607182418800017408] hRb.out hn9.out ((row_rd (hlay.out 10 (by omega)) (fl [4607182418800017408, 4609434218613702656, 4607182418800017408]) rfl).below (Below.refl _ _).drew) (by rw [vs4_len]; exact hvd) hdm (by rw [vs4_len]; omega) (by rw [cs3_len]; omega) (by omega) (Nat.le_refl 3) (by omega) vs4_size
    rw [vs4_len, cs3_len, show (List.length [4607182418800017408, 4609434218613702656, 4607182418800017408]) = 3 from rfl] at ho
    replace ho := Lib.hid ho
    go_region_held3 (fun w' => w'.cell? ⟨g, 0, none⟩ = some (.slice B 4 d) ∧ w'.cell? ⟨g, 1, none⟩ = some (.slice none 0 0) ∧ w'.cell? ⟨g, 2, none⟩ = some (.slice none 0 0) ∧ w'.cell? ⟨g + 1 + 1 + 1 + 1 + 1 + 1 + 1 + 1 + 1 + 1 + 1 + 1 + 1 + 1 + 1 + 1, 0, none⟩ = some (.slice (some ⟨g + 1 + 1 + 1 + 1 + 1 + 1 + 1 + 1 + 1 + 1, 0, none⟩) 3 3)) (first | with_reducible exact hSd | exact hSk.out _ hb5.out)
      (first | (go_at_call 23; (with_reducible refine ho.out.mono ?_); rintro e w5 ⟨gd, f, rfl, hrow, hperm, hseg, hb5, hgd⟩; have hord := Lib.hid (ord0 hperm hseg); replace hb5 := Lib.hid hb5; replace hrow := Lib.hid hrow; clear hperm hseg))
    clear hSd hSk
    have hcl : Hid (∀ p, p < 4 → w5.cell? ⟨gd, p, none⟩ = some (.int .i64 (f p : Nat)) ∧ w5.cell? ⟨g + 1, p, none⟩ = some (.int .i64 (f p : Nat))) := Lib.hid (fun p hp => ⟨four_cells hrow.out p hp, bl_cell hb5.out (show wb.drew.cell? ⟨g + 1, p, none⟩ = _ by
      obtain ⟨e0, e1, e2, e3⟩ := hord.out
      rcases (by omega : p = 0 ∨ p = 1 ∨ p = 2 ∨ p = 3) with rfl | rfl | rfl | rfl
      · rw [e0]; exact row_cell (hlay.out 1 (by omega)) 0 _ rfl
      · rw [e1]; exact row_cell (hlay.out 1 (by omega)) 1 _ rfl
      · rw [e2]; exact row_cell (hlay.out 1 (by omega)) 2 _ rfl
      · rw [e3]; exact row_cell (hlay.out 1 (by omega)) 3 _ rfl)⟩)
    have hwn : Hid (w5.cell? ⟨g + 1 + 1 + 1 + 1 + 1 + 1 + 1 + 1, 0, none⟩ = some (.slice (some ⟨g + 1, 0, none⟩) 4 4)) := Lib.hid (bl_cell hb5.out (show wb.drew.cell? ⟨g + 1 + 1 + 1 + 1 + 1 + 1 + 1 + 1, 0, none⟩ = _ from row_cell (hlay.out 8 (by omega)) 0 _ rfl))
    go_wp2_with fail
    go_loopw [13] (fun i wr => ∃ k : Nat, i = .int .i64 (k : Nat) ∧ k ≤ 4 ∧ Below w5.heap.size w5 wr) (fun i _ => 4 - (intOf i).toNat)
    case atStart => exact ⟨0, rfl, Nat.zero_le _, Below.refl _ _⟩
    case round =>
      obtain ⟨k, rfl, hk, hb⟩ := hrel
      by_cases hlt : k < 4
      · have hd : decide ((k : Int) < 4) = true := by simp; omega
        have k1 : (0 : Int) ≤ (k : Int) := by omega
        have k2 : (k : Int) < 4 := by omega
        have c0 := bl_cell hb (hcl.out k hlt).1
        have c1 := bl_cell hb (hcl.out k hlt).2
        have c2 := bl_cell hb hwn.out
        replace hb := Lib.hid hb
        go_wp2_with fail
        go_quiet (fail)
        go_wp2_with fail
        exact ⟨⟨k + 1, by go_num, by omega, bl_drewN hb.out _⟩, by simp [intOf]; omega⟩
      · have hd : decide ((k : Int) < 4) = false := by simp; omega
        go_wp2_with fail
        go_ret
        exact ⟨rfl, bl_then (bl_then hBb.out hsz hb5.out) (by have := hb5.out.size; omega) hb⟩
  · have hSd : wb.drew.cell? ⟨g, 0, none⟩ = some (.slice B 4 d) ∧ wb.drew.cell? ⟨g, 1, none⟩ = some (.slice none 0 0) ∧ wb.drew.cell? ⟨g, 2, none⟩ = some (.slice none 0 0) ∧ wb.drew.cell? ⟨g + 1 + 1 + 1 + 1 + 1 + 1 + 1 + 1 + 1 + 1 + 1 + 1 + 1 + 1 + 1 + 1, 1, none⟩ = some (.slice (some ⟨g + 1 + 1 + 1 + 1 + 1 + 1 + 1 + 1 + 1 + 1 + 1, 0, none⟩) 3 3) := ⟨hP.out.1, hP.out.2.1, hP.out.2.2, row_cell (hlay.out 16 (by omega)) 1 _ rfl⟩
    have hSk : Hid (∀ w', Below wb.drew.heap.size wb.drew w' → (w'.cell? ⟨g, 0, none⟩ = some (.slice B 4 d) ∧ w'.cell? ⟨g, 1, none⟩ = some (.slice none 0 0) ∧ w'.cell? ⟨g, 2, none⟩ = some (.slice none 0 0) ∧ w'.cell? ⟨g + 1 + 1 + 1 + 1 + 1 + 1 + 1 + 1 + 1 + 1 + 1 + 1 + 1 + 1 + 1 + 1, 1, none⟩ = some (.slice (some ⟨g + 1 + 1 + 1 + 1 + 1 + 1 + 1 + 1 + 1 + 1 + 1, 0, none⟩) 3 3))) := Lib.hid (fun w' hb => ⟨bl_cell hb hSd.1, bl_cell hb hSd.2.1, bl_cell hb hSd.2.2.1, bl_cell hb hSd.2.2.2⟩)
    have ho := order_any wb.drew B none none (some ⟨g + 1 + 1 + 1 + 1 + 1 + 1 + 1 + 1 + 1, 0, none⟩) (some ⟨g + 1 + 1 + 1 + 1 + 1 + 1 + 1 + 1 + 1 + 1 + 1, 0, none⟩) d 0 0 0 0 3 3 vs4 cs3 [4607182418800017408, nv, 4607182418800017408] hRb.out hn9.out ((row_rd (hlay.out 11 (by omega)) (fl [4607182418800017408, nv, 4607182418800017408]) rfl).below (Below.refl _ _).drew) (by rw [vs4_len]; exact hvd) hdm (by rw [vs4_len]; omega) (by rw [cs3_len]; omega) (by omega) (Nat.le_refl 3) (by omega) vs4_size
    rw [vs4_len, cs3_len, show (List.length [4607182418800017408, nv, 4607182418800017408]) = 3 from rfl] at ho
    replace ho := Lib.hid ho
    go_region_held3 (fun w' => w'.cell? ⟨g, 0, none⟩ = some (.slice B 4 d) ∧ w'.cell? ⟨g, 1, none⟩ = some (.slice none 0 0) ∧ w'.cell? ⟨g, 2, none⟩ = some (.slice none 0 0) ∧ w'.cell? ⟨g + 1 + 1 + 1 + 1 + 1 + 1 + 1 + 1 + 1 + 1 + 1 + 1 + 1 + 1 + 1 + 1, 1, none⟩ = some (.slice (some ⟨g + 1 + 1 + 1 + 1 + 1 + 1 + 1 + 1 + 1 + 1 + 1, 0, none⟩) 3 3)) (first | with_reducible exact hSd | exact hSk.out _ hb5.out)
      (first | (go_at_call 23; (with_reducible refine ho.out.mono ?_); rintro e w5 ⟨gd, f, rfl, hrow, hperm, hseg, hb5, hgd⟩; have hord := Lib.hid (ord1 hperm nv hnn.out hseg); replace hb5 := Lib.hid hb5; replace hrow := Lib.hid hrow; clear hperm hseg))
    clear hSd hSk
    have hcl : Hid (∀ p, p < 4 → w5.cell? ⟨gd, p, none⟩ = some (.int .i64 (f p : Nat)) ∧ w5.cell? ⟨g + 1 + 1, p, none⟩ = some (.int .i64 (f p : Nat))) := Lib.hid (fun p hp => ⟨four_cells hrow.out p hp, bl_cell hb5.out (show wb.drew.cell? ⟨g + 1 + 1, p, none⟩ = _ by
      obtain ⟨e0, e1, e2, e3⟩ := hord.out
      rcases (by omega : p = 0 ∨ p = 1 ∨ p = 2 ∨ p = 3) with rfl | rfl | rfl | rfl
      · rw [e0]; exact row_cell (hlay.out 2 (by omega)) 0 _ rfl
      · rw [e1]; exact row_cell (hlay.out 2 (by omega)) 1 _ rfl
      · rw [e2]; exact row_cell (hlay.out 2 (by omega)) 2 _ rfl
      · rw [e3]; exact row_cell (hlay.out 2 (by omega)) 3 _ rfl)⟩)
    have hwn : Hid (w5.cell? ⟨g + 1 + 1 + 1 + 1 + 1 + 1 + 1 + 1, 1, none⟩ = some (.slice (some ⟨g + 1 + 1, 0, none⟩) 4 4)) := Lib.hid (bl_cell hb5.out (show wb.drew.cell? ⟨g + 1 + 1 + 1 + 1 + 1 + 1 + 1 + 1, 1, none⟩ = _ from row_cell (hlay.out 8 (by omega)) 1 _ rfl))
    go_wp2_with fail
    go_loopw [13] (fun i wr => ∃ k : Nat, i = .int .i64 (k : Nat) ∧ k ≤ 4 ∧ Below w5.heap.size w5 wr) (fun i _ => 4 - (intOf i).toNat)
    case atStart => exact ⟨0, rfl, Nat.zero_le _, Below.refl _ _⟩
    case round =>
      obtain ⟨k, rfl, hk, hb⟩ := hrel
      by_cases hlt : k < 4
      · have hd : decide ((k : Int) < 4) = true := by simp; omega
        have k1 : (0 : Int) ≤ (k : Int) := by omega
        have k2 : (k : Int) < 4 := by omega
        have c0 := bl_cell hb (hcl.out k hlt).1
        have c1 := bl_cell hb (hcl.out k hlt).2
        have c2 := bl_cell hb hwn.out
        replace hb := Lib.hid hb
        go_wp2_with fail
        go_quiet (fail)
        go_wp2_with fail
        exact ⟨⟨k + 1, by go_num, by omega, bl_drewN hb.out _⟩, by simp [intOf]; omega⟩
      · have hd : decide ((k : Int) < 4) = false := by simp; omega
        go_wp2_with fail
        go_ret
        exact ⟨rfl, bl_then (bl_then hBb.out hsz hb5.out) (by have := hb5.out.size; omega) hb⟩
  · have hSd : wb.drew.cell? ⟨g, 0, none⟩ = some (.slice B 4 d) ∧ wb.drew.cell? ⟨g, 1, none⟩ = some (.slice none 0 0) ∧ wb.drew.cell? ⟨g, 2, none⟩ = some (.slice none 0 0) ∧ wb.drew.cell? ⟨g + 1 + 1 + 1 + 1 + 1 + 1 + 1 + 1 + 1 + 1 + 1 + 1 + 1 + 1 + 1 + 1, 2, none⟩ = some (.slice (some ⟨g + 1 + 1 + 1 + 1 + 1 + 1 + 1 + 1 + 1 + 1 + 1 + 1, 0, none⟩) 3 3) := ⟨hP.out.1, hP.out.2.1, hP.out.2.2, row_cell (hlay.out 16 (by omega)) 2 _ rfl⟩
    have hSk : Hid (∀ w', Below wb.drew.heap.size wb.drew w' → (w'.cell? ⟨g, 0, none⟩ = some (.slice B 4 d) ∧ w'.cell? ⟨g, 1, none⟩ = some (.slice none 0 0) ∧ w'.cell? ⟨g, 2, none⟩ = some (.slice none 0 0) ∧ w'.cell? ⟨g + 1 + 1 + 1 + 1 + 1 + 1 + 1 + 1 + 1 + 1 + 1 + 1 + 1 + 1 + 1 + 1, 2, none⟩ = some (.slice (some ⟨g + 1 + 1 + 1 + 1 + 1 + 1 + 1 + 1 + 1 + 1 + 1 + 1, 0, none⟩) 3 3))) := Lib.hid (fun w' hb => ⟨bl_cell hb hSd.1, bl_cell hb hSd.2.1, bl_cell hb hSd.2.2.1, bl_cell hb hSd.2.2.2⟩)
    have ho := order_any wb.drew B none none (some ⟨g + 1 + 1 + 1 + 1 + 1 + 1 + 1 + 1 + 1, 0, none⟩) (some ⟨g + 1 + 1 + 1 + 1 + 1 + 1 + 1 + 1 + 1 + 1 + 1 + 1, 0, none⟩) d 0 0 0 0 3 3 vs4 cs3 [4607182418800017408, 0, pinf] hRb.out hn9.out ((row_rd (hlay.out 12 (by omega)) (fl [4607182418800017408, 0, pinf]) rfl).below (Below.refl _ _).drew) (by rw [vs4_len]; exact hvd) hdm (by rw [vs4_len]; omega) (by rw [cs3_len]; omega) (by omega) (Nat.le_refl 3) (by omega) vs4_size
    rw [vs4_len, cs3_len, show (List.length [4607182418800017408, 0, pinf]) = 3 from rfl] at ho
    replace ho := Lib.hid ho
    go_region_held3 (fun w' => w'.cell? ⟨g, 0, none⟩ = some (.slice B 4 d) ∧ w'.cell? ⟨g, 1, none⟩ = some (.slice none 0 0) ∧ w'.cell? ⟨g, 2, none⟩ = some (.slice none 0 0) ∧ w'.cell? ⟨g + 1 + 1 + 1 + 1 + 1 + 1 + 1 + 1 + 1 + 1 + 1 + 1 + 1 + 1 + 1 + 1, 2, none⟩ = some (.slice (some ⟨g + 1 + 1 + 1 + 1 + 1 + 1 + 1 + 1 + 1 + 1 + 1 + 1, 0, none⟩) 3 3)) (first | with_reducible exact hSd | exact hSk.out _ hb5.out)
      (first | (go_at_call 23; (with_reducible refine ho.out.mono ?_); rintro e w5 ⟨gd, f, rfl, hrow, hperm, hseg, hb5, hgd⟩; have hord := Lib.hid (ord2 hperm hseg); replace hb5 := Lib.hid hb5; replace hrow := Lib.hid hrow; clear hperm hseg))
    clear hSd hSk
    have hcl : Hid (∀ p, p < 4 → w5.cell? ⟨gd, p, none⟩ = some (.int .i64 (f p : Nat)) ∧ w5.cell? ⟨g + 1 + 1 + 1, p, none⟩ = some (.int .i64 (f p : Nat))) := Lib.hid (fun p hp => ⟨four_cells hrow.out p hp, bl_cell hb5.out (show wb.drew.cell? ⟨g + 1 + 1 + 1, p, none⟩ = _ by
      obtain ⟨e0, e1, e2, e3⟩ := hord.out
      rcases (by omega : p = 0 ∨ p = 1 ∨ p = 2 ∨ p = 3) with rfl | rfl | rfl | rfl
      · rw [e0]; exact row_cell (hlay.out 3 (by omega)) 0 _ rfl
      · rw [e1]; exact row_cell (hlay.out 3 (by omega)) 1 _ rfl
      · rw [e2]; exact row_cell (hlay.out 3 (by omega)) 2 _ rfl
      · rw [e3]; exact row_cell (hlay.out 3 (by omega)) 3 _ rfl)⟩)
    have hwn : Hid (w5.cell? ⟨g + 1 + 1 + 1 + 1 + 1 + 1 + 1 + 1, 2, none⟩ = some (.slice (some ⟨g + 1 + 1 + 1, 0, none⟩) 4 4)) := Lib.hid (bl_cell hb5.out (show wb.drew.cell? ⟨g + 1 + 1 + 1 + 1 + 1 + 1 + 1 + 1, 2, none⟩ = _ from row_cell (hlay.out 8 (by omega)) 2 _ rfl))
    go_wp2_with fail
    go_loopw [13] (fun i wr => ∃ k : Nat, i = .int .i64 (k : Nat) ∧ k ≤ 4 ∧ Below w5.heap.size w5 wr) (fun i _ => 4 - (intOf i).toNat)
    case atStart => exact ⟨0, rfl, Nat.zero_le _, Below.refl _ _⟩
    case round =>
      obtain ⟨k, rfl, hk, hb⟩ := hrel
      by_cases hlt : k < 4
      · have hd : decide ((k : Int) < 4) = true := by simp; omega
        have k1 : (0 : Int) ≤ (k : Int) := by omega
        have k2 : (k : Int) < 4 := by omega
        have c0 := bl_cell hb (hcl.out k hlt).1
        have c1 := bl_cell hb (hcl.out k hlt).2
        have c2 := bl_cell hb hwn.out
        replace hb := Lib.hid hb
        go_wp2_with fail
        go_quiet (fail)
        go_wp2_with fail
        exact ⟨⟨k + 1, by go_num, by omega, bl_drewN hb.out _⟩, by simp [intOf]; omega⟩
      · have hd : decide ((k : Int) < 4) = false := by simp; omega
        go_wp2_with fail
        go_ret
        exact ⟨rfl, bl_then (bl_then hBb.out hsz hb5.out) (by have := hb5.out.size; omega) hb⟩
  · have hSd : wb.drew.cell? ⟨g, 0, none⟩ = some (.slice B 4 d) ∧ wb.drew.cell? ⟨g, 1, none⟩ = some (.slice none 0 0) ∧ wb.drew.cell? ⟨g, 2, none⟩ = some (.slice none 0 0) ∧ wb.drew.cell? ⟨g + 1 + 1 + 1 + 1 + 1 + 1 + 1 + 1 + 1 + 1 + 1 + 1 + 1 + 1 + 1 + 1, 3, none⟩ = some (.slice (some ⟨g + 1 + 1 + 1 + 1 + 1 + 1 + 1 + 1 + 1 + 1 + 1 + 1 + 1, 0, none⟩) 3 3) := ⟨hP.out.1, hP.out.2.1, hP.out.2.2, row_cell (hlay.out 16 (by omega)) 3 _ rfl⟩
    have hSk : Hid (∀ w', Below wb.drew.heap.size wb.drew w' → (w'.cell? ⟨g, 0, none⟩ = some (.slice B 4 d) ∧ w'.cell? ⟨g, 1, none⟩ = some (.slice none 0 0) ∧ w'.cell? ⟨g, 2, none⟩ = some (.slice none 0 0) ∧ w'.cell? ⟨g + 1 + 1 + 1 + 1 + 1 + 1 + 1 + 1 + 1 + 1 + 1 + 1 + 1 + 1 + 1 + 1, 3, none⟩ = some (.slice (some ⟨g + 1 + 1 + 1 + 1 + 1 + 1 + 1 + 1 + 1 + 1 + 1 + 1 + 1, 0, none⟩) 3 3))) := Lib.hid (fun w' hb => ⟨bl_cell hb hSd.1, bl_cell hb hSd.2.1, bl_cell hb hSd.2.2.1, bl_cell hb hSd.2.2.2⟩)
    have ho := order_any wb.drew B none none (some ⟨g + 1 + 1 + 1 + 1 + 1 + 1 + 1 + 1 + 1, 0, none⟩) (some ⟨g + 1 + 1 + 1 + 1 + 1 + 1 + 1 + 1 + 1 + 1 + 1 + 1 + 1, 0, none⟩) d 0 0 0 0 3 3 vs4 cs3 [0, 0, 0] hRb.out hn9.out ((row_rd (hlay.out 13 (by omega)) (fl [0, 0, 0]) rfl).below (Below.refl _ _).drew) (by rw [vs4_len]; exact hvd) hdm (by rw [vs4_len]; omega) (by rw [cs3_len]; omega) (by omega) (Nat.le_refl 3) (by omega) vs4_size
    rw [vs4_len, cs3_len, show (List.length [0, 0, 0]) = 3 from rfl] at ho
    replace ho := Lib.hid ho
    go_region_held3 (fun w' => w'.cell? ⟨g, 0, none⟩ = some (.slice B 4 d) ∧ w'.cell? ⟨g, 1, none⟩ = some (.slice none 0 0) ∧ w'.cell? ⟨g, 2, none⟩ = some (.slice none 0 0) ∧ w'.cell? ⟨g + 1 + 1 + 1 + 1 + 1 + 1 + 1 + 1 + 1 + 1 + 1 + 1 + 1 + 1 + 1 + 1, 3, none⟩ = some (.slice (some ⟨g + 1 + 1 + 1 + 1 + 1 + 1 + 1 + 1 + 1 + 1 + 1 + 1 + 1, 0, none⟩) 3 3)) (first | with_reducible exact hSd | exact hSk.out _ hb5.out)
      (first | (go_at_call 23; (with_reducible refine ho.out.mono ?_); rintro e w5 ⟨gd, f, rfl, hrow, hperm, hseg, hb5, hgd⟩; have hord := Lib.hid (ord3 hperm hseg); replace hb5 := Lib.hid hb5; replace hrow := Lib.hid hrow; clear hperm hseg))
    clear hSd hSk
    have hcl : Hid (∀ p, p < 4 → w5.cell? ⟨gd, p, none⟩ = some (.int .i64 (f p : Nat)) ∧ w5.cell? ⟨g + 1 + 1 + 1 + 1, p, none⟩ = some (.int .i64 (f p : Nat))) := Lib.hid (fun p hp => ⟨four_cells hrow.out p hp, bl_cell hb5.out (show wb.drew.cell? ⟨g + 1 + 1 + 1 + 1, p, none⟩ = _ by
      obtain ⟨e0, e1, e2, e3⟩ := hord.out
      rcases (by omega : p = 0 ∨ p = 1 ∨ p = 2 ∨ p = 3) with rfl | rfl | rfl | rfl
      · rw [e0]; exact row_cell (hlay.out 4 (by omega)) 0 _ rfl
      · rw [e1]; exact row_cell (hlay.out 4 (by omega)) 1 _ rfl
      · rw [e2]; exact row_cell (hlay.out 4 (by omega)) 2 _ rfl
      · rw [e3]; exact row_cell (hlay.out 4 (by omega)) 3 _ rfl)⟩)
    have hwn : Hid (w5.cell? ⟨g + 1 + 1 + 1 + 1 + 1 + 1 + 1 + 1, 3, none⟩ = some (.slice (some ⟨g + 1 + 1 + 1 + 1, 0, none⟩) 4 4)) := Lib.hid (bl_cell hb5.out (show wb.drew.cell? ⟨g + 1 + 1 + 1 + 1 + 1 + 1 + 1 + 1, 3, none⟩ = _ from row_cell (hlay.out 8 (by omega)) 3 _ rfl))
    go_wp2_with fail
    go_loopw [13] (fun i wr => ∃ k : Nat, i = .int .i64 (k : Nat) ∧ k ≤ 4 ∧ Below w5.heap.size w5 wr) (fun i _ => 4 - (intOf i).toNat)
    case atStart => exact ⟨0, rfl, Nat.zero_le _, Below.refl _ _⟩
    case round =>
      obtain ⟨k, rfl, hk, hb⟩ := hrel
      by_cases hlt : k < 4
      · have hd : decide ((k : Int) < 4) = true := by simp; omega
        have k1 : (0 : Int) ≤ (k : Int) := by omega
        have k2 : (k : Int) < 4 := by omega
        have c0 := bl_cell hb (hcl.out k hlt).1
        have c1 := bl_cell hb (hcl.out k hlt).2
        have c2 := bl_cell hb hwn.out
        replace hb := Lib.hid hb
        go_wp2_with fail
        go_quiet (fail)
        go_wp2_with fail
        exact ⟨⟨k + 1, by go_num, by omega, bl_drewN hb.out _⟩, by simp [intOf]; omega⟩
      · have hd : decide ((k : Int) < 4) = false := by simp; omega
        go_wp2_with fail
        go_ret
        exact ⟨rfl, bl_then (bl_then hBb.out hsz hb5.out) (by have := hb5.out.size; omega) hb⟩
  · have hSd : wb.drew.cell? ⟨g, 0, none⟩ = some (.slice B 4 d) ∧ wb.drew.cell? ⟨g, 1, none⟩ = some (.slice none 0 0) ∧ wb.drew.cell? ⟨g, 2, none⟩ = some (.slice none 0 0) ∧ wb.drew.cell? ⟨g + 1 + 1 + 1 + 1 + 1 + 1 + 1 + 1 + 1 + 1 + 1 + 1 + 1 + 1 + 1 + 1, 4, none⟩ = some (.slice (some ⟨g + 1 + 1 + 1 + 1 + 1 + 1 + 1 + 1 + 1 + 1 + 1 + 1 + 1 + 1, 0, none⟩) 3 3) := ⟨hP.out.1, hP.out.2.1, hP.out.2.2, row_cell (hlay.out 16 (by omega)) 4 _ rfl⟩
    have hSk : Hid (∀ w', Below wb.drew.heap.size wb.drew w' → (w'.cell? ⟨g, 0, none⟩ = some (.slice B 4 d) ∧ w'.cell? ⟨g, 1, none⟩ = some (.slice none 0 0) ∧ w'.cell? ⟨g, 2, none⟩ = some (.slice none 0 0) ∧ w'.cell? ⟨g + 1 + 1 + 1 + 1 + 1 + 1 + 1 + 1 + 1 + 1 + 1 + 1 + 1 + 1 + 1 + 1, 4, none⟩ = some (.slice (some ⟨g + 1 + 1 + 1 + 1 + 1 + 1 + 1 + 1 + 1 + 1 + 1 + 1 + 1 + 1, 0, none⟩) 3 3))) := Lib.hid (fun w' hb => ⟨bl_cell hb hSd.1, bl_cell hb hSd.2.1, bl_cell hb hSd.2.2.1, bl_cell hb hSd.2.2.2⟩)
    have ho := order_any wb.drew B none none (some ⟨g + 1 + 1 + 1 + 1 + 1 + 1 + 1 + 1 + 1, 0, none⟩) (some ⟨g + 1 + 1 + 1 + 1 + 1 + 1 + 1 + 1 + 1 + 1 + 1 + 1 + 1 + 1, 0, none⟩) d 0 0 0 0 3 3 vs4 cs3 [9223372036854775808, 0, 0] hRb.out hn9.out ((row_rd (hlay.out 14 (by omega)) (fl [9223372036854775808, 0, 0]) rfl).below (Below.refl _ _).drew) (by rw [vs4_len]; exact hvd) hdm (by rw [vs4_len]; omega) (by rw [cs3_len]; omega) (by omega) (Nat.le_refl 3) (by omega) vs4_size
    rw [vs4_len, cs3_len, show (List.length [9223372036854775808, 0, 0]) = 3 from rfl] at ho
    replace ho := Lib.hid ho
    go_region_held3 (fun w' => w'.cell? ⟨g, 0, none⟩ = some (.slice B 4 d) ∧ w'.cell? ⟨g, 1, none⟩ = some (.slice none 0 0) ∧ w'.cell? ⟨g, 2, none⟩ = some (.slice none 0 0) ∧ w'.cell? ⟨g + 1 + 1 + 1 + 1 + 1 + 1 + 1 + 1 + 1 + 1 + 1 + 1 + 1 + 1 + 1 + 1, 4, none⟩ = some (.slice (some ⟨g + 1 + 1 + 1 + 1 + 1 + 1 + 1 + 1 + 1 + 1 + 1 + 1 + 1 + 1, 0, none⟩) 3 3)) (first | with_reducible exact hSd | exact hSk.out _ hb5.out)
      (first | (go_at_call 23; (with_reducible refine ho.out.mono ?_); rintro e w5 ⟨gd, f, rfl, hrow, hperm, hseg, hb5, hgd⟩; have hord := Lib.hid (ord4 hperm hseg); replace hb5 := Lib.hid hb5; replace hrow := Lib.hid hrow; clear hperm hseg))
    clear hSd hSk
    have hcl : Hid (∀ p, p < 4 → w5.cell? ⟨gd, p, none⟩ = some (.int .i64 (f p : Nat)) ∧ w5.cell? ⟨g + 1 + 1 + 1 + 1 + 1, p, none⟩ = some (.int .i64 (f p : Nat))) := Lib.hid (fun p hp => ⟨four_cells hrow.out p hp, bl_cell hb5.out (show wb.drew.cell? ⟨g + 1 + 1 + 1 + 1 + 1, p, none⟩ = _ by
      obtain ⟨e0, e1, e2, e3⟩ := hord.out
      rcases (by omega : p = 0 ∨ p = 1 ∨ p = 2 ∨ p = 3) with rfl | rfl | rfl | rfl
      · rw [e0]; exact row_cell (hlay.out 5 (by omega)) 0 _ rfl
      · rw [e1]; exact row_cell (hlay.out 5 (by omega)) 1 _ rfl
      · rw [e2]; exact row_cell (hlay.out 5 (by omega)) 2 _ rfl
      · rw [e3]; exact row_cell (hlay.out 5 (by omega)) 3 _ rfl)⟩)
    have hwn : Hid (w5.cell? ⟨g + 1 + 1 + 1 + 1 + 1 + 1 + 1 + 1, 4, none⟩ = some (.slice (some ⟨g + 1 + 1 + 1 + 1 + 1, 0, none⟩) 4 4)) := Lib.hid (bl_cell hb5.out (show wb.drew.cell? ⟨g + 1 + 1 + 1 + 1 + 1 + 1 + 1 + 1, 4, none⟩ = _ from row_cell (hlay.out 8 (by omega)) 4 _ rfl))
    go_wp2_with fail
    go_loopw [13] (fun i wr => ∃ k : Nat, i = .int .i64 (k : Nat) ∧ k ≤ 4 ∧ Below w5.heap.size w5 wr) (fun i _ => 4 - (intOf i).toNat)
    case atStart => exact ⟨0, rfl, Nat.zero_le _, Below.refl _ _⟩
    case round =>
      obtain ⟨k, rfl, hk, hb⟩ := hrel
      by_cases hlt : k < 4
      · have hd : decide ((k : Int) < 4) = true := by simp; omega
        have k1 : (0 : Int) ≤ (k : Int) := by omega
        have k2 : (k : Int) < 4 := by omega
        have c0 := bl_cell hb (hcl.out k hlt).1
        have c1 := bl_cell hb (hcl.out k hlt).2
        have c2 := bl_cell hb hwn.out
        replace hb := Lib.hid hb
        go_wp2_with fail
        go_quiet (fail)
        go_wp2_with fail
        exact ⟨⟨k + 1, by go_num, by omega, bl_drewN hb.out _⟩, by simp [intOf]; omega⟩
      · have hd : decide ((k : Int) < 4) = false := by simp; omega
        go_wp2_with fail
        go_ret
        exact ⟨rfl, bl_then (bl_then hBb.out hsz hb5.out) (by have := hb5.out.size; omega) hb⟩
  · have hSd : wb.drew.cell? ⟨g, 0, none⟩ = some (.slice B 4 d) ∧ wb.drew.cell? ⟨g, 1, none⟩ = some (.slice none 0 0) ∧ wb.drew.cell? ⟨g, 2, none⟩ = some (.slice none 0 0) ∧ wb.drew.cell? ⟨g + 1 + 1 + 1 + 1 + 1 + 1 + 1 + 1 + 1 + 1 + 1 + 1 + 1 + 1 + 1 + 1, 5, none⟩ = some (.slice (some ⟨g + 1 + 1 + 1 + 1 + 1 + 1 + 1 + 1 + 1 + 1 + 1 + 1 + 1 + 1 + 1, 0, none⟩) 3 3) := ⟨hP.out.1, hP.out.2.1, hP.out.2.2, row_cell (hlay.out 16 (by omega)) 5 _ rfl⟩
    have hSk : Hid (∀ w', Below wb.drew.heap.size wb.drew w' → (w'.cell? ⟨g, 0, none⟩ = some (.slice B 4 d) ∧ w'.cell? ⟨g, 1, none⟩ = some (.slice none 0 0) ∧ w'.cell? ⟨g, 2, none⟩ = some (.slice none 0 0) ∧ w'.cell? ⟨g + 1 + 1 + 1 + 1 + 1 + 1 + 1 + 1 + 1 + 1 + 1 + 1 + 1 + 1 + 1 + 1, 5, none⟩ = some (.slice (some ⟨g + 1 + 1 + 1 + 1 + 1 + 1 + 1 + 1 + 1 + 1 + 1 + 1 + 1 + 1 + 1, 0, none⟩) 3 3))) := Lib.hid (fun w' hb => ⟨bl_cell hb hSd.1, bl_cell hb hSd.2.1, bl_cell hb hSd.2.2.1, bl_cell hb hSd.2.2.2⟩)
    have ho := order_any wb.drew B none none (some ⟨g + 1 + 1 + 1 + 1 + 1 + 1 + 1 + 1 + 1, 0, none⟩) (some ⟨g + 1 + 1 + 1 + 1 + 1 + 1 + 1 + 1 + 1 + 1 + 1 + 1 + 1 + 1 + 1, 0, none⟩) d 0 0 0 0 3 3 vs4 cs3 [ninf, 4617315517961601024, ninf] hRb.out hn9.out ((row_rd (hlay.out 15 (by omega)) (fl [ninf, 4617315517961601024, ninf]) rfl).below (Below.refl _ _).drew) (by rw [vs4_len]; exact hvd) hdm (by rw [vs4_len]; omega) (by rw [cs3_len]; omega) (by omega) (Nat.le_refl 3) (by omega) vs4_size
    rw [vs4_len, cs3_len, show (List.length [ninf, 4617315517961601024, ninf]) = 3 from rfl] at ho
    replace ho := Lib.hid ho
    go_region_held3 (fun w' => w'.cell? ⟨g, 0, none⟩ = some (.slice B 4 d) ∧ w'.cell? ⟨g, 1, none⟩ = some (.slice none 0 0) ∧ w'.cell? ⟨g, 2, none⟩ = some (.slice none 0 0) ∧ w'.cell? ⟨g + 1 + 1 + 1 + 1 + 1 + 1 + 1 + 1 + 1 + 1 + 1 + 1 + 1 + 1 + 1 + 1, 5, none⟩ = some (.slice (some ⟨g + 1 + 1 + 1 + 1 + 1 + 1 + 1 + 1 + 1 + 1 + 1 + 1 + 1 + 1 + 1, 0, none⟩) 3 3)) (first | with_reducible exact hSd | exact hSk.out _ hb5.out)
      (first | (go_at_call 23; (with_reducible refine ho.out.mono ?_); rintro e w5 ⟨gd, f, rfl, hrow, hperm, hseg, hb5, hgd⟩; have hord := Lib.hid (ord5 hperm hseg); replace hb5 := Lib.hid hb5; replace hrow := Lib.hid hrow; clear hperm hseg))
    clear hSd hSk
    have c0 := four_cells hrow.out 0 (by omega)
    have c1 := four_cells hrow.out 1 (by omega)
    have c2 := four_cells hrow.out 2 (by omega)
    have c3 := four_cells hrow.out 3 (by omega)
    rw [hord.out.1] at c0
    rw [hord.out.2.1] at c1
    rw [hord.out.2.2.1] at c2
    rw [hord.out.2.2.2] at c3
    go_wp2_with fail
    go_ret
    exact ⟨rfl, bl_then hBb.out hsz hb5.out⟩
  · have hSd : wb.drew.cell? ⟨g, 0, none⟩ = some (.slice B 4 d) ∧ wb.drew.cell? ⟨g, 1, none⟩ = some (.slice none 0 0) ∧ wb.drew.cell? ⟨g, 2, none⟩ = some (.slice none 0 0) ∧ wb.drew.cell? ⟨g + 1 + 1 + 1 + 1 + 1 + 1 + 1 + 1 + 1 + 1 + 1 + 1 + 1 + 1 + 1 + 1, 6, none⟩ = some (.slice none 0 0) := ⟨hP.out.1, hP.out.2.1, hP.out.2.2, row_cell (hlay.out 16 (by omega)) 6 _ rfl⟩
    have hSk : Hid (∀ w', Below wb.drew.heap.size wb.drew w' → (w'.cell? ⟨g, 0, none⟩ = some (.slice B 4 d) ∧ w'.cell? ⟨g, 1, none⟩ = some (.slice none 0 0) ∧ w'.cell? ⟨g, 2, none⟩ = some (.slice none 0 0) ∧ w'.cell? ⟨g + 1 + 1 + 1 + 1 + 1 + 1 + 1 + 1 + 1 + 1 + 1 + 1 + 1 + 1 + 1 + 1, 6, none⟩ = some (.slice none 0 0))) := Lib.hid (fun w' hb => ⟨bl_cell hb hSd.1, bl_cell hb hSd.2.1, bl_cell hb hSd.2.2.1, bl_cell hb hSd.2.2.2⟩)
    have ho := order_any wb.drew B none none (some ⟨g + 1 + 1 + 1 + 1 + 1 + 1 + 1 + 1 + 1, 0, none⟩) none d 0 0 0 0 3 0 vs4 cs3 [] hRb.out hn9.out (Rd.nil _ _) (by rw [vs4_len]; exact hvd) hdm (by rw [vs4_len]; omega) (by rw [cs3_len]; omega) (by omega) (Nat.le_refl 0) (by omega) vs4_size
    rw [vs4_len, cs3_len, show (List.length ([] : List Nat)) = 0 from rfl] at ho
    replace ho := Lib.hid ho
    go_region_held3 (fun w' => w'.cell? ⟨g, 0, none⟩ = some (.slice B 4 d) ∧ w'.cell? ⟨g, 1, none⟩ = some (.slice none 0 0) ∧ w'.cell? ⟨g, 2, none⟩ = some (.slice none 0 0) ∧ w'.cell? ⟨g + 1 + 1 + 1 + 1 + 1 + 1 + 1 + 1 + 1 + 1 + 1 + 1 + 1 + 1 + 1 + 1, 6, none⟩ = some (.slice none 0 0)) (first | with_reducible exact hSd | exact hSk.out _ hb5.out)
      (first | (go_at_call 23; (with_reducible refine ho.out.mono ?_); rintro e w5 ⟨gd, f, rfl, hrow, hperm, hseg, hb5, hgd⟩; have hord := Lib.hid (ord6 hperm hseg); replace hb5 := Lib.hid hb5; replace hrow := Lib.hid hrow; clear hperm hseg))
    clear hSd hSk
    have hcl : Hid (∀ p, p < 4 → w5.cell? ⟨gd, p, none⟩ = some (.int .i64 (f p : Nat)) ∧ w5.cell? ⟨g + 1 + 1 + 1 + 1 + 1 + 1 + 1, p, none⟩ = some (.int .i64 (f p : Nat))) := Lib.hid (fun p hp => ⟨four_cells hrow.out p hp, bl_cell hb5.out (show wb.drew.cell? ⟨g + 1 + 1 + 1 + 1 + 1 + 1 + 1, p, none⟩ = _ by
      obtain ⟨e0, e1, e2, e3⟩ := hord.out
      rcases (by omega : p = 0 ∨ p = 1 ∨ p = 2 ∨ p = 3) with rfl | rfl | rfl | rfl
      · rw [e0]; exact row_cell (hlay.out 7 (by omega)) 0 _ rfl
      · rw [e1]; exact row_cell (hlay.out 7 (by omega)) 1 _ rfl
      · rw [e2]; exact row_cell (hlay.out 7 (by omega)) 2 _ rfl
      · rw [e3]; exact row_cell (hlay.out 7 (by omega)) 3 _ rfl)⟩)
    have hwn : Hid (w5.cell? ⟨g + 1 + 1 + 1 + 1 + 1 + 1 + 1 + 1, 6, none⟩ = some (.slice (some ⟨g + 1 + 1 + 1 + 1 + 1 + 1 + 1, 0, none⟩) 4 4)) := Lib.hid (bl_cell hb5.out (show wb.drew.cell? ⟨g + 1 + 1 + 1 + 1 + 1 + 1 + 1 + 1, 6, none⟩ = _ from row_cell (hlay.out 8 (by omega)) 6 _ rfl))
    go_wp2_with fail
    go_loopw [13] (fun i wr => ∃ k : Nat, i = .int .i64 (k : Nat) ∧ k ≤ 4 ∧ Below w5.heap.size w5 wr) (fun i _ => 4 - (intOf i).toNat)
    case atStart => exact ⟨0, rfl, Nat.zero_le _, Below.refl _ _⟩
    case round =>
      obtain ⟨k, rfl, hk, hb⟩ := hrel
      by_cases hlt : k < 4
      · have hd : decide ((k : Int) < 4) = true := by simp; omega
        have k1 : (0 : Int) ≤ (k : Int) := by omega
        have k2 : (k : Int) < 4 := by omega
        have c0 := bl_cell hb (hcl.out k hlt).1
        have c1 := bl_cell hb (hcl.out k hlt).2
        have c2 := bl_cell hb hwn.out
        replace hb := Lib.hid hb
        go_wp2_with fail
        go_quiet (fail)
        go_wp2_with fail
        exact ⟨⟨k + 1, by go_num, by omega, bl_drewN hb.out _⟩, by simp [intOf]; omega⟩
      · have hd : decide ((k : Int) < 4) = false := by simp; omega
        go_wp2_with fail
        go_ret
        exact ⟨rfl, bl_then (bl_then hBb.out hsz hb5.out) (by have := hb5.out.size; omega) hb⟩
end Go.Proofs.Ytdhklfbelplbcaa
