/-
  f39 with: a race more.
-/
import Derived.Test.YtdhklfbelplbcaaZ10
import Derived.Test.YtdhklfbelplbcaaZ11
namespace Go.Proofs.Ytdhklfbelplbcaa
set_option linter.unusedVariables false
set_option linter.unusedSimpArgs false
open Go.RowKit
def WrPost (w : World) (v0 : Value) (n : Nat) (e : Ending) (w' : World) : Prop := ∃ v' n', e = .returned v' ∧ n ≤ n' ∧ n' ≤ n + 1 ∧ SlRc w' v' n' ∧ Fr w.heap.size v0 v' ∧ Below w.heap.size w w'
theorem RcOk.one_cells {xs : List Value} {n : Nat} (h : RcOk xs n) (hl : xs.length = n * 5) : ∀ u ∈ xs, u.oneCell' = true := by
  intro u hu
  obtain ⟨j, hj, rfl⟩ := List.getElem_of_mem hu
  have hd := Nat.div_add_mod j 5
  have hm := Nat.mod_lt j (by omega : 0 < 5)
  obtain ⟨v, f1, f2, n1, n2, h0, h1, h2, h3, h4, -⟩ := h (j / 5) (by omega)
  obtain ⟨q, hq⟩ : ∃ q, q = j / 5 := ⟨_, rfl⟩
  rw [← hq] at h0 h1 h2 h3 h4
  rcases (by omega : j = q * 5 ∨ j = q * 5 + 1 ∨ j = q * 5 + 2 ∨ j = q * 5 + 3 ∨ j = q * 5 + 4) with e | e | e | e | e <;> subst e
  · rw [List.getElem?_eq_getElem hj] at h0; rw [Option.some.inj h0]; rfl
  · rw [List.getElem?_eq_getElem hj] at h1; rw [Option.some.inj h1]; rfl
  · rw [List.getElem?_eq_getElem hj] at h2; rw [Option.some.inj h2]; rfl
  · rw [List.getElem?_eq_getElem hj] at h3; rw [Option.some.inj h3]; rfl
  · rw [List.getElem?_eq_getElem hj] at h4; rw [Option.some.inj h4]; rfl
set_option maxHeartbeats 64000000 in
set_option maxRecDepth 100000 in
theorem withr_any (v0 : Value) (n : Nat) (v f1 f2 : ByteArray) (n1 n2 : Int) (w : World) (hv : v.size ≤ 4) (hs : SlRc w v0 n) (hn : n ≤ 100000000) :
    Calls Try.prog 39 #[v0, .agg #[.string v, .string f1, .int .i64 n1, .string f2, .int .i64 n2]] w (WrPost w v0 n) := by
  have hs' := Lib.hid hs
  obtain ⟨A, c, xs, rfl, hnc, hcm, hA, hr, hx, hrc, hpl⟩ := hs
  replace hr := Lib.hid hr
  replace hx := Lib.hid hx
  replace hrc := Lib.hid hrc
  replace hpl := Lib.hid hpl
  replace hA := Lib.hid hA
  have hcel : Hid (∀ k, k < n → ∃ g kv k1 k2 m1 m2, A = some ⟨g, 0, none⟩ ∧ ∀ w', Below w.heap.size w w' → (w'.cell? ⟨g, k * 5, none⟩ = some (.string kv) ∧ w'.cell? ⟨g, k * 5 + 1, none⟩ = some (.string k1) ∧ w'.cell? ⟨g, k * 5 + 2, none⟩ = some (.int .i64 m1) ∧ w'.cell? ⟨g, k * 5 + 3, none⟩ = some (.string k2) ∧ w'.cell? ⟨g, k * 5 + 4, none⟩ = some (.int .i64 m2))) := Lib.hid (fun k hk => by
    obtain ⟨kv, k1, k2, m1, m2, h0, h1, h2, h3, h4, -⟩ := hrc.out k hk
    obtain ⟨ad, e1, -⟩ := hr.out (k * 5) (by rw [hx.out]; omega)
    have e2 := hpl.out ad e1
    have hr' := hr.out
    rw [e1, e2] at hr'
    have hat : ∀ o u, xs[k * 5 + o]? = some u → w.cell? ⟨ad.block, k * 5 + o, none⟩ = some u := fun o u h => by
      have := hr'.cells _ u h
      rwa [add_plain] at this
    exact ⟨ad.block, kv, k1, k2, m1, m2, by rw [e1, ← e2], fun w' hb => ⟨bl_cell hb (hat 0 _ h0), bl_cell hb (hat 1 _ h1), bl_cell hb (hat 2 _ h2), bl_cell hb (hat 3 _ h3), bl_cell hb (hat 4 _ h4)⟩⟩)
  have hrow0 : Hid ((w.alloc (.cells #[.string v, .string f1, .int .i64 n1, .string f2, .int .i64 n2] 86)).heap[w.heap.size]? = some (.cells #[.string v, .string f1, .int .i64 n1, .string f2, .int .i64 n2] 86 (0, 0))) := Lib.hid (heap_alloc_new w _)
  have hrr : Hid (∀ w' : World, w'.heap[w.heap.size]? = some (.cells #[.string v, .string f1, .int .i64 n1, .string f2, .int .i64 n2] 86 (0, 0)) → (w'.cell? ⟨w.heap.size, 0, none⟩ = some (.string v) ∧ w'.cell? ⟨w.heap.size, 1, none⟩ = some (.string f1) ∧ w'.cell? ⟨w.heap.size, 2, none⟩ = some (.int .i64 n1) ∧ w'.cell? ⟨w.heap.size, 3, none⟩ = some (.string f2) ∧ w'.cell? ⟨w.heap.size, 4, none⟩ = some (.int .i64 n2))) := Lib.hid (fun w' h => by
    refine ⟨?_, ?_, ?_, ?_, ?_⟩ <;> (rw [cell_of_row _ _ _ _ 86 (0, 0) h]; rfl))
  go_enter Try.func39, Try.ntmps39
  go_upto_block 0 with fail
  go_cut [5] (fun v5 wx => ∃ k : Nat, k ≤ n ∧ v5 = .int .i64 (k : Nat) ∧ Hid (Below w.heap.size w wx) ∧ Hid (wx.heap[w.heap.size]? = some (.cells #[.string v, .string f1, .int .i64 n1, .string f2, .int .i64 n2] 86 (0, 0))))
  case first =>
    go_wp2_with fail
    go_loopw [5] (fun v5 wr => ∃ k : Nat, k ≤ n ∧ v5 = .int .i64 (k : Nat) ∧ Hid (Below w.heap.size w wr) ∧ Hid (wr.heap[w.heap.size]? = some (.cells #[.string v, .string f1, .int .i64 n1, .string f2, .int .i64 n2] 86 (0, 0)))) (fun v _ => n - (intOf v).toNat)
    case atStart => exact ⟨0, Nat.zero_le _, rfl, Lib.hid (bl_alloc (Below.refl _ _) _), hrow0⟩
    case round =>
      obtain ⟨k, hk, rfl, hB, hR⟩ := hrel
      by_cases hkn : k < n
      · have d1 : decide ((k : Int) < (n : Int)) = true := by simp; omega
        have k1' : (0 : Int) ≤ (k : Int) := by omega
        have k2' : (k : Int) < (n : Int) := by omega
        obtain ⟨g, kv, k1, k2, m1, m2, rfl, hkc⟩ := hcel.out k hkn
        have hSk : Hid (∀ w', Below wr.heap.size wr w' → (w'.cell? ⟨w.heap.size, 0, none⟩ = some (.string v) ∧ w'.cell? ⟨w.heap.size, 1, none⟩ = some (.string f1) ∧ w'.cell? ⟨w.heap.size, 2, none⟩ = some (.int .i64 n1) ∧ w'.cell? ⟨w.heap.size, 3, none⟩ = some (.string f2) ∧ w'.cell? ⟨w.heap.size, 4, none⟩ = some (.int .i64 n2) ∧ w'.cell? ⟨g, k * 5, none⟩ = some (.string kv) ∧ w'.cell? ⟨g, k * 5 + 1, none⟩ = some (.string k1) ∧ w'.cell? ⟨g, k * 5 + 2, none⟩ = some (.int .i64 m1) ∧ w'.cell? ⟨g, k * 5 + 3, none⟩ = some (.string k2) ∧ w'.cell? ⟨g, k * 5 + 4, none⟩ = some (.int .i64 m2))) := Lib.hid (fun w' hb => by
          obtain ⟨a0, a1, a2, a3, a4⟩ := hrr.out w' (bl_row hb hR.out)
          exact ⟨a0, a1, a2, a3, a4, hkc w' (bl_then hB.out hB.out.size hb)⟩)
        replace hkc := Lib.hid hkc
        have hSd : wr.drew.cell? ⟨w.heap.size, 0, none⟩ = some (.string v) ∧ wr.drew.cell? ⟨w.heap.size, 1, none⟩ = some (.string f1) ∧ wr.drew.cell? ⟨w.heap.size, 2, none⟩ = some (.int .i64 n1) ∧ wr.drew.cell? ⟨w.heap.size, 3, none⟩ = some (.string f2) ∧ wr.drew.cell? ⟨w.heap.size, 4, none⟩ = some (.int .i64 n2) ∧ wr.drew.cell? ⟨g, k * 5, none⟩ = some (.string kv) ∧ wr.drew.cell? ⟨g, k * 5 + 1, none⟩ = some (.string k1) ∧ wr.drew.cell? ⟨g, k * 5 + 2, none⟩ = some (.int .i64 m1) ∧ wr.drew.cell? ⟨g, k * 5 + 3, none⟩ = some (.string k2) ∧ wr.drew.cell? ⟨g, k * 5 + 4, none⟩ = some (.int .i64 m2) := by
          obtain ⟨a0, a1, a2, a3, a4, a5⟩ := hSk.out _ (Below.refl wr.heap.size wr).drew
          exact ⟨a0, a1, a2, a3, a4, a5⟩
        go_upto_region 2 with fail
        refine wp_region_heldR (S := fun w' => w'.cell? ⟨w.heap.size, 0, none⟩ = some (.string v) ∧ w'.cell? ⟨w.heap.size, 1, none⟩ = some (.string f1) ∧ w'.cell? ⟨w.heap.size, 2, none⟩ = some (.int .i64 n1) ∧ w'.cell? ⟨w.heap.size, 3, none⟩ = some (.string f2) ∧ w'.cell? ⟨w.heap.size, 4, none⟩ = some (.int .i64 n2) ∧ w'.cell? ⟨g, k * 5, none⟩ = some (.string kv) ∧ w'.cell? ⟨g, k * 5 + 1, none⟩ = some (.string k1) ∧ w'.cell? ⟨g, k * 5 + 2, none⟩ = some (.int .i64 m1) ∧ w'.cell? ⟨g, k * 5 + 3, none⟩ = some (.string k2) ∧ w'.cell? ⟨g, k * 5 + 4, none⟩ = some (.int .i64 m2)) opsX2 _ (by kernel_rfl) liX2 (by kernel_rfl) nsX2 (hSd) (fun hops hns hHeld => ?_)
        refine wpAnyH_takeR (i := 0) (v := ?vX2a_1) hops hns rdX2_0 (by rfl) frX2_0 rfl (fun _ _ _ h => h) stX2_0 (Or.inl ⟨by kernel_rfl, ?hyX2a_1⟩) (by assumption) ?restX2a_1
        case hyX2a_1 => (intro w hSw; (try dsimp only at hSw); go_split_ands; go_simp; (try with_reducible rfl))
        try simp only [Act.put, sA, sB, sC]
        refine wpAnyH_oneR (i := 1) (v := ?vX2a_2) hops rdX2_1 rfl stX2_1 (Or.inl ⟨by kernel_rfl, ?hyX2a_2⟩) (by assumption) ?restX2a_2
        case hyX2a_2 => (intro w hSw; (try dsimp only at hSw); go_split_ands; go_simp; (try with_reducible rfl))
        try simp only [Act.put, sA, sB, sC]
        refine wpAnyH_oneR (i := 2) (v := ?vX2a_3) hops rdX2_2 rfl stX2_2 (Or.inl ⟨by kernel_rfl, ?hyX2a_3⟩) (by assumption) ?restX2a_3
        case hyX2a_3 => (intro w hSw; (try dsimp only at hSw); go_split_ands; go_simp; (try with_reducible rfl))
        try simp only [Act.put, sA, sB, sC]
        refine wpAnyH_oneR (i := 3) (v := ?vX2a_4) hops rdX2_3 rfl stX2_3 (Or.inl ⟨by kernel_rfl, ?hyX2a_4⟩) (by assumption) ?restX2a_4
        case hyX2a_4 => (intro w hSw; (try dsimp only at hSw); go_split_ands; go_simp; (try with_reducible rfl))
        try simp only [Act.put, sA, sB, sC]
        refine wpAnyH_oneR (i := 4) (v := ?vX2a_5) hops rdX2_4 rfl stX2_4 (Or.inl ⟨by kernel_rfl, ?hyX2a_5⟩) (by assumption) ?restX2a_5
        case hyX2a_5 => (intro w hSw; (try dsimp only at hSw); go_split_ands; go_simp; (try with_reducible rfl))
        try simp only [Act.put, sA, sB, sC]
        refine wpAnyH_takeR (i := 5) (v := ?vX2a_6) hops hns rdX2_5 (by rfl) frX2_1 rfl (fun _ _ _ h => h) stX2_5 (Or.inl ⟨by kernel_rfl, ?hyX2a_6⟩) (by assumption) ?restX2a_6
        case hyX2a_6 => (intro w hSw; (try dsimp only at hSw); go_split_ands; go_simp; (try with_reducible rfl))
        try simp only [Act.put, sA, sB, sC]
        refine wpAnyH_takeR (i := 6) (v := ?vX2a_7) hops hns rdX2_6 (by rfl) frX2_2 rfl (fun _ _ _ h => h) stX2_6 (Or.inl ⟨by kernel_rfl, ?hyX2a_7⟩) (by assumption) ?restX2a_7
        case hyX2a_7 => (intro w hSw; (try dsimp only at hSw); go_split_ands; go_simp; (try with_reducible rfl))
        try simp only [Act.put, sA, sB, sC]
        refine wpAnyH_takeR (i := 7) (v := ?vX2a_8) hops hns rdX2_7 (by rfl) frX2_3 rfl (fun _ _ _ h => h) stX2_7 (Or.inl ⟨by kernel_rfl, ?hyX2a_8⟩) (by assumption) ?restX2a_8
        case hyX2a_8 => (intro w hSw; (try dsimp only at hSw); go_split_ands; go_simp; (try with_reducible rfl))
        try simp only [Act.put, sA, sB, sC]
        refine wpAnyH_takeR (i := 8) (v := ?vX2a_9) hops hns rdX2_8 (by rfl) frX2_4 rfl (fun _ _ _ h => h) stX2_8 (Or.inl ⟨by kernel_rfl, ?hyX2a_9⟩) (by assumption) ?restX2a_9
        case hyX2a_9 => (intro w hSw; (try dsimp only at hSw); go_split_ands; go_simp; (try with_reducible rfl))
        try simp only [Act.put, sA, sB, sC]
        refine wpAnyH_oneR (i := 9) (v := ?vX2a_10) hops rdX2_9 rfl stX2_9 (Or.inl ⟨by kernel_rfl, ?hyX2a_10⟩) (by assumption) ?restX2a_10
        case hyX2a_10 => (intro w hSw; (try dsimp only at hSw); go_split_ands; go_simp; (try with_reducible rfl))
        try simp only [Act.put, sA, sB, sC]
        refine wpAnyH_readyR (rs := [10]) hops rdX2_10 (by simp) (AllReadyH.consR rfl stX2_10 (fun K hK => ?_) AllReadyH.nil)
        (go_simp; go_wp2_with (go_at_call 54; (with_reducible refine (ahead_any _ _ _ _ _ _ _ _ _ _ _).mono ?_); rintro e w5 ⟨b, rfl, hb5⟩; replace hb5 := Lib.hid (bl_then (Below.refl wr.heap.size wr).drew (Nat.le_refl _) hb5)))
        refine hK.out _ _ (by first | with_reducible exact hSd | exact hSk.out _ hb5.out) (fun hHeld => ?_)
        clear hK K
        try simp only [Act.put, sA, sB, sC]
        refine wpAnyH_oneR (i := 11) (v := ?vX2a_11) hops rdX2_11 rfl stX2_11 (Or.inl ⟨by kernel_rfl, ?hyX2a_11⟩) (by assumption) ?restX2a_11
        case hyX2a_11 => (intro w hSw; (try dsimp only at hSw); go_split_ands; go_simp; (try with_reducible rfl))
        try simp only [Act.put, sA, sB, sC]
        refine wpAnyH_doneR hops rdX2_12 ?_
        clear hSd
        have hB5 := Lib.hid (bl_then hB.out hB.out.size hb5.out)
        have hR5 := Lib.hid (bl_row hb5.out hR.out)
        clear hSk
        cases b with
        | true =>
          go_wp2_with fail
          exact ⟨⟨k + 1, by omega, by go_num, hB5, hR5⟩, by simp [intOf]; omega⟩
        | false =>
          go_wp2_with fail
          go_meet
          exact ⟨k, hk, rfl, hB5, hR5⟩
      · have d1 : decide ((k : Int) < (n : Int)) = false := by simp; omega
        go_upto_region 2 with fail
        refine wp_region_heldR (S := fun _ => True) opsX2 _ (by kernel_rfl) liX2 (by kernel_rfl) nsX2 (trivial) (fun hops hns hHeld => ?_)
        refine wpAnyH_takeR (i := 0) (v := ?vX2b_1) hops hns rdX2_0 (by rfl) frX2_0 rfl (fun _ _ _ h => h) stX2_0 (Or.inl ⟨by kernel_rfl, ?hyX2b_1⟩) (by assumption) ?restX2b_1
        case hyX2b_1 => (intro w hSw; (try dsimp only at hSw); go_split_ands; go_simp; (try with_reducible rfl))
        try simp only [Act.put, sA, sB, sC]
        refine wpAnyH_oneR (i := 1) (v := ?vX2b_2) hops rdX2_1 rfl stX2_1 (Or.inl ⟨by kernel_rfl, ?hyX2b_2⟩) (by assumption) ?restX2b_2
        case hyX2b_2 => (intro w hSw; (try dsimp only at hSw); go_split_ands; go_simp; (try with_reducible rfl))
        try simp only [Act.put, sA, sB, sC]
        refine wpAnyH_oneR (i := 2) (v := ?vX2b_3) hops rdX2_2 rfl stX2_2 (Or.inl ⟨by kernel_rfl, ?hyX2b_3⟩) (by assumption) ?restX2b_3
        case hyX2b_3 => (intro w hSw; (try dsimp only at hSw); go_split_ands; go_simp; (try with_reducible rfl))
        try simp only [Act.put, sA, sB, sC]
        refine wpAnyH_oneR (i := 3) (v := ?vX2b_4) hops rdX2_3 rfl stX2_3 (Or.inl ⟨by kernel_rfl, ?hyX2b_4⟩) (by assumption) ?restX2b_4
        case hyX2b_4 => (intro w hSw; (try dsimp only at hSw); go_split_ands; go_simp; (try with_reducible rfl))
        try simp only [Act.put, sA, sB, sC]
        refine wpAnyH_oneR (i := 4) (v := ?vX2b_5) hops rdX2_4 rfl stX2_4 (Or.inl ⟨by kernel_rfl, ?hyX2b_5⟩) (by assumption) ?restX2b_5
        case hyX2b_5 => (intro w hSw; (try dsimp only at hSw); go_split_ands; go_simp; (try with_reducible rfl))
        try simp only [Act.put, sA, sB, sC]
        refine wpAnyH_takeR (i := 5) (v := undef) hops hns rdX2_5 (by rfl) frX2_1 rfl (fun _ _ _ h => h) stX2_5 (Or.inr ⟨by kernel_rfl, rfl⟩) (by assumption) ?_
        try simp only [Act.put, sA, sB, sC]
        refine wpAnyH_takeR (i := 6) (v := undef) hops hns rdX2_6 (by rfl) frX2_2 rfl (fun _ _ _ h => h) stX2_6 (Or.inr ⟨by kernel_rfl, rfl⟩) (by assumption) ?_
        try simp only [Act.put, sA, sB, sC]
        refine wpAnyH_takeR (i := 7) (v := undef) hops hns rdX2_7 (by rfl) frX2_3 rfl (fun _ _ _ h => h) stX2_7 (Or.inr ⟨by kernel_rfl, rfl⟩) (by assumption) ?_
        try simp only [Act.put, sA, sB, sC]
        refine wpAnyH_takeR (i := 8) (v := undef) hops hns rdX2_8 (by rfl) frX2_4 rfl (fun _ _ _ h => h) stX2_8 (Or.inr ⟨by kernel_rfl, rfl⟩) (by assumption) ?_
        try simp only [Act.put, sA, sB, sC]
        refine wpAnyH_oneR (i := 9) (v := undef) hops rdX2_9 rfl stX2_9 (Or.inr ⟨by kernel_rfl, rfl⟩) (by assumption) ?_
        try simp only [Act.put, sA, sB, sC]
        refine wpAnyH_oneR (i := 10) (v := undef) hops rdX2_10 rfl stX2_10 (Or.inr ⟨by kernel_rfl, rfl⟩) (by assumption) ?_
        try simp only [Act.put, sA, sB, sC]
        refine wpAnyH_oneR (i := 11) (v := ?vX2b_6) hops rdX2_11 rfl stX2_11 (Or.inl ⟨by kernel_rfl, ?hyX2b_6⟩) (by assumption) ?restX2b_6
        case hyX2b_6 => (intro w hSw; (try dsimp only at hSw); go_split_ands; go_simp; (try with_reducible rfl))
        try simp only [Act.put, sA, sB, sC]
        refine wpAnyH_doneR hops rdX2_12 ?_
        go_wp2_with fail
        go_meet
        exact ⟨k, hk, rfl, Lib.hid hB.out.drew, hR⟩
  case rest =>
    obtain ⟨k, hk, rfl, hB, hR⟩ := hcut
    have hs2 := Lib.hid (hs'.out.below hB.out)
    have d0 : Hid True := Lib.hid trivial
    by_cases hkn : k < n
    · have d1 : decide ((k : Int) < (n : Int)) = true := by simp; omega
      have k1' : (0 : Int) ≤ (k : Int) := by omega
      have k2' : (k : Int) < (n : Int) := by omega
      obtain ⟨g, kv, k1, k2, m1, m2, rfl, hkc⟩ := hcel.out k hkn
      have hSd : wc.drew.cell? ⟨w.heap.size, 0, none⟩ = some (.string v) ∧ wc.drew.cell? ⟨w.heap.size, 1, none⟩ = some (.string f1) ∧ wc.drew.cell? ⟨w.heap.size, 2, none⟩ = some (.int .i64 n1) ∧ wc.drew.cell? ⟨w.heap.size, 3, none⟩ = some (.string f2) ∧ wc.drew.cell? ⟨w.heap.size, 4, none⟩ = some (.int .i64 n2) ∧ wc.drew.cell? ⟨g, k * 5, none⟩ = some (.string kv) ∧ wc.drew.cell? ⟨g, k * 5 + 1, none⟩ = some (.string k1) ∧ wc.drew.cell? ⟨g, k * 5 + 2, none⟩ = some (.int .i64 m1) ∧ wc.drew.cell? ⟨g, k * 5 + 3, none⟩ = some (.string k2) ∧ wc.drew.cell? ⟨g, k * 5 + 4, none⟩ = some (.int .i64 m2) := by
        obtain ⟨a0, a1, a2, a3, a4⟩ := hrr.out wc.drew hR.out
        exact ⟨a0, a1, a2, a3, a4, hkc wc.drew hB.out.drew⟩
      replace hkc := Lib.hid hkc
      obtain ⟨q, hqe⟩ : ∃ q, (decide (kv.toList = v.toList) && (decide (k1.toList = f1.toList) && (decide (m1 = n1) && (decide (k2.toList = f2.toList) && decide (m2 = n2))))) = q := ⟨_, rfl⟩
      replace hqe := Lib.hid hqe
      go_upto_region 4 with fail
      refine wp_region_heldR (S := fun w' => w'.cell? ⟨w.heap.size, 0, none⟩ = some (.string v) ∧ w'.cell? ⟨w.heap.size, 1, none⟩ = some (.string f1) ∧ w'.cell? ⟨w.heap.size, 2, none⟩ = some (.int .i64 n1) ∧ w'.cell? ⟨w.heap.size, 3, none⟩ = some (.string f2) ∧ w'.cell? ⟨w.heap.size, 4, none⟩ = some (.int .i64 n2) ∧ w'.cell? ⟨g, k * 5, none⟩ = some (.string kv) ∧ w'.cell? ⟨g, k * 5 + 1, none⟩ = some (.string k1) ∧ w'.cell? ⟨g, k * 5 + 2, none⟩ = some (.int .i64 m1) ∧ w'.cell? ⟨g, k * 5 + 3, none⟩ = some (.string k2) ∧ w'.cell? ⟨g, k * 5 + 4, none⟩ = some (.int .i64 m2)) opsX4 _ (by kernel_rfl) liX4 (by kernel_rfl) nsX4 (hSd) (fun hops hns hHeld => ?_)
      refine wpAnyH_takeR (i := 0) (v := ?vX4a_1) hops hns rdX4_0 (by rfl) frX4_0 rfl (fun _ _ _ h => h) stX4_0 (Or.inl ⟨by kernel_rfl, ?hyX4a_1⟩) (by assumption) ?restX4a_1
      case hyX4a_1 => (intro w hSw; (try dsimp only at hSw); go_split_ands; go_simp; (try with_reducible rfl))
      try simp only [Act.put, sA, sB, sC]
      refine wpAnyH_oneR (i := 1) (v := ?vX4a_2) hops rdX4_1 rfl stX4_1 (Or.inl ⟨by kernel_rfl, ?hyX4a_2⟩) (by assumption) ?restX4a_2
      case hyX4a_2 => (intro w hSw; (try dsimp only at hSw); go_split_ands; go_simp; (try with_reducible rfl))
      try simp only [Act.put, sA, sB, sC]
      refine wpAnyH_oneR (i := 2) (v := ?vX4a_3) hops rdX4_2 rfl stX4_2 (Or.inl ⟨by kernel_rfl, ?hyX4a_3⟩) (by assumption) ?restX4a_3
      case hyX4a_3 => (intro w hSw; (try dsimp only at hSw); go_split_ands; go_simp; (try with_reducible rfl))
      try simp only [Act.put, sA, sB, sC]
      refine wpAnyH_oneR (i := 3) (v := ?vX4a_4) hops rdX4_3 rfl stX4_3 (Or.inl ⟨by kernel_rfl, ?hyX4a_4⟩) (by assumption) ?restX4a_4
      case hyX4a_4 => (intro w hSw; (try dsimp only at hSw); go_split_ands; go_simp; (try with_reducible rfl))
      try simp only [Act.put, sA, sB, sC]
      refine wpAnyH_oneR (i := 4) (v := ?vX4a_5) hops rdX4_4 rfl stX4_4 (Or.inl ⟨by kernel_rfl, ?hyX4a_5⟩) (by assumption) ?restX4a_5
      case hyX4a_5 => (intro w hSw; (try dsimp only at hSw); go_split_ands; go_simp; (try with_reducible rfl))
      try simp only [Act.put, sA, sB, sC]
      refine wpAnyH_takeR (i := 5) (v := ?vX4a_6) hops hns rdX4_5 (by rfl) frX4_1 rfl (fun _ _ _ h => h) stX4_5 (Or.inl ⟨by kernel_rfl, ?hyX4a_6⟩) (by assumption) ?restX4a_6
      case hyX4a_6 => (intro w hSw; (try dsimp only at hSw); go_split_ands; go_simp; (try with_reducible rfl))
      try simp only [Act.put, sA, sB, sC]
      refine wpAnyH_takeR (i := 6) (v := ?vX4a_7) hops hns rdX4_6 (by rfl) frX4_2 rfl (fun _ _ _ h => h) stX4_6 (Or.inl ⟨by kernel_rfl, ?hyX4a_7⟩) (by assumption) ?restX4a_7
      case hyX4a_7 => (intro w hSw; (try dsimp only at hSw); go_split_ands; go_simp; (try with_reducible rfl))
      try simp only [Act.put, sA, sB, sC]
      refine wpAnyH_takeR (i := 7) (v := ?vX4a_8) hops hns rdX4_7 (by rfl) frX4_3 rfl (fun _ _ _ h => h) stX4_7 (Or.inl ⟨by kernel_rfl, ?hyX4a_8⟩) (by assumption) ?restX4a_8
      case hyX4a_8 => (intro w hSw; (try dsimp only at hSw); go_split_ands; go_simp; (try with_reducible rfl))
      try simp only [Act.put, sA, sB, sC]
      refine wpAnyH_takeR (i := 8) (v := ?vX4a_9) hops hns rdX4_8 (by rfl) frX4_4 rfl (fun _ _ _ h => h) stX4_8 (Or.inl ⟨by kernel_rfl, ?hyX4a_9⟩) (by assumption) ?restX4a_9
      case hyX4a_9 => (intro w hSw; (try dsimp only at hSw); go_split_ands; go_simp; (try with_reducible rfl))
      try simp only [Act.put, sA, sB, sC]
      refine wpAnyH_oneR (i := 9) (v := ?vX4a_10) hops rdX4_9 rfl stX4_9 (Or.inl ⟨by kernel_rfl, ?hyX4a_10⟩) (by assumption) ?restX4a_10
      case hyX4a_10 => (intro w hSw; (try dsimp only at hSw); go_split_ands; go_simp; (try with_reducible rfl))
      try simp only [Act.put, sA, sB, sC]
      refine wpAnyH_oneR (i := 10) (v := .bool q) hops rdX4_10 rfl stX4_10 (Or.inl ⟨by kernel_rfl, ?hyX4a_11⟩) (by assumption) ?restX4a_11
      case hyX4a_11 => (intro w hSw; (try dsimp only at hSw); go_split_ands; go_simp; rw [← hqe.out]; (try (repeat' split) <;> simp_all))
      try simp only [Act.put, sA, sB, sC]
      refine wpAnyH_oneR (i := 11) (v := ?vX4a_12) hops rdX4_11 rfl stX4_11 (Or.inl ⟨by kernel_rfl, ?hyX4a_12⟩) (by assumption) ?restX4a_12
      case hyX4a_12 => (intro w hSw; (try dsimp only at hSw); go_split_ands; go_simp; (try with_reducible rfl))
      try simp only [Act.put, sA, sB, sC]
      refine wpAnyH_doneR hops rdX4_12 ?_
      clear hSd hqe hkc
      replace hs2 := Lib.hid (hs2.out.below (Below.refl _ _).drew)
      replace hB := Lib.hid hB.out.drew
      replace hR : Hid (wc.drew.heap[w.heap.size]? = some (.cells #[.string v, .string f1, .int .i64 n1, .string f2, .int .i64 n2] 86 (0, 0))) := hR
      generalize wc.drew = wc at *
      cases q with
      | true =>
        go_wp2_with fail
        first | go_ret | go_end0
        exact ⟨_, n, rfl, by omega, by omega, hs2.out, Fr.refl _ _, hB.out⟩
      | false =>
      have hoc : Hid (∀ u ∈ xs, u.oneCell' = true) := Lib.hid (hrc.out.one_cells hx.out)
      have hfin : Hid (RcOk (xs.take (k * 5) ++ [.string v, .string f1, .int .i64 n1, .string f2, .int .i64 n2] ++ xs.drop (k * 5)) (k + 1 + (n - k))) := Lib.hid (((hrc.out.take k hk).app (by rw [List.length_take, hx.out, Nat.min_eq_left (Nat.mul_le_mul_right 5 hk)]) (RcOk.one v f1 f2 n1 n2 hv)).app (by simp only [List.length_append, List.length_take, List.length_cons, List.length_nil, hx.out, Nat.min_eq_left (Nat.mul_le_mul_right 5 hk)]; omega) (hrc.out.drop k))
      have oa : Hid (((wc.alloc (.cells #[] 86)).alloc (.cells [.string v, .string f1, .int .i64 n1, .string f2, .int .i64 n2].toArray 86)).ownsRow wc.heap.size 86 5 (.slice (some ⟨wc.heap.size, 0, none⟩) 0 0) 0 []) := Lib.hid ((own_lit wc wc.heap.size 86 5 0 [] (Nat.le_refl _) rfl (by omega)).alloc _)
      have ob : Hid (((wc.alloc (.cells [.string v, .string f1, .int .i64 n1, .string f2, .int .i64 n2].toArray 86)).alloc (.cells #[] 86)).ownsRow wc.heap.size 86 5 (.slice (some ⟨wc.heap.size + 1, 0, none⟩) 0 0) 0 []) := Lib.hid (by
        have := own_lit (wc.alloc (.cells [.string v, .string f1, .int .i64 n1, .string f2, .int .i64 n2].toArray 86)) wc.heap.size 86 5 0 [] (by simp) rfl (by omega)
        rw [World.size_alloc] at this
        exact this)
      have oc : Hid ((wc.alloc (.cells #[] 86)).ownsRow wc.heap.size 86 5 (.slice (some ⟨wc.heap.size, 0, none⟩) 0 0) 0 []) := Lib.hid (own_lit wc wc.heap.size 86 5 0 [] (Nat.le_refl _) rfl (by omega))
      have k3' : (0 : Int) ≤ (k : Int) := by omega
      have k4' : (k : Int) ≤ (n : Int) := by omega
      have k5' : (k : Int) ≤ (c : Int) := by omega
      have hrt : Hid (Rd wc (some ⟨g, 0, none⟩) (xs.take (k * 5))) := Lib.hid ((hr.out.below hB.out).take _)
      have hrd : Hid (Rd wc (if c = k then some ⟨g, 0, none⟩ else some ⟨g, k * 5, none⟩) (xs.drop (k * 5))) := Lib.hid (by
        split
        · rw [List.drop_of_length_le (by rw [hx.out]; exact Nat.mul_le_mul_right 5 (by omega))]; exact Rd.nil _ _
        · have h0 := (hr.out.below hB.out).dropA (k * 5)
          rwa [add_plain] at h0)
      go_upto_region 6 with fail
      refine wp_region_heldR (S := fun w' => Below wc.heap.size wc w') opsX6 _ (by kernel_rfl) liX6 (by kernel_rfl) nsX6 ((Below.refl wc.heap.size wc).drew) (fun hops hns hHeld => ?_)
      refine wpAnyH_takeR (i := 1) (v := ?vX6a_1) hops hns rdX6_0 (by rfl) frX6_0 rfl (fun _ _ _ h => h) stX6_0 (Or.inl ⟨by kernel_rfl, ?hyX6a_1⟩) (by assumption) ?restX6a_1
      case hyX6a_1 => (intro w hSw; go_simp; (try with_reducible rfl))
      try simp only [Act.put, sA, sB, sC]
      refine wpAnyH_takeR (i := 2) (v := ?vX6a_2) hops hns rdX6_1 (by rfl) frX6_1 rfl (fun _ _ _ h => h) stX6_1 (Or.inl ⟨by kernel_rfl, ?hyX6a_2⟩) (by assumption) ?restX6a_2
      case hyX6a_2 => (intro w hSw; go_simp; (try with_reducible rfl))
      try simp only [Act.put, sA, sB, sC]
      refine wpAnyH_takeR (i := 3) (v := ?vX6a_3) hops hns rdX6_2 (by rfl) frX6_2 rfl (fun _ _ _ h => h) stX6_2 (Or.inl ⟨by kernel_rfl, ?hyX6a_3⟩) (by assumption) ?restX6a_3
      case hyX6a_3 => (intro w hSw; go_simp; (try with_reducible rfl))
      try simp only [Act.put, sA, sB, sC]
      refine wpAnyH_takeR (i := 5) (v := ?vX6a_4) hops hns rdX6_3 (by rfl) frX6_3 rfl (fun _ _ _ h => h) stX6_3 (Or.inl ⟨by kernel_rfl, ?hyX6a_4⟩) (by assumption) ?restX6a_4
      case hyX6a_4 => (intro w hSw; obtain ⟨x0, x1, x2, x3, x4⟩ := hrr.out _ (bl_row hSw hR.out); clear hSw; go_simp; (try with_reducible rfl))
      try simp only [Act.put, sA, sB, sC]
      refine wpAnyH_takeR (i := 8) (v := ?vX6a_5) hops hns rdX6_4 (by rfl) frX6_4 rfl (fun _ _ _ h => h) stX6_4 (Or.inl ⟨by kernel_rfl, ?hyX6a_5⟩) (by assumption) ?restX6a_5
      case hyX6a_5 => (intro w hSw; go_simp; (try with_reducible rfl))
      try simp only [Act.put, sA, sB, sC]
      refine wpAnyH_takeR (i := 9) (v := ?vX6a_6) hops hns rdX6_5 (by rfl) frX6_5 rfl (fun _ _ _ h => h) stX6_5 (Or.inl ⟨by kernel_rfl, ?hyX6a_6⟩) (by assumption) ?restX6a_6
      case hyX6a_6 => (intro w hSw; go_simp; (try with_reducible rfl))
      try simp only [Act.put, sA, sB, sC]
      refine wpAnyH_takeR (i := 10) (v := ?vX6a_7) hops hns rdX6_6 (by rfl) frX6_6 rfl (fun _ _ _ h => h) stX6_6 (Or.inl ⟨by kernel_rfl, ?hyX6a_7⟩) (by assumption) ?restX6a_7
      case hyX6a_7 => (intro w hSw; go_simp; (try with_reducible rfl))
      try simp only [Act.put, sA, sB, sC]
      refine wpAnyH_readyR (rs := [0, 6]) hops rdX6_7 (by simp) (AllReadyH.consR rfl stX6_8 (fun K hK => ?_) (AllReadyH.consR rfl stX6_7 (fun K hK => ?_) AllReadyH.nil))
      · skip
        go_simp
        refine hK.out _ _ (by repeat (with_reducible (first | assumption | exact hBo.out | exact Below.refl _ _ | apply bl_alloc | apply Below.drew))) (fun hHeld => ?_)
        clear hK K
        try simp only [Act.put, sA, sB, sC]
        refine wpAnyH_readyR (rs := [4, 6]) hops rdX6_8 (by simp) (AllReadyH.consR rfl stX6_10 (fun K hK => ?_) (AllReadyH.consR rfl stX6_9 (fun K hK => ?_) AllReadyH.nil))
        · skip
          refine step_app wc.heap.size rfl _ _ 44 86 (.agg #[.string ⟨#[]⟩, .string ⟨#[]⟩, .int .i64 0, .string ⟨#[]⟩, .int .i64 0]) 5 64 rfl Try.underlying44 info86 rfl (by decide) (by decide) (.slice (some ⟨wc.heap.size, 0, none⟩) 0 0) 0 [] rfl oc.out (by first | exact hBo.out.size | (simp; done) | (have := hBo.out.size; simp; omega) | (simp; omega)) (some ⟨g, 0, none⟩) k c (xs.take (k * 5)) rfl (by first | (rw [List.length_take, hx.out, Nat.min_eq_left (Nat.mul_le_mul_right 5 hk)]; done) | simp) (hrt.out.below (by repeat (with_reducible (first | exact Below.refl _ _ | apply bl_alloc | apply Below.drew)))) (fun e => by cases e) (fun u hu => hoc.out u (List.mem_of_mem_take hu)) (by omega) ?_
          intro v1 w1 ho1 hb1 hg1 hat1
          replace ho1 := Lib.hid ho1
          replace hg1 := Lib.hid hg1
          have hBo := Lib.hid (show Below wc.heap.size wc w1 from Below.trans (by repeat (with_reducible (first | exact hBo.out | exact Below.refl _ _ | apply bl_alloc | apply Below.drew))) hb1)
          clear hat1 hb1
          refine hK.out _ _ (by exact hBo.out) (fun hHeld => ?_)
          clear hK K
          try simp only [Act.put, sA, sB, sC]
          refine wpAnyH_readyR (rs := [6]) hops rdX6_9 (by simp) (AllReadyH.consR rfl stX6_11 (fun K hK => ?_) AllReadyH.nil)
          go_simp
          refine hK.out _ _ (by exact bl_alloc hBo.out _) (fun hHeld => ?_)
          clear hK K
          try simp only [Act.put, sA, sB, sC]
          refine wpAnyH_readyR (rs := [7]) hops rdX6_10 (by simp) (AllReadyH.consR rfl stX6_12 (fun K hK => ?_) AllReadyH.nil)
          refine step_app wc.heap.size rfl _ _ 44 86 (.agg #[.string ⟨#[]⟩, .string ⟨#[]⟩, .int .i64 0, .string ⟨#[]⟩, .int .i64 0]) 5 64 rfl Try.underlying44 info86 rfl (by decide) (by decide) v1 (0 + k) ([] ++ xs.take (k * 5)) rfl (own_below ho1.out (by repeat (with_reducible (first | exact Below.refl _ _ | apply bl_alloc | apply Below.drew)))) (by first | exact hBo.out.size | (simp; done) | (have := hBo.out.size; simp; omega) | (simp; omega)) (some ⟨w1.heap.size, 0, none⟩) 1 1 [.string v, .string f1, .int .i64 n1, .string f2, .int .i64 n2] rfl rfl (rd_new w1 [.string v, .string f1, .int .i64 n1, .string f2, .int .i64 n2] 86) (fun e => by cases e) (by simp [Value.oneCell']) (by omega) ?_
          intro v2 w2 ho2 hb2 hg2 hat2
          replace ho2 := Lib.hid ho2
          replace hg2 := Lib.hid hg2
          have hBo := Lib.hid (show Below wc.heap.size wc w2 from Below.trans (by repeat (with_reducible (first | exact hBo.out | exact Below.refl _ _ | apply bl_alloc | apply Below.drew))) hb2)
          clear hat2 hb2
          refine hK.out _ _ (by exact hBo.out) (fun hHeld => ?_)
          clear hK K
          try simp only [Act.put, sA, sB, sC]
          refine wpAnyH_readyR (rs := [11]) hops rdX6_11 (by simp) (AllReadyH.consR rfl stX6_13 (fun K hK => ?_) AllReadyH.nil)
          refine step_app wc.heap.size rfl _ _ 44 86 (.agg #[.string ⟨#[]⟩, .string ⟨#[]⟩, .int .i64 0, .string ⟨#[]⟩, .int .i64 0]) 5 64 rfl Try.underlying44 info86 rfl (by decide) (by decide) v2 (0 + k + 1) ([] ++ xs.take (k * 5) ++ [.string v, .string f1, .int .i64 n1, .string f2, .int .i64 n2]) rfl ho2.out (by first | exact hBo.out.size | (simp; done) | (have := hBo.out.size; simp; omega) | (simp; omega)) (if c = k then some ⟨g, 0, none⟩ else some ⟨g, k * 5, none⟩) (n - k) (c - k) (xs.drop (k * 5)) rfl (by have := hx.out; simp only [List.length_drop]; omega) (hrd.out.below hBo.out) (fun e => by split at e <;> cases e) (fun u hu => hoc.out u (List.mem_of_mem_drop hu)) (by omega) ?_
          intro v3 w3 ho3 hb3 hg3 hat3
          replace ho3 := Lib.hid ho3
          replace hg3 := Lib.hid hg3
          have hBo := Lib.hid (show Below wc.heap.size wc w3 from Below.trans (by repeat (with_reducible (first | exact hBo.out | exact Below.refl _ _ | apply bl_alloc | apply Below.drew))) hb3)
          clear hat3 hb3
          refine hK.out _ _ (by exact hBo.out) (fun hHeld => ?_)
          clear hK K
          try simp only [Act.put, sA, sB, sC]
          refine wpAnyH_oneR (i := 12) (v := ?vX6a_8) hops rdX6_12 rfl stX6_14 (Or.inl ⟨by kernel_rfl, ?hyX6a_8⟩) (by assumption) ?restX6a_8
          case hyX6a_8 => (intro w hSw; go_simp; (try with_reducible rfl))
          try simp only [Act.put, sA, sB, sC]
          refine wpAnyH_doneR hops rdX6_13 ?_
          have hsl := Lib.hid (SlRc.own ho3.out (by simpa [List.append_assoc] using hfin.out))
          go_wp2_with fail
          all_goals (first | go_ret | go_end0)
          all_goals exact ⟨_, _, rfl, by omega, by omega, hsl.out, .inr (fun b h => Nat.le_trans hB.out.size (ho3.out.lt b h).1), bl_then hB.out hB.out.size hBo.out⟩
        · skip
          go_simp
          refine hK.out _ _ (by repeat (with_reducible (first | assumption | exact hBo.out | exact Below.refl _ _ | apply bl_alloc | apply Below.drew))) (fun hHeld => ?_)
          clear hK K
          try simp only [Act.put, sA, sB, sC]
          refine wpAnyH_readyR (rs := [4]) hops rdX6_14 (by simp) (AllReadyH.consR rfl stX6_15 (fun K hK => ?_) AllReadyH.nil)
          refine step_app wc.heap.size rfl _ _ 44 86 (.agg #[.string ⟨#[]⟩, .string ⟨#[]⟩, .int .i64 0, .string ⟨#[]⟩, .int .i64 0]) 5 64 rfl Try.underlying44 info86 rfl (by decide) (by decide) (.slice (some ⟨wc.heap.size, 0, none⟩) 0 0) 0 [] rfl oa.out (by first | exact hBo.out.size | (simp; done) | (have := hBo.out.size; simp; omega) | (simp; omega)) (some ⟨g, 0, none⟩) k c (xs.take (k * 5)) rfl (by first | (rw [List.length_take, hx.out, Nat.min_eq_left (Nat.mul_le_mul_right 5 hk)]; done) | simp) (hrt.out.below (by repeat (with_reducible (first | exact Below.refl _ _ | apply bl_alloc | apply Below.drew)))) (fun e => by cases e) (fun u hu => hoc.out u (List.mem_of_mem_take hu)) (by omega) ?_
          intro v1 w1 ho1 hb1 hg1 hat1
          replace ho1 := Lib.hid ho1
          replace hg1 := Lib.hid hg1
          have hBo := Lib.hid (show Below wc.heap.size wc w1 from Below.trans (by repeat (with_reducible (first | exact hBo.out | exact Below.refl _ _ | apply bl_alloc | apply Below.drew))) hb1)
          clear hat1 hb1
          refine hK.out _ _ (by exact hBo.out) (fun hHeld => ?_)
          clear hK K
          try simp only [Act.put, sA, sB, sC]
          have hS1 := Lib.hid (rd_row (xs := [.string v, .string f1, .int .i64 n1, .string f2, .int .i64 n2]) (t := 86) ((hg1.out.block (wc.heap.size + 1) (by show wc.heap.size + 1 < ((wc.alloc _).alloc _).heap.size; rw [World.size_alloc, World.size_alloc]; omega) (by intro e; simp only [Value.ownBlock, Option.some.injEq] at e; omega)).trans (row_n2 wc _ _)))
          refine wpAnyH_readyR (rs := [7]) hops rdX6_10 (by simp) (AllReadyH.consR rfl stX6_12 (fun K hK => ?_) AllReadyH.nil)
          refine step_app wc.heap.size rfl _ _ 44 86 (.agg #[.string ⟨#[]⟩, .string ⟨#[]⟩, .int .i64 0, .string ⟨#[]⟩, .int .i64 0]) 5 64 rfl Try.underlying44 info86 rfl (by decide) (by decide) v1 (0 + k) ([] ++ xs.take (k * 5)) rfl ho1.out (by first | exact hBo.out.size | (simp; done) | (have := hBo.out.size; simp; omega) | (simp; omega)) (some ⟨wc.heap.size + 1, 0, none⟩) 1 1 [.string v, .string f1, .int .i64 n1, .string f2, .int .i64 n2] rfl rfl hS1.out (fun e => by cases e) (by simp [Value.oneCell']) (by omega) ?_
          intro v2 w2 ho2 hb2 hg2 hat2
          replace ho2 := Lib.hid ho2
          replace hg2 := Lib.hid hg2
          have hBo := Lib.hid (show Below wc.heap.size wc w2 from Below.trans (by repeat (with_reducible (first | exact hBo.out | exact Below.refl _ _ | apply bl_alloc | apply Below.drew))) hb2)
          clear hat2 hb2
          refine hK.out _ _ (by exact hBo.out) (fun hHeld => ?_)
          clear hK K
          try simp only [Act.put, sA, sB, sC]
          refine wpAnyH_readyR (rs := [11]) hops rdX6_11 (by simp) (AllReadyH.consR rfl stX6_13 (fun K hK => ?_) AllReadyH.nil)
          refine step_app wc.heap.size rfl _ _ 44 86 (.agg #[.string ⟨#[]⟩, .string ⟨#[]⟩, .int .i64 0, .string ⟨#[]⟩, .int .i64 0]) 5 64 rfl Try.underlying44 info86 rfl (by decide) (by decide) v2 (0 + k + 1) ([] ++ xs.take (k * 5) ++ [.string v, .string f1, .int .i64 n1, .string f2, .int .i64 n2]) rfl ho2.out (by first | exact hBo.out.size | (simp; done) | (have := hBo.out.size; simp; omega) | (simp; omega)) (if c = k then some ⟨g, 0, none⟩ else some ⟨g, k * 5, none⟩) (n - k) (c - k) (xs.drop (k * 5)) rfl (by have := hx.out; simp only [List.length_drop]; omega) (hrd.out.below hBo.out) (fun e => by split at e <;> cases e) (fun u hu => hoc.out u (List.mem_of_mem_drop hu)) (by omega) ?_
          intro v3 w3 ho3 hb3 hg3 hat3
          replace ho3 := Lib.hid ho3
          replace hg3 := Lib.hid hg3
          have hBo := Lib.hid (show Below wc.heap.size wc w3 from Below.trans (by repeat (with_reducible (first | exact hBo.out | exact Below.refl _ _ | apply bl_alloc | apply Below.drew))) hb3)
          clear hat3 hb3
          refine hK.out _ _ (by exact hBo.out) (fun hHeld => ?_)
          clear hK K
          try simp only [Act.put, sA, sB, sC]
          refine wpAnyH_oneR (i := 12) (v := ?vX6a_9) hops rdX6_12 rfl stX6_14 (Or.inl ⟨by kernel_rfl, ?hyX6a_9⟩) (by assumption) ?restX6a_9
          case hyX6a_9 => (intro w hSw; go_simp; (try with_reducible rfl))
          try simp only [Act.put, sA, sB, sC]
          refine wpAnyH_doneR hops rdX6_13 ?_
          have hsl := Lib.hid (SlRc.own ho3.out (by simpa [List.append_assoc] using hfin.out))
          go_wp2_with fail
          all_goals (first | go_ret | go_end0)
          all_goals exact ⟨_, _, rfl, by omega, by omega, hsl.out, .inr (fun b h => Nat.le_trans hB.out.size (ho3.out.lt b h).1), bl_then hB.out hB.out.size hBo.out⟩
      · skip
        go_simp
        refine hK.out _ _ (by repeat (with_reducible (first | assumption | exact hBo.out | exact Below.refl _ _ | apply bl_alloc | apply Below.drew))) (fun hHeld => ?_)
        clear hK K
        try simp only [Act.put, sA, sB, sC]
        refine wpAnyH_readyR (rs := [0]) hops rdX6_15 (by simp) (AllReadyH.consR rfl stX6_16 (fun K hK => ?_) AllReadyH.nil)
        go_simp
        refine hK.out _ _ (by repeat (with_reducible (first | assumption | exact hBo.out | exact Below.refl _ _ | apply bl_alloc | apply Below.drew))) (fun hHeld => ?_)
        clear hK K
        try simp only [Act.put, sA, sB, sC]
        refine wpAnyH_readyR (rs := [4]) hops rdX6_14 (by simp) (AllReadyH.consR rfl stX6_15 (fun K hK => ?_) AllReadyH.nil)
        refine step_app wc.heap.size rfl _ _ 44 86 (.agg #[.string ⟨#[]⟩, .string ⟨#[]⟩, .int .i64 0, .string ⟨#[]⟩, .int .i64 0]) 5 64 rfl Try.underlying44 info86 rfl (by decide) (by decide) (.slice (some ⟨wc.heap.size + 1, 0, none⟩) 0 0) 0 [] rfl ob.out (by first | exact hBo.out.size | (simp; done) | (have := hBo.out.size; simp; omega) | (simp; omega)) (some ⟨g, 0, none⟩) k c (xs.take (k * 5)) rfl (by first | (rw [List.length_take, hx.out, Nat.min_eq_left (Nat.mul_le_mul_right 5 hk)]; done) | simp) (hrt.out.below (by repeat (with_reducible (first | exact Below.refl _ _ | apply bl_alloc | apply Below.drew)))) (fun e => by cases e) (fun u hu => hoc.out u (List.mem_of_mem_take hu)) (by omega) ?_
        intro v1 w1 ho1 hb1 hg1 hat1
        replace ho1 := Lib.hid ho1
        replace hg1 := Lib.hid hg1
        have hBo := Lib.hid (show Below wc.heap.size wc w1 from Below.trans (by repeat (with_reducible (first | exact hBo.out | exact Below.refl _ _ | apply bl_alloc | apply Below.drew))) hb1)
        clear hat1 hb1
        refine hK.out _ _ (by exact hBo.out) (fun hHeld => ?_)
        clear hK K
        try simp only [Act.put, sA, sB, sC]
        have hS2 := Lib.hid (rd_row (xs := [.string v, .string f1, .int .i64 n1, .string f2, .int .i64 n2]) (t := 86) ((hg1.out.block wc.heap.size (by show wc.heap.size < ((wc.alloc _).alloc _).heap.size; rw [World.size_alloc, World.size_alloc]; omega) (by intro e; simp only [Value.ownBlock, Option.some.injEq] at e; omega)).trans (row_n1 wc _ _)))
        refine wpAnyH_readyR (rs := [7]) hops rdX6_10 (by simp) (AllReadyH.consR rfl stX6_12 (fun K hK => ?_) AllReadyH.nil)
        refine step_app wc.heap.size rfl _ _ 44 86 (.agg #[.string ⟨#[]⟩, .string ⟨#[]⟩, .int .i64 0, .string ⟨#[]⟩, .int .i64 0]) 5 64 rfl Try.underlying44 info86 rfl (by decide) (by decide) v1 (0 + k) ([] ++ xs.take (k * 5)) rfl ho1.out (by first | exact hBo.out.size | (simp; done) | (have := hBo.out.size; simp; omega) | (simp; omega)) (some ⟨wc.heap.size, 0, none⟩) 1 1 [.string v, .string f1, .int .i64 n1, .string f2, .int .i64 n2] rfl rfl hS2.out (fun e => by cases e) (by simp [Value.oneCell']) (by omega) ?_
        intro v2 w2 ho2 hb2 hg2 hat2
        replace ho2 := Lib.hid ho2
        replace hg2 := Lib.hid hg2
        have hBo := Lib.hid (show Below wc.heap.size wc w2 from Below.trans (by repeat (with_reducible (first | exact hBo.out | exact Below.refl _ _ | apply bl_alloc | apply Below.drew))) hb2)
        clear hat2 hb2
        refine hK.out _ _ (by exact hBo.out) (fun hHeld => ?_)
        clear hK K
        try simp only [Act.put, sA, sB, sC]
        refine wpAnyH_readyR (rs := [11]) hops rdX6_11 (by simp) (AllReadyH.consR rfl stX6_13 (fun K hK => ?_) AllReadyH.nil)
        refine step_app wc.heap.size rfl _ _ 44 86 (.agg #[.string ⟨#[]⟩, .string ⟨#[]⟩, .int .i64 0, .string ⟨#[]⟩, .int .i64 0]) 5 64 rfl Try.underlying44 info86 rfl (by decide) (by decide) v2 (0 + k + 1) ([] ++ xs.take (k * 5) ++ [.string v, .string f1, .int .i64 n1, .string f2, .int .i64 n2]) rfl ho2.out (by first | exact hBo.out.size | (simp; done) | (have := hBo.out.size; simp; omega) | (simp; omega)) (if c = k then some ⟨g, 0, none⟩ else some ⟨g, k * 5, none⟩) (n - k) (c - k) (xs.drop (k * 5)) rfl (by have := hx.out; simp only [List.length_drop]; omega) (hrd.out.below hBo.out) (fun e => by split at e <;> cases e) (fun u hu => hoc.out u (List.mem_of_mem_drop hu)) (by omega) ?_
        intro v3 w3 ho3 hb3 hg3 hat3
        replace ho3 := Lib.hid ho3
        replace hg3 := Lib.hid hg3
        have hBo := Lib.hid (show Below wc.heap.size wc w3 from Below.trans (by repeat (with_reducible (first | exact hBo.out | exact Below.refl _ _ | apply bl_alloc | apply Below.drew))) hb3)
        clear hat3 hb3
        refine hK.out _ _ (by exact hBo.out) (fun hHeld => ?_)
        clear hK K
        try simp only [Act.put, sA, sB, sC]
        refine wpAnyH_oneR (i := 12) (v := ?vX6a_10) hops rdX6_12 rfl stX6_14 (Or.inl ⟨by kernel_rfl, ?hyX6a_10⟩) (by assumption) ?restX6a_10
        case hyX6a_10 => (intro w hSw; go_simp; (try with_reducible rfl))
        try simp only [Act.put, sA, sB, sC]
        refine wpAnyH_doneR hops rdX6_13 ?_
        have hsl := Lib.hid (SlRc.own ho3.out (by simpa [List.append_assoc] using hfin.out))
        go_wp2_with fail
        all_goals (first | go_ret | go_end0)
        all_goals exact ⟨_, _, rfl, by omega, by omega, hsl.out, .inr (fun b h => Nat.le_trans hB.out.size (ho3.out.lt b h).1), bl_then hB.out hB.out.size hBo.out⟩
    · have d1 : decide ((k : Int) < (n : Int)) = false := by simp; omega
      have hkn' : Hid (k = n) := Lib.hid (by omega)
      go_upto_region 4 with fail
      refine wp_region_heldR (S := fun _ => True) opsX4 _ (by kernel_rfl) liX4 (by kernel_rfl) nsX4 (trivial) (fun hops hns hHeld => ?_)
      refine wpAnyH_takeR (i := 0) (v := ?vX4b_1) hops hns rdX4_0 (by rfl) frX4_0 rfl (fun _ _ _ h => h) stX4_0 (Or.inl ⟨by kernel_rfl, ?hyX4b_1⟩) (by assumption) ?restX4b_1
      case hyX4b_1 => (intro w hSw; (try dsimp only at hSw); go_split_ands; go_simp; (try with_reducible rfl))
      try simp only [Act.put, sA, sB, sC]
      refine wpAnyH_oneR (i := 1) (v := ?vX4b_2) hops rdX4_1 rfl stX4_1 (Or.inl ⟨by kernel_rfl, ?hyX4b_2⟩) (by assumption) ?restX4b_2
      case hyX4b_2 => (intro w hSw; (try dsimp only at hSw); go_split_ands; go_simp; (try with_reducible rfl))
      try simp only [Act.put, sA, sB, sC]
      refine wpAnyH_oneR (i := 2) (v := ?vX4b_3) hops rdX4_2 rfl stX4_2 (Or.inl ⟨by kernel_rfl, ?hyX4b_3⟩) (by assumption) ?restX4b_3
      case hyX4b_3 => (intro w hSw; (try dsimp only at hSw); go_split_ands; go_simp; (try with_reducible rfl))
      try simp only [Act.put, sA, sB, sC]
      refine wpAnyH_oneR (i := 3) (v := ?vX4b_4) hops rdX4_3 rfl stX4_3 (Or.inl ⟨by kernel_rfl, ?hyX4b_4⟩) (by assumption) ?restX4b_4
      case hyX4b_4 => (intro w hSw; (try dsimp only at hSw); go_split_ands; go_simp; (try with_reducible rfl))
      try simp only [Act.put, sA, sB, sC]
      refine wpAnyH_oneR (i := 4) (v := ?vX4b_5) hops rdX4_4 rfl stX4_4 (Or.inl ⟨by kernel_rfl, ?hyX4b_5⟩) (by assumption) ?restX4b_5
      case hyX4b_5 => (intro w hSw; (try dsimp only at hSw); go_split_ands; go_simp; (try with_reducible rfl))
      try simp only [Act.put, sA, sB, sC]
      refine wpAnyH_takeR (i := 5) (v := undef) hops hns rdX4_5 (by rfl) frX4_1 rfl (fun _ _ _ h => h) stX4_5 (Or.inr ⟨by kernel_rfl, rfl⟩) (by assumption) ?_
      try simp only [Act.put, sA, sB, sC]
      refine wpAnyH_takeR (i := 6) (v := undef) hops hns rdX4_6 (by rfl) frX4_2 rfl (fun _ _ _ h => h) stX4_6 (Or.inr ⟨by kernel_rfl, rfl⟩) (by assumption) ?_
      try simp only [Act.put, sA, sB, sC]
      refine wpAnyH_takeR (i := 7) (v := undef) hops hns rdX4_7 (by rfl) frX4_3 rfl (fun _ _ _ h => h) stX4_7 (Or.inr ⟨by kernel_rfl, rfl⟩) (by assumption) ?_
      try simp only [Act.put, sA, sB, sC]
      refine wpAnyH_takeR (i := 8) (v := undef) hops hns rdX4_8 (by rfl) frX4_4 rfl (fun _ _ _ h => h) stX4_8 (Or.inr ⟨by kernel_rfl, rfl⟩) (by assumption) ?_
      try simp only [Act.put, sA, sB, sC]
      refine wpAnyH_oneR (i := 9) (v := undef) hops rdX4_9 rfl stX4_9 (Or.inr ⟨by kernel_rfl, rfl⟩) (by assumption) ?_
      try simp only [Act.put, sA, sB, sC]
      refine wpAnyH_oneR (i := 10) (v := undef) hops rdX4_10 rfl stX4_10 (Or.inr ⟨by kernel_rfl, rfl⟩) (by assumption) ?_
      try simp only [Act.put, sA, sB, sC]
      refine wpAnyH_oneR (i := 11) (v := ?vX4b_6) hops rdX4_11 rfl stX4_11 (Or.inl ⟨by kernel_rfl, ?hyX4b_6⟩) (by assumption) ?restX4b_6
      case hyX4b_6 => (intro w hSw; (try dsimp only at hSw); go_split_ands; go_simp; (try with_reducible rfl))
      try simp only [Act.put, sA, sB, sC]
      refine wpAnyH_doneR hops rdX4_12 ?_
      replace hs2 := Lib.hid (hs2.out.below (Below.refl _ _).drew)
      replace hB := Lib.hid hB.out.drew
      replace hR : Hid (wc.drew.heap[w.heap.size]? = some (.cells #[.string v, .string f1, .int .i64 n1, .string f2, .int .i64 n2] 86 (0, 0))) := hR
      clear hkn
      generalize wc.drew = wc at *
      have hoc : Hid (∀ u ∈ xs, u.oneCell' = true) := Lib.hid (hrc.out.one_cells hx.out)
      have hfin : Hid (RcOk (xs.take (k * 5) ++ [.string v, .string f1, .int .i64 n1, .string f2, .int .i64 n2] ++ xs.drop (k * 5)) (k + 1 + (n - k))) := Lib.hid (((hrc.out.take k hk).app (by rw [List.length_take, hx.out, Nat.min_eq_left (Nat.mul_le_mul_right 5 hk)]) (RcOk.one v f1 f2 n1 n2 hv)).app (by simp only [List.length_append, List.length_take, List.length_cons, List.length_nil, hx.out, Nat.min_eq_left (Nat.mul_le_mul_right 5 hk)]; omega) (hrc.out.drop k))
      have oa : Hid (((wc.alloc (.cells #[] 86)).alloc (.cells [.string v, .string f1, .int .i64 n1, .string f2, .int .i64 n2].toArray 86)).ownsRow wc.heap.size 86 5 (.slice (some ⟨wc.heap.size, 0, none⟩) 0 0) 0 []) := Lib.hid ((own_lit wc wc.heap.size 86 5 0 [] (Nat.le_refl _) rfl (by omega)).alloc _)
      have ob : Hid (((wc.alloc (.cells [.string v, .string f1, .int .i64 n1, .string f2, .int .i64 n2].toArray 86)).alloc (.cells #[] 86)).ownsRow wc.heap.size 86 5 (.slice (some ⟨wc.heap.size + 1, 0, none⟩) 0 0) 0 []) := Lib.hid (by
        have := own_lit (wc.alloc (.cells [.string v, .string f1, .int .i64 n1, .string f2, .int .i64 n2].toArray 86)) wc.heap.size 86 5 0 [] (by simp) rfl (by omega)
        rw [World.size_alloc] at this
        exact this)
      have oc : Hid ((wc.alloc (.cells #[] 86)).ownsRow wc.heap.size 86 5 (.slice (some ⟨wc.heap.size, 0, none⟩) 0 0) 0 []) := Lib.hid (own_lit wc wc.heap.size 86 5 0 [] (Nat.le_refl _) rfl (by omega))
      have k3' : (0 : Int) ≤ (k : Int) := by omega
      have k4' : (k : Int) ≤ (n : Int) := by omega
      have k5' : (k : Int) ≤ (c : Int) := by omega
      cases A with
      | some ad =>
        obtain ⟨g, rfl⟩ : ∃ g, ad = ⟨g, 0, none⟩ := ⟨ad.block, hpl.out ad rfl⟩
        have hrt : Hid (Rd wc (some ⟨g, 0, none⟩) (xs.take (k * 5))) := Lib.hid ((hr.out.below hB.out).take _)
        have hrd : Hid (Rd wc (if c = k then some ⟨g, 0, none⟩ else some ⟨g, k * 5, none⟩) (xs.drop (k * 5))) := Lib.hid (by
          split
          · rw [List.drop_of_length_le (by rw [hx.out]; exact Nat.mul_le_mul_right 5 (by omega))]; exact Rd.nil _ _
          · have h0 := (hr.out.below hB.out).dropA (k * 5)
            rwa [add_plain] at h0)
        go_upto_region 6 with fail
        refine wp_region_heldR (S := fun w' => Below wc.heap.size wc w') opsX6 _ (by kernel_rfl) liX6 (by kernel_rfl) nsX6 ((Below.refl wc.heap.size wc).drew) (fun hops hns hHeld => ?_)
        refine wpAnyH_takeR (i := 1) (v := ?vX6b_1) hops hns rdX6_0 (by rfl) frX6_0 rfl (fun _ _ _ h => h) stX6_0 (Or.inl ⟨by kernel_rfl, ?hyX6b_1⟩) (by assumption) ?restX6b_1
        case hyX6b_1 => (intro w hSw; go_simp; (try with_reducible rfl))
        try simp only [Act.put, sA, sB, sC]
        refine wpAnyH_takeR (i := 2) (v := ?vX6b_2) hops hns rdX6_1 (by rfl) frX6_1 rfl (fun _ _ _ h => h) stX6_1 (Or.inl ⟨by kernel_rfl, ?hyX6b_2⟩) (by assumption) ?restX6b_2
        case hyX6b_2 => (intro w hSw; go_simp; (try with_reducible rfl))
        try simp only [Act.put, sA, sB, sC]
        refine wpAnyH_takeR (i := 3) (v := ?vX6b_3) hops hns rdX6_2 (by rfl) frX6_2 rfl (fun _ _ _ h => h) stX6_2 (Or.inl ⟨by kernel_rfl, ?hyX6b_3⟩) (by assumption) ?restX6b_3
        case hyX6b_3 => (intro w hSw; go_simp; (try with_reducible rfl))
        try simp only [Act.put, sA, sB, sC]
        refine wpAnyH_takeR (i := 5) (v := ?vX6b_4) hops hns rdX6_3 (by rfl) frX6_3 rfl (fun _ _ _ h => h) stX6_3 (Or.inl ⟨by kernel_rfl, ?hyX6b_4⟩) (by assumption) ?restX6b_4
        case hyX6b_4 => (intro w hSw; obtain ⟨x0, x1, x2, x3, x4⟩ := hrr.out _ (bl_row hSw hR.out); clear hSw; go_simp; (try with_reducible rfl))
        try simp only [Act.put, sA, sB, sC]
        refine wpAnyH_takeR (i := 8) (v := ?vX6b_5) hops hns rdX6_4 (by rfl) frX6_4 rfl (fun _ _ _ h => h) stX6_4 (Or.inl ⟨by kernel_rfl, ?hyX6b_5⟩) (by assumption) ?restX6b_5
        case hyX6b_5 => (intro w hSw; go_simp; (try with_reducible rfl))
        try simp only [Act.put, sA, sB, sC]
        refine wpAnyH_takeR (i := 9) (v := ?vX6b_6) hops hns rdX6_5 (by rfl) frX6_5 rfl (fun _ _ _ h => h) stX6_5 (Or.inl ⟨by kernel_rfl, ?hyX6b_6⟩) (by assumption) ?restX6b_6
        case hyX6b_6 => (intro w hSw; go_simp; (try with_reducible rfl))
        try simp only [Act.put, sA, sB, sC]
        refine wpAnyH_takeR (i := 10) (v := ?vX6b_7) hops hns rdX6_6 (by rfl) frX6_6 rfl (fun _ _ _ h => h) stX6_6 (Or.inl ⟨by kernel_rfl, ?hyX6b_7⟩) (by assumption) ?restX6b_7
        case hyX6b_7 => (intro w hSw; go_simp; (try with_reducible rfl))
        try simp only [Act.put, sA, sB, sC]
        refine wpAnyH_readyR (rs := [0, 6]) hops rdX6_7 (by simp) (AllReadyH.consR rfl stX6_8 (fun K hK => ?_) (AllReadyH.consR rfl stX6_7 (fun K hK => ?_) AllReadyH.nil))
        · skip
          go_simp
          refine hK.out _ _ (by repeat (with_reducible (first | assumption | exact hBo.out | exact Below.refl _ _ | apply bl_alloc | apply Below.drew))) (fun hHeld => ?_)
          clear hK K
          try simp only [Act.put, sA, sB, sC]
          refine wpAnyH_readyR (rs := [4, 6]) hops rdX6_8 (by simp) (AllReadyH.consR rfl stX6_10 (fun K hK => ?_) (AllReadyH.consR rfl stX6_9 (fun K hK => ?_) AllReadyH.nil))
          · skip
            refine step_app wc.heap.size rfl _ _ 44 86 (.agg #[.string ⟨#[]⟩, .string ⟨#[]⟩, .int .i64 0, .string ⟨#[]⟩, .int .i64 0]) 5 64 rfl Try.underlying44 info86 rfl (by decide) (by decide) (.slice (some ⟨wc.heap.size, 0, none⟩) 0 0) 0 [] rfl oc.out (by first | exact hBo.out.size | (simp; done) | (have := hBo.out.size; simp; omega) | (simp; omega)) (some ⟨g, 0, none⟩) k c (xs.take (k * 5)) rfl (by first | (rw [List.length_take, hx.out, Nat.min_eq_left (Nat.mul_le_mul_right 5 hk)]; done) | simp) (hrt.out.below (by repeat (with_reducible (first | exact Below.refl _ _ | apply bl_alloc | apply Below.drew)))) (fun e => by cases e) (fun u hu => hoc.out u (List.mem_of_mem_take hu)) (by omega) ?_
            intro v1 w1 ho1 hb1 hg1 hat1
            replace ho1 := Lib.hid ho1
            replace hg1 := Lib.hid hg1
            have hBo := Lib.hid (show Below wc.heap.size wc w1 from Below.trans (by repeat (with_reducible (first | exact hBo.out | exact Below.refl _ _ | apply bl_alloc | apply Below.drew))) hb1)
            clear hat1 hb1
            refine hK.out _ _ (by exact hBo.out) (fun hHeld => ?_)
            clear hK K
            try simp only [Act.put, sA, sB, sC]
            refine wpAnyH_readyR (rs := [6]) hops rdX6_9 (by simp) (AllReadyH.consR rfl stX6_11 (fun K hK => ?_) AllReadyH.nil)
            go_simp
            refine hK.out _ _ (by exact bl_alloc hBo.out _) (fun hHeld => ?_)
            clear hK K
            try simp only [Act.put, sA, sB, sC]
            refine wpAnyH_readyR (rs := [7]) hops rdX6_10 (by simp) (AllReadyH.consR rfl stX6_12 (fun K hK => ?_) AllReadyH.nil)
            refine step_app wc.heap.size rfl _ _ 44 86 (.agg #[.string ⟨#[]⟩, .string ⟨#[]⟩, .int .i64 0, .string ⟨#[]⟩, .int .i64 0]) 5 64 rfl Try.underlying44 info86 rfl (by decide) (by decide) v1 (0 + k) ([] ++ xs.take (k * 5)) rfl (own_below ho1.out (by repeat (with_reducible (first | exact Below.refl _ _ | apply bl_alloc | apply Below.drew)))) (by first | exact hBo.out.size | (simp; done) | (have := hBo.out.size; simp; omega) | (simp; omega)) (some ⟨w1.heap.size, 0, none⟩) 1 1 [.string v, .string f1, .int .i64 n1, .string f2, .int .i64 n2] rfl rfl (rd_new w1 [.string v, .string f1, .int .i64 n1, .string f2, .int .i64 n2] 86) (fun e => by cases e) (by simp [Value.oneCell']) (by omega) ?_
            intro v2 w2 ho2 hb2 hg2 hat2
            replace ho2 := Lib.hid ho2
            replace hg2 := Lib.hid hg2
            have hBo := Lib.hid (show Below wc.heap.size wc w2 from Below.trans (by repeat (with_reducible (first | exact hBo.out | exact Below.refl _ _ | apply bl_alloc | apply Below.drew))) hb2)
            clear hat2 hb2
            refine hK.out _ _ (by exact hBo.out) (fun hHeld => ?_)
            clear hK K
            try simp only [Act.put, sA, sB, sC]
            refine wpAnyH_readyR (rs := [11]) hops rdX6_11 (by simp) (AllReadyH.consR rfl stX6_13 (fun K hK => ?_) AllReadyH.nil)
            refine step_app wc.heap.size rfl _ _ 44 86 (.agg #[.string ⟨#[]⟩, .string ⟨#[]⟩, .int .i64 0, .string ⟨#[]⟩, .int .i64 0]) 5 64 rfl Try.underlying44 info86 rfl (by decide) (by decide) v2 (0 + k + 1) ([] ++ xs.take (k * 5) ++ [.string v, .string f1, .int .i64 n1, .string f2, .int .i64 n2]) rfl ho2.out (by first | exact hBo.out.size | (simp; done) | (have := hBo.out.size; simp; omega) | (simp; omega)) (if c = k then some ⟨g, 0, none⟩ else some ⟨g, k * 5, none⟩) (n - k) (c - k) (xs.drop (k * 5)) rfl (by have := hx.out; simp only [List.length_drop]; omega) (hrd.out.below hBo.out) (fun e => by split at e <;> cases e) (fun u hu => hoc.out u (List.mem_of_mem_drop hu)) (by omega) ?_
            intro v3 w3 ho3 hb3 hg3 hat3
            replace ho3 := Lib.hid ho3
            replace hg3 := Lib.hid hg3
            have hBo := Lib.hid (show Below wc.heap.size wc w3 from Below.trans (by repeat (with_reducible (first | exact hBo.out | exact Below.refl _ _ | apply bl_alloc | apply Below.drew))) hb3)
            clear hat3 hb3
            refine hK.out _ _ (by exact hBo.out) (fun hHeld => ?_)
            clear hK K
            try simp only [Act.put, sA, sB, sC]
            refine wpAnyH_oneR (i := 12) (v := ?vX6b_8) hops rdX6_12 rfl stX6_14 (Or.inl ⟨by kernel_rfl, ?hyX6b_8⟩) (by assumption) ?restX6b_8
            case hyX6b_8 => (intro w hSw; go_simp; (try with_reducible rfl))
            try simp only [Act.put, sA, sB, sC]
            refine wpAnyH_doneR hops rdX6_13 ?_
            have hsl := Lib.hid (SlRc.own ho3.out (by simpa [List.append_assoc] using hfin.out))
            go_wp2_with fail
            all_goals (first | go_ret | go_end0)
            all_goals exact ⟨_, _, rfl, by omega, by omega, hsl.out, .inr (fun b h => Nat.le_trans hB.out.size (ho3.out.lt b h).1), bl_then hB.out hB.out.size hBo.out⟩
          · skip
            go_simp
            refine hK.out _ _ (by repeat (with_reducible (first | assumption | exact hBo.out | exact Below.refl _ _ | apply bl_alloc | apply Below.drew))) (fun hHeld => ?_)
            clear hK K
            try simp only [Act.put, sA, sB, sC]
            refine wpAnyH_readyR (rs := [4]) hops rdX6_14 (by simp) (AllReadyH.consR rfl stX6_15 (fun K hK => ?_) AllReadyH.nil)
            refine step_app wc.heap.size rfl _ _ 44 86 (.agg #[.string ⟨#[]⟩, .string ⟨#[]⟩, .int .i64 0, .string ⟨#[]⟩, .int .i64 0]) 5 64 rfl Try.underlying44 info86 rfl (by decide) (by decide) (.slice (some ⟨wc.heap.size, 0, none⟩) 0 0) 0 [] rfl oa.out (by first | exact hBo.out.size | (simp; done) | (have := hBo.out.size; simp; omega) | (simp; omega)) (some ⟨g, 0, none⟩) k c (xs.take (k * 5)) rfl (by first | (rw [List.length_take, hx.out, Nat.min_eq_left (Nat.mul_le_mul_right 5 hk)]; done) | simp) (hrt.out.below (by repeat (with_reducible (first | exact Below.refl _ _ | apply bl_alloc | apply Below.drew)))) (fun e => by cases e) (fun u hu => hoc.out u (List.mem_of_mem_take hu)) (by omega) ?_
            intro v1 w1 ho1 hb1 hg1 hat1
            replace ho1 := Lib.hid ho1
            replace hg1 := Lib.hid hg1
            have hBo := Lib.hid (show Below wc.heap.size wc w1 from Below.trans (by repeat (with_reducible (first | exact hBo.out | exact Below.refl _ _ | apply bl_alloc | apply Below.drew))) hb1)
            clear hat1 hb1
            refine hK.out _ _ (by exact hBo.out) (fun hHeld => ?_)
            clear hK K
            try simp only [Act.put, sA, sB, sC]
            have hS1 := Lib.hid (rd_row (xs := [.string v, .string f1, .int .i64 n1, .string f2, .int .i64 n2]) (t := 86) ((hg1.out.block (wc.heap.size + 1) (by show wc.heap.size + 1 < ((wc.alloc _).alloc _).heap.size; rw [World.size_alloc, World.size_alloc]; omega) (by intro e; simp only [Value.ownBlock, Option.some.injEq] at e; omega)).trans (row_n2 wc _ _)))
            refine wpAnyH_readyR (rs := [7]) hops rdX6_10 (by simp) (AllReadyH.consR rfl stX6_12 (fun K hK => ?_) AllReadyH.nil)
            refine step_app wc.heap.size rfl _ _ 44 86 (.agg #[.string ⟨#[]⟩, .string ⟨#[]⟩, .int .i64 0, .string ⟨#[]⟩, .int .i64 0]) 5 64 rfl Try.underlying44 info86 rfl (by decide) (by decide) v1 (0 + k) ([] ++ xs.take (k * 5)) rfl ho1.out (by first | exact hBo.out.size | (simp; done) | (have := hBo.out.size; simp; omega) | (simp; omega)) (some ⟨wc.heap.size + 1, 0, none⟩) 1 1 [.string v, .string f1, .int .i64 n1, .string f2, .int .i64 n2] rfl rfl hS1.out (fun e => by cases e) (by simp [Value.oneCell']) (by omega) ?_
            intro v2 w2 ho2 hb2 hg2 hat2
            replace ho2 := Lib.hid ho2
            replace hg2 := Lib.hid hg2
            have hBo := Lib.hid (show Below wc.heap.size wc w2 from Below.trans (by repeat (with_reducible (first | exact hBo.out | exact Below.refl _ _ | apply bl_alloc | apply Below.drew))) hb2)
            clear hat2 hb2
            refine hK.out _ _ (by exact hBo.out) (fun hHeld => ?_)
            clear hK K
            try simp only [Act.put, sA, sB, sC]
            refine wpAnyH_readyR (rs := [11]) hops rdX6_11 (by simp) (AllReadyH.consR rfl stX6_13 (fun K hK => ?_) AllReadyH.nil)
            refine step_app wc.heap.size rfl _ _ 44 86 (.agg #[.string ⟨#[]⟩, .string ⟨#[]⟩, .int .i64 0, .string ⟨#[]⟩, .int .i64 0]) 5 64 rfl Try.underlying44 info86 rfl (by decide) (by decide) v2 (0 + k + 1) ([] ++ xs.take (k * 5) ++ [.string v, .string f1, .int .i64 n1, .string f2, .int .i64 n2]) rfl ho2.out (by first | exact hBo.out.size | (simp; done) | (have := hBo.out.size; simp; omega) | (simp; omega)) (if c = k then some ⟨g, 0, none⟩ else some ⟨g, k * 5, none⟩) (n - k) (c - k) (xs.drop (k * 5)) rfl (by have := hx.out; simp only [List.length_drop]; omega) (hrd.out.below hBo.out) (fun e => by split at e <;> cases e) (fun u hu => hoc.out u (List.mem_of_mem_drop hu)) (by omega) ?_
            intro v3 w3 ho3 hb3 hg3 hat3
            replace ho3 := Lib.hid ho3
            replace hg3 := Lib.hid hg3
            have hBo := Lib.hid (show Below wc.heap.size wc w3 from Below.trans (by repeat (with_reducible (first | exact hBo.out | exact Below.refl _ _ | apply bl_alloc | apply Below.drew))) hb3)
            clear hat3 hb3
            refine hK.out _ _ (by exact hBo.out) (fun hHeld => ?_)
            clear hK K
            try simp only [Act.put, sA, sB, sC]
            refine wpAnyH_oneR (i := 12) (v := ?vX6b_9) hops rdX6_12 rfl stX6_14 (Or.inl ⟨by kernel_rfl, ?hyX6b_9⟩) (by assumption) ?restX6b_9
            case hyX6b_9 => (intro w hSw; go_simp; (try with_reducible rfl))
            try simp only [Act.put, sA, sB, sC]
            refine wpAnyH_doneR hops rdX6_13 ?_
            have hsl := Lib.hid (SlRc.own ho3.out (by simpa [List.append_assoc] using hfin.out))
            go_wp2_with fail
            all_goals (first | go_ret | go_end0)
            all_goals exact ⟨_, _, rfl, by omega, by omega, hsl.out, .inr (fun b h => Nat.le_trans hB.out.size (ho3.out.lt b h).1), bl_then hB.out hB.out.size hBo.out⟩
        · skip
          go_simp
          refine hK.out _ _ (by repeat (with_reducible (first | assumption | exact hBo.out | exact Below.refl _ _ | apply bl_alloc | apply Below.drew))) (fun hHeld => ?_)
          clear hK K
          try simp only [Act.put, sA, sB, sC]
          refine wpAnyH_readyR (rs := [0]) hops rdX6_15 (by simp) (AllReadyH.consR rfl stX6_16 (fun K hK => ?_) AllReadyH.nil)
          go_simp
          refine hK.out _ _ (by repeat (with_reducible (first | assumption | exact hBo.out | exact Below.refl _ _ | apply bl_alloc | apply Below.drew))) (fun hHeld => ?_)
          clear hK K
          try simp only [Act.put, sA, sB, sC]
          refine wpAnyH_readyR (rs := [4]) hops rdX6_14 (by simp) (AllReadyH.consR rfl stX6_15 (fun K hK => ?_) AllReadyH.nil)
          refine step_app wc.heap.size rfl _ _ 44 86 (.agg #[.string ⟨#[]⟩, .string ⟨#[]⟩, .int .i64 0, .string ⟨#[]⟩, .int .i64 0]) 5 64 rfl Try.underlying44 info86 rfl (by decide) (by decide) (.slice (some ⟨wc.heap.size + 1, 0, none⟩) 0 0) 0 [] rfl ob.out (by first | exact hBo.out.size | (simp; done) | (have := hBo.out.size; simp; omega) | (simp; omega)) (some ⟨g, 0, none⟩) k c (xs.take (k * 5)) rfl (by first | (rw [List.length_take, hx.out, Nat.min_eq_left (Nat.mul_le_mul_right 5 hk)]; done) | simp) (hrt.out.below (by repeat (with_reducible (first | exact Below.refl _ _ | apply bl_alloc | apply Below.drew)))) (fun e => by cases e) (fun u hu => hoc.out u (List.mem_of_mem_take hu)) (by omega) ?_
          intro v1 w1 ho1 hb1 hg1 hat1
          replace ho1 := Lib.hid ho1
          replace hg1 := Lib.hid hg1
          have hBo := Lib.hid (show Below wc.heap.size wc w1 from Below.trans (by repeat (with_reducible (first | exact hBo.out | exact Below.refl _ _ | apply bl_alloc | apply Below.drew))) hb1)
          clear hat1 hb1
          refine hK.out _ _ (by exact hBo.out) (fun hHeld => ?_)
          clear hK K
          try simp only [Act.put, sA, sB, sC]
          have hS2 := Lib.hid (rd_row (xs := [.string v, .string f1, .int .i64 n1, .string f2, .int .i64 n2]) (t := 86) ((hg1.out.block wc.heap.size (by show wc.heap.size < ((wc.alloc _).alloc _).heap.size; rw [World.size_alloc, World.size_alloc]; omega) (by intro e; simp only [Value.ownBlock, Option.some.injEq] at e; omega)).trans (row_n1 wc _ _)))
          refine wpAnyH_readyR (rs := [7]) hops rdX6_10 (by simp) (AllReadyH.consR rfl stX6_12 (fun K hK => ?_) AllReadyH.nil)
          refine step_app wc.heap.size rfl _ _ 44 86 (.agg #[.string ⟨#[]⟩, .string ⟨#[]⟩, .int .i64 0, .string ⟨#[]⟩, .int .i64 0]) 5 64 rfl Try.underlying44 info86 rfl (by decide) (by decide) v1 (0 + k) ([] ++ xs.take (k * 5)) rfl ho1.out (by first | exact hBo.out.size | (simp; done) | (have := hBo.out.size; simp; omega) | (simp; omega)) (some ⟨wc.heap.size, 0, none⟩) 1 1 [.string v, .string f1, .int .i64 n1, .string f2, .int .i64 n2] rfl rfl hS2.out (fun e => by cases e) (by simp [Value.oneCell']) (by omega) ?_
          intro v2 w2 ho2 hb2 hg2 hat2
          replace ho2 := Lib.hid ho2
          replace hg2 := Lib.hid hg2
          have hBo := Lib.hid (show Below wc.heap.size wc w2 from Below.trans (by repeat (with_reducible (first | exact hBo.out | exact Below.refl _ _ | apply bl_alloc | apply Below.drew))) hb2)
          clear hat2 hb2
          refine hK.out _ _ (by exact hBo.out) (fun hHeld => ?_)
          clear hK K
          try simp only [Act.put, sA, sB, sC]
          refine wpAnyH_readyR (rs := [11]) hops rdX6_11 (by simp) (AllReadyH.consR rfl stX6_13 (fun K hK => ?_) AllReadyH.nil)
          refine step_app wc.heap.size rfl _ _ 44 86 (.agg #[.string ⟨#[]⟩, .string ⟨#[]⟩, .int .i64 0, .string ⟨#[]⟩, .int .i64 0]) 5 64 rfl Try.underlying44 info86 rfl (by decide) (by decide) v2 (0 + k + 1) ([] ++ xs.take (k * 5) ++ [.string v, .string f1, .int .i64 n1, .string f2, .int .i64 n2]) rfl ho2.out (by first | exact hBo.out.size | (simp; done) | (have := hBo.out.size; simp; omega) | (simp; omega)) (if c = k then some ⟨g, 0, none⟩ else some ⟨g, k * 5, none⟩) (n - k) (c - k) (xs.drop (k * 5)) rfl (by have := hx.out; simp only [List.length_drop]; omega) (hrd.out.below hBo.out) (fun e => by split at e <;> cases e) (fun u hu => hoc.out u (List.mem_of_mem_drop hu)) (by omega) ?_
          intro v3 w3 ho3 hb3 hg3 hat3
          replace ho3 := Lib.hid ho3
          replace hg3 := Lib.hid hg3
          have hBo := Lib.hid (show Below wc.heap.size wc w3 from Below.trans (by repeat (with_reducible (first | exact hBo.out | exact Below.refl _ _ | apply bl_alloc | apply Below.drew))) hb3)
          clear hat3 hb3
          refine hK.out _ _ (by exact hBo.out) (fun hHeld => ?_)
          clear hK K
          try simp only [Act.put, sA, sB, sC]
          refine wpAnyH_oneR (i := 12) (v := ?vX6b_10) hops rdX6_12 rfl stX6_14 (Or.inl ⟨by kernel_rfl, ?hyX6b_10⟩) (by assumption) ?restX6b_10
          case hyX6b_10 => (intro w hSw; go_simp; (try with_reducible rfl))
          try simp only [Act.put, sA, sB, sC]
          refine wpAnyH_doneR hops rdX6_13 ?_
          have hsl := Lib.hid (SlRc.own ho3.out (by simpa [List.append_assoc] using hfin.out))
          go_wp2_with fail
          all_goals (first | go_ret | go_end0)
          all_goals exact ⟨_, _, rfl, by omega, by omega, hsl.out, .inr (fun b h => Nat.le_trans hB.out.size (ho3.out.lt b h).1), bl_then hB.out hB.out.size hBo.out⟩
      | none =>
        obtain ⟨hn0, rfl⟩ := hA.out rfl
        subst hn0
        obtain rfl : k = 0 := hkn'.out
        have hrt : Hid (Rd wc none (xs.take (0 * 5))) := Lib.hid ((hr.out.below hB.out).take _)
        have hrd : Hid (Rd wc none (xs.drop (0 * 5))) := Lib.hid (by
          rw [List.drop_of_length_le (by rw [hx.out]; omega)]; exact Rd.nil _ _)
        go_upto_region 6 with fail
        refine wp_region_heldR (S := fun w' => Below wc.heap.size wc w') opsX6 _ (by kernel_rfl) liX6 (by kernel_rfl) nsX6 ((Below.refl wc.heap.size wc).drew) (fun hops hns hHeld => ?_)
        refine wpAnyH_takeR (i := 1) (v := ?vX6c_1) hops hns rdX6_0 (by rfl) frX6_0 rfl (fun _ _ _ h => h) stX6_0 (Or.inl ⟨by kernel_rfl, ?hyX6c_1⟩) (by assumption) ?restX6c_1
        case hyX6c_1 => (intro w hSw; go_simp; (try with_reducible rfl))
        try simp only [Act.put, sA, sB, sC]
        refine wpAnyH_takeR (i := 2) (v := ?vX6c_2) hops hns rdX6_1 (by rfl) frX6_1 rfl (fun _ _ _ h => h) stX6_1 (Or.inl ⟨by kernel_rfl, ?hyX6c_2⟩) (by assumption) ?restX6c_2
        case hyX6c_2 => (intro w hSw; go_simp; (try with_reducible rfl))
        try simp only [Act.put, sA, sB, sC]
        refine wpAnyH_takeR (i := 3) (v := ?vX6c_3) hops hns rdX6_2 (by rfl) frX6_2 rfl (fun _ _ _ h => h) stX6_2 (Or.inl ⟨by kernel_rfl, ?hyX6c_3⟩) (by assumption) ?restX6c_3
        case hyX6c_3 => (intro w hSw; go_simp; (try with_reducible rfl))
        try simp only [Act.put, sA, sB, sC]
        refine wpAnyH_takeR (i := 5) (v := ?vX6c_4) hops hns rdX6_3 (by rfl) frX6_3 rfl (fun _ _ _ h => h) stX6_3 (Or.inl ⟨by kernel_rfl, ?hyX6c_4⟩) (by assumption) ?restX6c_4
        case hyX6c_4 => (intro w hSw; obtain ⟨x0, x1, x2, x3, x4⟩ := hrr.out _ (bl_row hSw hR.out); clear hSw; go_simp; (try with_reducible rfl))
        try simp only [Act.put, sA, sB, sC]
        refine wpAnyH_takeR (i := 8) (v := ?vX6c_5) hops hns rdX6_4 (by rfl) frX6_4 rfl (fun _ _ _ h => h) stX6_4 (Or.inl ⟨by kernel_rfl, ?hyX6c_5⟩) (by assumption) ?restX6c_5
        case hyX6c_5 => (intro w hSw; go_simp; (try with_reducible rfl))
        try simp only [Act.put, sA, sB, sC]
        refine wpAnyH_takeR (i := 9) (v := ?vX6c_6) hops hns rdX6_5 (by rfl) frX6_5 rfl (fun _ _ _ h => h) stX6_5 (Or.inl ⟨by kernel_rfl, ?hyX6c_6⟩) (by assumption) ?restX6c_6
        case hyX6c_6 => (intro w hSw; go_simp; (try with_reducible rfl))
        try simp only [Act.put, sA, sB, sC]
        refine wpAnyH_takeR (i := 10) (v := ?vX6c_7) hops hns rdX6_6 (by rfl) frX6_6 rfl (fun _ _ _ h => h) stX6_6 (Or.inl ⟨by kernel_rfl, ?hyX6c_7⟩) (by assumption) ?restX6c_7
        case hyX6c_7 => (intro w hSw; go_simp; (try with_reducible rfl))
        try simp only [Act.put, sA, sB, sC]
        refine wpAnyH_readyR (rs := [0, 6]) hops rdX6_7 (by simp) (AllReadyH.consR rfl stX6_8 (fun K hK => ?_) (AllReadyH.consR rfl stX6_7 (fun K hK => ?_) AllReadyH.nil))
        · skip
          go_simp
          refine hK.out _ _ (by repeat (with_reducible (first | assumption | exact hBo.out | exact Below.refl _ _ | apply bl_alloc | apply Below.drew))) (fun hHeld => ?_)
          clear hK K
          try simp only [Act.put, sA, sB, sC]
          refine wpAnyH_readyR (rs := [4, 6]) hops rdX6_8 (by simp) (AllReadyH.consR rfl stX6_10 (fun K hK => ?_) (AllReadyH.consR rfl stX6_9 (fun K hK => ?_) AllReadyH.nil))
          · skip
            refine step_app wc.heap.size rfl _ _ 44 86 (.agg #[.string ⟨#[]⟩, .string ⟨#[]⟩, .int .i64 0, .string ⟨#[]⟩, .int .i64 0]) 5 64 rfl Try.underlying44 info86 rfl (by decide) (by decide) (.slice (some ⟨wc.heap.size, 0, none⟩) 0 0) 0 [] rfl oc.out (by first | exact hBo.out.size | (simp; done) | (have := hBo.out.size; simp; omega) | (simp; omega)) none 0 0 (xs.take (0 * 5)) rfl (by first | (rw [List.length_take, hx.out, Nat.min_eq_left (Nat.mul_le_mul_right 5 hk)]; done) | simp) (hrt.out.below (by repeat (with_reducible (first | exact Below.refl _ _ | apply bl_alloc | apply Below.drew)))) (fun _ => ⟨rfl, rfl⟩) (fun u hu => hoc.out u (List.mem_of_mem_take hu)) (by omega) ?_
            intro v1 w1 ho1 hb1 hg1 hat1
            replace ho1 := Lib.hid ho1
            replace hg1 := Lib.hid hg1
            have hBo := Lib.hid (show Below wc.heap.size wc w1 from Below.trans (by repeat (with_reducible (first | exact hBo.out | exact Below.refl _ _ | apply bl_alloc | apply Below.drew))) hb1)
            clear hat1 hb1
            refine hK.out _ _ (by exact hBo.out) (fun hHeld => ?_)
            clear hK K
            try simp only [Act.put, sA, sB, sC]
            refine wpAnyH_readyR (rs := [6]) hops rdX6_9 (by simp) (AllReadyH.consR rfl stX6_11 (fun K hK => ?_) AllReadyH.nil)
            go_simp
            refine hK.out _ _ (by exact bl_alloc hBo.out _) (fun hHeld => ?_)
            clear hK K
            try simp only [Act.put, sA, sB, sC]
            refine wpAnyH_readyR (rs := [7]) hops rdX6_10 (by simp) (AllReadyH.consR rfl stX6_12 (fun K hK => ?_) AllReadyH.nil)
            refine step_app wc.heap.size rfl _ _ 44 86 (.agg #[.string ⟨#[]⟩, .string ⟨#[]⟩, .int .i64 0, .string ⟨#[]⟩, .int .i64 0]) 5 64 rfl Try.underlying44 info86 rfl (by decide) (by decide) v1 (0 + 0) ([] ++ xs.take (0 * 5)) rfl (own_below ho1.out (by repeat (with_reducible (first | exact Below.refl _ _ | apply bl_alloc | apply Below.drew)))) (by first | exact hBo.out.size | (simp; done) | (have := hBo.out.size; simp; omega) | (simp; omega)) (some ⟨w1.heap.size, 0, none⟩) 1 1 [.string v, .string f1, .int .i64 n1, .string f2, .int .i64 n2] rfl rfl (rd_new w1 [.string v, .string f1, .int .i64 n1, .string f2, .int .i64 n2] 86) (fun e => by cases e) (by simp [Value.oneCell']) (by omega) ?_
            intro v2 w2 ho2 hb2 hg2 hat2
            replace ho2 := Lib.hid ho2
            replace hg2 := Lib.hid hg2
            have hBo := Lib.hid (show Below wc.heap.size wc w2 from Below.trans (by repeat (with_reducible (first | exact hBo.out | exact Below.refl _ _ | apply bl_alloc | apply Below.drew))) hb2)
            clear hat2 hb2
            refine hK.out _ _ (by exact hBo.out) (fun hHeld => ?_)
            clear hK K
            try simp only [Act.put, sA, sB, sC]
            refine wpAnyH_readyR (rs := [11]) hops rdX6_11 (by simp) (AllReadyH.consR rfl stX6_13 (fun K hK => ?_) AllReadyH.nil)
            refine step_app wc.heap.size rfl _ _ 44 86 (.agg #[.string ⟨#[]⟩, .string ⟨#[]⟩, .int .i64 0, .string ⟨#[]⟩, .int .i64 0]) 5 64 rfl Try.underlying44 info86 rfl (by decide) (by decide) v2 (0 + 0 + 1) ([] ++ xs.take (0 * 5) ++ [.string v, .string f1, .int .i64 n1, .string f2, .int .i64 n2]) rfl ho2.out (by first | exact hBo.out.size | (simp; done) | (have := hBo.out.size; simp; omega) | (simp; omega)) none 0 0 (xs.drop (0 * 5)) rfl (by have := hx.out; simp only [List.length_drop]; omega) (hrd.out.below hBo.out) (fun _ => ⟨rfl, rfl⟩) (fun u hu => hoc.out u (List.mem_of_mem_drop hu)) (by omega) ?_
            intro v3 w3 ho3 hb3 hg3 hat3
            replace ho3 := Lib.hid ho3
            replace hg3 := Lib.hid hg3
            have hBo := Lib.hid (show Below wc.heap.size wc w3 from Below.trans (by repeat (with_reducible (first | exact hBo.out | exact Below.refl _ _ | apply bl_alloc | apply Below.drew))) hb3)
            clear hat3 hb3
            refine hK.out _ _ (by exact hBo.out) (fun hHeld => ?_)
            clear hK K
            try simp only [Act.put, sA, sB, sC]
            refine wpAnyH_oneR (i := 12) (v := ?vX6c_8) hops rdX6_12 rfl stX6_14 (Or.inl ⟨by kernel_rfl, ?hyX6c_8⟩) (by assumption) ?restX6c_8
            case hyX6c_8 => (intro w hSw; go_simp; (try with_reducible rfl))
            try simp only [Act.put, sA, sB, sC]
            refine wpAnyH_doneR hops rdX6_13 ?_
            have hsl := Lib.hid (SlRc.own ho3.out (by simpa [List.append_assoc] using hfin.out))
            go_wp2_with fail
            all_goals (first | go_ret | go_end0)
            all_goals exact ⟨_, _, rfl, by omega, by omega, hsl.out, .inr (fun b h => Nat.le_trans hB.out.size (ho3.out.lt b h).1), bl_then hB.out hB.out.size hBo.out⟩
          · skip
            go_simp
            refine hK.out _ _ (by repeat (with_reducible (first | assumption | exact hBo.out | exact Below.refl _ _ | apply bl_alloc | apply Below.drew))) (fun hHeld => ?_)
            clear hK K
            try simp only [Act.put, sA, sB, sC]
            refine wpAnyH_readyR (rs := [4]) hops rdX6_14 (by simp) (AllReadyH.consR rfl stX6_15 (fun K hK => ?_) AllReadyH.nil)
            refine step_app wc.heap.size rfl _ _ 44 86 (.agg #[.string ⟨#[]⟩, .string ⟨#[]⟩, .int .i64 0, .string ⟨#[]⟩, .int .i64 0]) 5 64 rfl Try.underlying44 info86 rfl (by decide) (by decide) (.slice (some ⟨wc.heap.size, 0, none⟩) 0 0) 0 [] rfl oa.out (by first | exact hBo.out.size | (simp; done) | (have := hBo.out.size; simp; omega) | (simp; omega)) none 0 0 (xs.take (0 * 5)) rfl (by first | (rw [List.length_take, hx.out, Nat.min_eq_left (Nat.mul_le_mul_right 5 hk)]; done) | simp) (hrt.out.below (by repeat (with_reducible (first | exact Below.refl _ _ | apply bl_alloc | apply Below.drew)))) (fun _ => ⟨rfl, rfl⟩) (fun u hu => hoc.out u (List.mem_of_mem_take hu)) (by omega) ?_
            intro v1 w1 ho1 hb1 hg1 hat1
            replace ho1 := Lib.hid ho1
            replace hg1 := Lib.hid hg1
            have hBo := Lib.hid (show Below wc.heap.size wc w1 from Below.trans (by repeat (with_reducible (first | exact hBo.out | exact Below.refl _ _ | apply bl_alloc | apply Below.drew))) hb1)
            clear hat1 hb1
            refine hK.out _ _ (by exact hBo.out) (fun hHeld => ?_)
            clear hK K
            try simp only [Act.put, sA, sB, sC]
            have hS1 := Lib.hid (rd_row (xs := [.string v, .string f1, .int .i64 n1, .string f2, .int .i64 n2]) (t := 86) ((hg1.out.block (wc.heap.size + 1) (by show wc.heap.size + 1 < ((wc.alloc _).alloc _).heap.size; rw [World.size_alloc, World.size_alloc]; omega) (by intro e; simp only [Value.ownBlock, Option.some.injEq] at e; omega)).trans (row_n2 wc _ _)))
            refine wpAnyH_readyR (rs := [7]) hops rdX6_10 (by simp) (AllReadyH.consR rfl stX6_12 (fun K hK => ?_) AllReadyH.nil)
            refine step_app wc.heap.size rfl _ _ 44 86 (.agg #[.string ⟨#[]⟩, .string ⟨#[]⟩, .int .i64 0, .string ⟨#[]⟩, .int .i64 0]) 5 64 rfl Try.underlying44 info86 rfl (by decide) (by decide) v1 (0 + 0) ([] ++ xs.take (0 * 5)) rfl ho1.out (by first | exact hBo.out.size | (simp; done) | (have := hBo.out.size; simp; omega) | (simp; omega)) (some ⟨wc.heap.size + 1, 0, none⟩) 1 1 [.string v, .string f1, .int .i64 n1, .string f2, .int .i64 n2] rfl rfl hS1.out (fun e => by cases e) (by simp [Value.oneCell']) (by omega) ?_
            intro v2 w2 ho2 hb2 hg2 hat2
            replace ho2 := Lib.hid ho2
            replace hg2 := Lib.hid hg2
            have hBo := Lib.hid (show Below wc.heap.size wc w2 from Below.trans (by repeat (with_reducible (first | exact hBo.out | exact Below.refl _ _ | apply bl_alloc | apply Below.drew))) hb2)
            clear hat2 hb2
            refine hK.out _ _ (by exact hBo.out) (fun hHeld => ?_)
            clear hK K
            try simp only [Act.put, sA, sB, sC]
            refine wpAnyH_readyR (rs := [11]) hops rdX6_11 (by simp) (AllReadyH.consR rfl stX6_13 (fun K hK => ?_) AllReadyH.nil)
            refine step_app wc.heap.size rfl _ _ 44 86 (.agg #[.string ⟨#[]⟩, .string ⟨#[]⟩, .int .i64 0, .string ⟨#[]⟩, .int .i64 0]) 5 64 rfl Try.underlying44 info86 rfl (by decide) (by decide) v2 (0 + 0 + 1) ([] ++ xs.take (0 * 5) ++ [.string v, .string f1, .int .i64 n1, .string f2, .int .i64 n2]) rfl ho2.out (by first | exact hBo.out.size | (simp; done) | (have := hBo.out.size; simp; omega) | (simp; omega)) none 0 0 (xs.drop (0 * 5)) rfl (by have := hx.out; simp only [List.length_drop]; omega) (hrd.out.below hBo.out) (fun _ => ⟨rfl, rfl⟩) (fun u hu => hoc.out u (List.mem_of_mem_drop hu)) (by omega) ?_
            intro v3 w3 ho3 hb3 hg3 hat3
            replace ho3 := Lib.hid ho3
            replace hg3 := Lib.hid hg3
            have hBo := Lib.hid (show Below wc.heap.size wc w3 from Below.trans (by repeat (with_reducible (first | exact hBo.out | exact Below.refl _ _ | apply bl_alloc | apply Below.drew))) hb3)
            clear hat3 hb3
            refine hK.out _ _ (by exact hBo.out) (fun hHeld => ?_)
            clear hK K
            try simp only [Act.put, sA, sB, sC]
            refine wpAnyH_oneR (i := 12) (v := ?vX6c_9) hops rdX6_12 rfl stX6_14 (Or.inl ⟨by kernel_rfl, ?hyX6c_9⟩) (by assumption) ?restX6c_9
            case hyX6c_9 => (intro w hSw; go_simp; (try with_reducible rfl))
            try simp only [Act.put, sA, sB, sC]
            refine wpAnyH_doneR hops rdX6_13 ?_
            have hsl := Lib.hid (SlRc.own ho3.out (by simpa [List.append_assoc] using hfin.out))
            go_wp2_with fail
            all_goals (first | go_ret | go_end0)
            all_goals exact ⟨_, _, rfl, by omega, by omega, hsl.out, .inr (fun b h => Nat.le_trans hB.out.size (ho3.out.lt b h).1), bl_then hB.out hB.out.size hBo.out⟩
        · skip
          go_simp
          refine hK.out _ _ (by repeat (with_reducible (first | assumption | exact hBo.out | exact Below.refl _ _ | apply bl_alloc | apply Below.drew))) (fun hHeld => ?_)
          clear hK K
          try simp only [Act.put, sA, sB, sC]
          refine wpAnyH_readyR (rs := [0]) hops rdX6_15 (by simp) (AllReadyH.consR rfl stX6_16 (fun K hK => ?_) AllReadyH.nil)
          go_simp
          refine hK.out _ _ (by repeat (with_reducible (first | assumption | exact hBo.out | exact Below.refl _ _ | apply bl_alloc | apply Below.drew))) (fun hHeld => ?_)
          clear hK K
          try simp only [Act.put, sA, sB, sC]
          refine wpAnyH_readyR (rs := [4]) hops rdX6_14 (by simp) (AllReadyH.consR rfl stX6_15 (fun K hK => ?_) AllReadyH.nil)
          refine step_app wc.heap.size rfl _ _ 44 86 (.agg #[.string ⟨#[]⟩, .string ⟨#[]⟩, .int .i64 0, .string ⟨#[]⟩, .int .i64 0]) 5 64 rfl Try.underlying44 info86 rfl (by decide) (by decide) (.slice (some ⟨wc.heap.size + 1, 0, none⟩) 0 0) 0 [] rfl ob.out (by first | exact hBo.out.size | (simp; done) | (have := hBo.out.size; simp; omega) | (simp; omega)) none 0 0 (xs.take (0 * 5)) rfl (by first | (rw [List.length_take, hx.out, Nat.min_eq_left (Nat.mul_le_mul_right 5 hk)]; done) | simp) (hrt.out.below (by repeat (with_reducible (first | exact Below.refl _ _ | apply bl_alloc | apply Below.drew)))) (fun _ => ⟨rfl, rfl⟩) (fun u hu => hoc.out u (List.mem_of_mem_take hu)) (by omega) ?_
          intro v1 w1 ho1 hb1 hg1 hat1
          replace ho1 := Lib.hid ho1
          replace hg1 := Lib.hid hg1
          have hBo := Lib.hid (show Below wc.heap.size wc w1 from Below.trans (by repeat (with_reducible (first | exact hBo.out | exact Below.refl _ _ | apply bl_alloc | apply Below.drew))) hb1)
          clear hat1 hb1
          refine hK.out _ _ (by exact hBo.out) (fun hHeld => ?_)
          clear hK K
          try simp only [Act.put, sA, sB, sC]
          have hS2 := Lib.hid (rd_row (xs := [.string v, .string f1, .int .i64 n1, .string f2, .int .i64 n2]) (t := 86) ((hg1.out.block wc.heap.size (by show wc.heap.size < ((wc.alloc _).alloc _).heap.size; rw [World.size_alloc, World.size_alloc]; omega) (by intro e; simp only [Value.ownBlock, Option.some.injEq] at e; omega)).trans (row_n1 wc _ _)))
          refine wpAnyH_readyR (rs := [7]) hops rdX6_10 (by simp) (AllReadyH.consR rfl stX6_12 (fun K hK => ?_) AllReadyH.nil)
          refine step_app wc.heap.size rfl _ _ 44 86 (.agg #[.string ⟨#[]⟩, .string ⟨#[]⟩, .int .i64 0, .string ⟨#[]⟩, .int .i64 0]) 5 64 rfl Try.underlying44 info86 rfl (by decide) (by decide) v1 (0 + 0) ([] ++ xs.take (0 * 5)) rfl ho1.out (by first | exact hBo.out.size | (simp; done) | (have := hBo.out.size; simp; omega) | (simp; omega)) (some ⟨wc.heap.size, 0, none⟩) 1 1 [.string v, .string f1, .int .i64 n1, .string f2, .int .i64 n2] rfl rfl hS2.out (fun e => by cases e) (by simp [Value.oneCell']) (by omega) ?_
          intro v2 w2 ho2 hb2 hg2 hat2
          replace ho2 := Lib.hid ho2
          replace hg2 := Lib.hid hg2
          have hBo := Lib.hid (show Below wc.heap.size wc w2 from Below.trans (by repeat (with_reducible (first | exact hBo.out | exact Below.refl _ _ | apply bl_alloc | apply Below.drew))) hb2)
          clear hat2 hb2
          refine hK.out _ _ (by exact hBo.out) (fun hHeld => ?_)
          clear hK K
          try simp only [Act.put, sA, sB, sC]
          refine wpAnyH_readyR (rs := [11]) hops rdX6_11 (by simp) (AllReadyH.consR rfl stX6_13 (fun K hK => ?_) AllReadyH.nil)
          refine step_app wc.heap.size rfl _ _ 44 86 (.agg #[.string ⟨#[]⟩, .string ⟨#[]⟩, .int .i64 0, .string ⟨#[]⟩, .int .i64 0]) 5 64 rfl Try.underlying44 info86 rfl (by decide) (by decide) v2 (0 + 0 + 1) ([] ++ xs.take (0 * 5) ++ [.string v, .string f1, .int .i64 n1, .string f2, .int .i64 n2]) rfl ho2.out (by first | exact hBo.out.size | (simp; done) | (have := hBo.out.size; simp; omega) | (simp; omega)) none 0 0 (xs.drop (0 * 5)) rfl (by have := hx.out; simp only [List.length_drop]; omega) (hrd.out.below hBo.out) (fun _ => ⟨rfl, rfl⟩) (fun u hu => hoc.out u (List.mem_of_mem_drop hu)) (by omega) ?_
          intro v3 w3 ho3 hb3 hg3 hat3
          replace ho3 := Lib.hid ho3
          replace hg3 := Lib.hid hg3
          have hBo := Lib.hid (show Below wc.heap.size wc w3 from Below.trans (by repeat (with_reducible (first | exact hBo.out | exact Below.refl _ _ | apply bl_alloc | apply Below.drew))) hb3)
          clear hat3 hb3
          refine hK.out _ _ (by exact hBo.out) (fun hHeld => ?_)
          clear hK K
          try simp only [Act.put, sA, sB, sC]
          refine wpAnyH_oneR (i := 12) (v := ?vX6c_10) hops rdX6_12 rfl stX6_14 (Or.inl ⟨by kernel_rfl, ?hyX6c_10⟩) (by assumption) ?restX6c_10
          case hyX6c_10 => (intro w hSw; go_simp; (try with_reducible rfl))
          try simp only [Act.put, sA, sB, sC]
          refine wpAnyH_doneR hops rdX6_13 ?_
          have hsl := Lib.hid (SlRc.own ho3.out (by simpa [List.append_assoc] using hfin.out))
          go_wp2_with fail
          all_goals (first | go_ret | go_end0)
          all_goals exact ⟨_, _, rfl, by omega, by omega, hsl.out, .inr (fun b h => Nat.le_trans hB.out.size (ho3.out.lt b h).1), bl_then hB.out hB.out.size hBo.out⟩
end Go.Proofs.Ytdhklfbelplbcaa
