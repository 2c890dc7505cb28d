/-
  f41 linked: an edge more.
-/
import Derived.Test.YtdhklfbelplbcaaZ13
import Derived.Test.YtdhklfbelplbcaaZ17
namespace Go.Proofs.Ytdhklfbelplbcaa
set_option linter.unusedVariables false
set_option linter.unusedSimpArgs false
open Go.RowKit
def LkPost (w : World) (v0 : Value) (m : Nat) (e : Ending) (w' : World) : Prop := ∃ v' es', e = .returned v' ∧ es'.length ≤ m + 1 ∧ SlEd w' v' es' ∧ Fr w.heap.size v0 v' ∧ Below w.heap.size w w'
set_option maxHeartbeats 64000000 in
set_option maxRecDepth 100000 in
theorem linked_any (v0 : Value) (es : List (ByteArray × ByteArray)) (a b : ByteArray) (w : World) (hs : SlEd w v0 es) (hlen : es.length ≤ 100000) :
    Calls Try.prog 41 #[v0, .agg #[.string a, .string b]] w (LkPost w v0 es.length) := by
  have hs' := Lib.hid hs
  obtain ⟨A, c, rfl, hnc, hcm, hA, hr, hpl⟩ := hs
  obtain ⟨n, hm⟩ : ∃ n, n = es.length := ⟨_, rfl⟩
  rw [← hm] at hnc hlen hA ⊢
  have hs2 : Hid (SlEd w (.slice A n c) es) := Lib.hid (by rw [hm]; exact hs'.out)
  clear hs'
  have hcel : Hid (∀ k, k < n → ∃ g ka kb, A = some ⟨g, 0, none⟩ ∧ ∀ w', Below w.heap.size w w' → (w'.cell? ⟨g, k * 2, none⟩ = some (.string ka) ∧ w'.cell? ⟨g, k * 2 + 1, none⟩ = some (.string kb))) := Lib.hid (fun k hk => by
    obtain ⟨g, e, c0, c1⟩ := SlEd.cells hr hpl (k := k) (by rw [← hm]; exact hk)
    exact ⟨g, _, _, e, fun w' hb => ⟨bl_cell hb c0, bl_cell hb c1⟩⟩)
  replace hr := Lib.hid hr
  replace hpl := Lib.hid hpl
  replace hA := Lib.hid hA
  replace hm := Lib.hid hm
  have hrow0 : Hid ((w.alloc (.cells #[.string a, .string b] 93)).heap[w.heap.size]? = some (.cells #[.string a, .string b] 93 (0, 0))) := Lib.hid (heap_alloc_new w _)
  have hrr : Hid (∀ w' : World, w'.heap[w.heap.size]? = some (.cells #[.string a, .string b] 93 (0, 0)) → (w'.cell? ⟨w.heap.size, 0, none⟩ = some (.string a) ∧ w'.cell? ⟨w.heap.size, 1, none⟩ = some (.string b))) := Lib.hid (fun w' h => by
    refine ⟨?_, ?_⟩ <;> (rw [cell_of_row _ _ _ _ 93 (0, 0) h]; rfl))
  go_enter Try.func41, Try.ntmps41
  go_upto_block 0 with fail
  go_cut [5] (fun v5 wx => ∃ k : Nat, k ≤ n ∧ v5 = .int .i64 (k : Nat) ∧ Hid (Below w.heap.size w wx) ∧ Hid (wx.heap[w.heap.size]? = some (.cells #[.string a, .string b] 93 (0, 0))))
  case first =>
    go_wp2_with fail
    go_loopw [5] (fun v5 wr => ∃ k : Nat, k ≤ n ∧ v5 = .int .i64 (k : Nat) ∧ Hid (Below w.heap.size w wr) ∧ Hid (wr.heap[w.heap.size]? = some (.cells #[.string a, .string b] 93 (0, 0)))) (fun v _ => n - (intOf v).toNat)
    case atStart => exact ⟨0, Nat.zero_le _, rfl, Lib.hid (bl_alloc (Below.refl _ _) _), hrow0⟩
    case round =>
      obtain ⟨k, hk, rfl, hB, hR⟩ := hrel
      by_cases hkn : k < n
      · have d1 : decide ((k : Int) < (n : Int)) = true := by simp; omega
        have k1' : (0 : Int) ≤ (k : Int) := by omega
        have k2' : (k : Int) < (n : Int) := by omega
        obtain ⟨g, ka, kb, rfl, hkc⟩ := hcel.out k hkn
        obtain ⟨x0, x1⟩ := hrr.out _ hR.out
        obtain ⟨y0, y1⟩ := hkc _ hB.out
        clear hkc
        have hSd : wr.drew.cell? ⟨w.heap.size, 0, none⟩ = some (.string a) ∧ wr.drew.cell? ⟨w.heap.size, 1, none⟩ = some (.string b) ∧ wr.drew.cell? ⟨g, k * 2, none⟩ = some (.string ka) ∧ wr.drew.cell? ⟨g, k * 2 + 1, none⟩ = some (.string kb) := ⟨x0, x1, y0, y1⟩
        cases l1 : Op.bytesLess ka.toList a.toList with
        | true =>
          go_upto_region 2 with fail
          refine wp_region_heldR (S := fun w' => w'.cell? ⟨w.heap.size, 0, none⟩ = some (.string a) ∧ w'.cell? ⟨w.heap.size, 1, none⟩ = some (.string b) ∧ w'.cell? ⟨g, k * 2, none⟩ = some (.string ka) ∧ w'.cell? ⟨g, k * 2 + 1, none⟩ = some (.string kb)) opsY2 _ (by kernel_rfl) liY2 (by kernel_rfl) nsY2 (hSd) (fun hops hns hHeld => ?_)
          refine wpAnyH_takeR (i := 0) (v := ?vY2a_1) hops hns rdY2_0 (by rfl) frY2_0 rfl (fun _ _ _ h => h) stY2_0 (Or.inl ⟨by kernel_rfl, ?hyY2a_1⟩) (by assumption) ?restY2a_1
          case hyY2a_1 => (intro w hSw; (try dsimp only at hSw); go_split_ands; go_simp; (try with_reducible rfl))
          try simp only [Act.put, sA, sB, sC]
          refine wpAnyH_oneR (i := 1) (v := ?vY2a_2) hops rdY2_1 rfl stY2_1 (Or.inl ⟨by kernel_rfl, ?hyY2a_2⟩) (by assumption) ?restY2a_2
          case hyY2a_2 => (intro w hSw; (try dsimp only at hSw); go_split_ands; go_simp; (try with_reducible rfl))
          try simp only [Act.put, sA, sB, sC]
          refine wpAnyH_oneR (i := 2) (v := ?vY2a_3) hops rdY2_2 rfl stY2_2 (Or.inl ⟨by kernel_rfl, ?hyY2a_3⟩) (by assumption) ?restY2a_3
          case hyY2a_3 => (intro w hSw; (try dsimp only at hSw); go_split_ands; go_simp; (try with_reducible rfl))
          try simp only [Act.put, sA, sB, sC]
          refine wpAnyH_oneR (i := 3) (v := ?vY2a_4) hops rdY2_3 rfl stY2_3 (Or.inl ⟨by kernel_rfl, ?hyY2a_4⟩) (by assumption) ?restY2a_4
          case hyY2a_4 => (intro w hSw; (try dsimp only at hSw); go_split_ands; go_simp; (try with_reducible rfl))
          try simp only [Act.put, sA, sB, sC]
          refine wpAnyH_oneR (i := 4) (v := ?vY2a_5) hops rdY2_4 rfl stY2_4 (Or.inl ⟨by kernel_rfl, ?hyY2a_5⟩) (by assumption) ?restY2a_5
          case hyY2a_5 => (intro w hSw; (try dsimp only at hSw); go_split_ands; go_simp; (try with_reducible rfl))
          try simp only [Act.put, sA, sB, sC]
          refine wpAnyH_takeR (i := 5) (v := ?vY2a_6) hops hns rdY2_5 (by rfl) frY2_1 rfl (fun _ _ _ h => h) stY2_5 (Or.inl ⟨by kernel_rfl, ?hyY2a_6⟩) (by assumption) ?restY2a_6
          case hyY2a_6 => (intro w hSw; (try dsimp only at hSw); go_split_ands; go_simp; (try with_reducible rfl))
          try simp only [Act.put, sA, sB, sC]
          refine wpAnyH_takeR (i := 6) (v := ?vY2a_7) hops hns rdY2_6 (by rfl) frY2_2 rfl (fun _ _ _ h => h) stY2_6 (Or.inl ⟨by kernel_rfl, ?hyY2a_7⟩) (by assumption) ?restY2a_7
          case hyY2a_7 => (intro w hSw; (try dsimp only at hSw); go_split_ands; go_simp; (try with_reducible rfl))
          try simp only [Act.put, sA, sB, sC]
          refine wpAnyH_takeR (i := 7) (v := ?vY2a_8) hops hns rdY2_7 (by rfl) frY2_3 rfl (fun _ _ _ h => h) stY2_7 (Or.inl ⟨by kernel_rfl, ?hyY2a_8⟩) (by assumption) ?restY2a_8
          case hyY2a_8 => (intro w hSw; (try dsimp only at hSw); go_split_ands; go_simp; (try with_reducible rfl))
          try simp only [Act.put, sA, sB, sC]
          refine wpAnyH_takeR (i := 8) (v := ?vY2a_9) hops hns rdY2_8 (by rfl) frY2_4 rfl (fun _ _ _ h => h) stY2_8 (Or.inl ⟨by kernel_rfl, ?hyY2a_9⟩) (by assumption) ?restY2a_9
          case hyY2a_9 => (intro w hSw; (try dsimp only at hSw); go_split_ands; go_simp; (try with_reducible rfl))
          try simp only [Act.put, sA, sB, sC]
          refine wpAnyH_takeR (i := 9) (v := ?vY2a_10) hops hns rdY2_9 (by rfl) frY2_5 rfl (fun _ _ _ h => h) stY2_9 (Or.inl ⟨by kernel_rfl, ?hyY2a_10⟩) (by assumption) ?restY2a_10
          case hyY2a_10 => (intro w hSw; (try dsimp only at hSw); go_split_ands; go_simp; (try with_reducible rfl))
          try simp only [Act.put, sA, sB, sC]
          refine wpAnyH_oneR (i := 10) (v := ?vY2a_11) hops rdY2_10 rfl stY2_10 (Or.inl ⟨by kernel_rfl, ?hyY2a_11⟩) (by assumption) ?restY2a_11
          case hyY2a_11 => (intro w hSw; (try dsimp only at hSw); go_split_ands; go_simp; (try with_reducible rfl))
          try simp only [Act.put, sA, sB, sC]
          refine wpAnyH_oneR (i := 11) (v := ?vY2a_12) hops rdY2_11 rfl stY2_11 (Or.inl ⟨by kernel_rfl, ?hyY2a_12⟩) (by assumption) ?restY2a_12
          case hyY2a_12 => (intro w hSw; (try dsimp only at hSw); go_split_ands; go_simp; (try with_reducible rfl))
          try simp only [Act.put, sA, sB, sC]
          refine wpAnyH_oneR (i := 12) (v := .bool true) hops rdY2_12 rfl stY2_12 (Or.inl ⟨by kernel_rfl, ?hyY2a_13⟩) (by assumption) ?restY2a_13
          case hyY2a_13 => (intro w hSw; (try dsimp only at hSw); go_split_ands; go_simp; (try rw [l1]))
          try simp only [Act.put, sA, sB, sC]
          refine wpAnyH_oneR (i := 13) (v := ?vY2a_14) hops rdY2_13 rfl stY2_13 (Or.inl ⟨by kernel_rfl, ?hyY2a_14⟩) (by assumption) ?restY2a_14
          case hyY2a_14 => (intro w hSw; (try dsimp only at hSw); go_split_ands; go_simp; (try with_reducible rfl))
          try simp only [Act.put, sA, sB, sC]
          refine wpAnyH_takeR (i := 14) (v := undef) hops hns rdY2_14 (by rfl) frY2_6 rfl (fun _ _ _ h => h) stY2_14 (Or.inr ⟨by kernel_rfl, rfl⟩) (by assumption) ?_
          try simp only [Act.put, sA, sB, sC]
          refine wpAnyH_takeR (i := 15) (v := undef) hops hns rdY2_15 (by rfl) frY2_7 rfl (fun _ _ _ h => h) stY2_15 (Or.inr ⟨by kernel_rfl, rfl⟩) (by assumption) ?_
          try simp only [Act.put, sA, sB, sC]
          refine wpAnyH_takeR (i := 16) (v := undef) hops hns rdY2_16 (by rfl) frY2_8 rfl (fun _ _ _ h => h) stY2_16 (Or.inr ⟨by kernel_rfl, rfl⟩) (by assumption) ?_
          try simp only [Act.put, sA, sB, sC]
          refine wpAnyH_takeR (i := 17) (v := undef) hops hns rdY2_17 (by rfl) frY2_9 rfl (fun _ _ _ h => h) stY2_17 (Or.inr ⟨by kernel_rfl, rfl⟩) (by assumption) ?_
          try simp only [Act.put, sA, sB, sC]
          refine wpAnyH_takeR (i := 18) (v := undef) hops hns rdY2_18 (by rfl) frY2_10 rfl (fun _ _ _ h => h) stY2_18 (Or.inr ⟨by kernel_rfl, rfl⟩) (by assumption) ?_
          try simp only [Act.put, sA, sB, sC]
          refine wpAnyH_oneR (i := 19) (v := undef) hops rdY2_19 rfl stY2_19 (Or.inr ⟨by kernel_rfl, rfl⟩) (by assumption) ?_
          try simp only [Act.put, sA, sB, sC]
          refine wpAnyH_oneR (i := 20) (v := undef) hops rdY2_20 rfl stY2_20 (Or.inr ⟨by kernel_rfl, rfl⟩) (by assumption) ?_
          try simp only [Act.put, sA, sB, sC]
          refine wpAnyH_oneR (i := 21) (v := undef) hops rdY2_21 rfl stY2_21 (Or.inr ⟨by kernel_rfl, rfl⟩) (by assumption) ?_
          try simp only [Act.put, sA, sB, sC]
          refine wpAnyH_oneR (i := 22) (v := undef) hops rdY2_22 rfl stY2_22 (Or.inr ⟨by kernel_rfl, rfl⟩) (by assumption) ?_
          try simp only [Act.put, sA, sB, sC]
          refine wpAnyH_takeR (i := 23) (v := undef) hops hns rdY2_23 (by rfl) frY2_11 rfl (fun _ _ _ h => h) stY2_23 (Or.inr ⟨by kernel_rfl, rfl⟩) (by assumption) ?_
          try simp only [Act.put, sA, sB, sC]
          refine wpAnyH_takeR (i := 24) (v := undef) hops hns rdY2_24 (by rfl) frY2_12 rfl (fun _ _ _ h => h) stY2_24 (Or.inr ⟨by kernel_rfl, rfl⟩) (by assumption) ?_
          try simp only [Act.put, sA, sB, sC]
          refine wpAnyH_takeR (i := 25) (v := undef) hops hns rdY2_25 (by rfl) frY2_13 rfl (fun _ _ _ h => h) stY2_25 (Or.inr ⟨by kernel_rfl, rfl⟩) (by assumption) ?_
          try simp only [Act.put, sA, sB, sC]
          refine wpAnyH_takeR (i := 26) (v := undef) hops hns rdY2_26 (by rfl) frY2_14 rfl (fun _ _ _ h => h) stY2_26 (Or.inr ⟨by kernel_rfl, rfl⟩) (by assumption) ?_
          try simp only [Act.put, sA, sB, sC]
          refine wpAnyH_takeR (i := 27) (v := undef) hops hns rdY2_27 (by rfl) frY2_15 rfl (fun _ _ _ h => h) stY2_27 (Or.inr ⟨by kernel_rfl, rfl⟩) (by assumption) ?_
          try simp only [Act.put, sA, sB, sC]
          refine wpAnyH_oneR (i := 28) (v := undef) hops rdY2_28 rfl stY2_28 (Or.inr ⟨by kernel_rfl, rfl⟩) (by assumption) ?_
          try simp only [Act.put, sA, sB, sC]
          refine wpAnyH_oneR (i := 29) (v := undef) hops rdY2_29 rfl stY2_29 (Or.inr ⟨by kernel_rfl, rfl⟩) (by assumption) ?_
          try simp only [Act.put, sA, sB, sC]
          refine wpAnyH_oneR (i := 30) (v := undef) hops rdY2_30 rfl stY2_30 (Or.inr ⟨by kernel_rfl, rfl⟩) (by assumption) ?_
          try simp only [Act.put, sA, sB, sC]
          refine wpAnyH_oneR (i := 31) (v := undef) hops rdY2_31 rfl stY2_31 (Or.inr ⟨by kernel_rfl, rfl⟩) (by assumption) ?_
          try simp only [Act.put, sA, sB, sC]
          refine wpAnyH_oneR (i := 32) (v := ?vY2a_15) hops rdY2_32 rfl stY2_32 (Or.inl ⟨by kernel_rfl, ?hyY2a_15⟩) (by assumption) ?restY2a_15
          case hyY2a_15 => (intro w hSw; (try dsimp only at hSw); go_split_ands; go_simp; (try with_reducible rfl))
          try simp only [Act.put, sA, sB, sC]
          refine wpAnyH_oneR (i := 33) (v := ?vY2a_16) hops rdY2_33 rfl stY2_33 (Or.inl ⟨by kernel_rfl, ?hyY2a_16⟩) (by assumption) ?restY2a_16
          case hyY2a_16 => (intro w hSw; (try dsimp only at hSw); go_split_ands; go_simp; (try with_reducible rfl))
          try simp only [Act.put, sA, sB, sC]
          refine wpAnyH_doneR hops rdY2_34 ?_
          go_wp2_with fail
          exact ⟨⟨k + 1, by omega, by go_num, Lib.hid hB.out.drew, hR⟩, by simp [intOf]; omega⟩
        | false =>
          cases l2 : (ka.toList == a.toList) with
          | true =>
            obtain ⟨l, hl3⟩ : ∃ l, Op.bytesLess kb.toList b.toList = l := ⟨_, rfl⟩
            replace hl3 := Lib.hid hl3
            go_upto_region 2 with fail
            refine wp_region_heldR (S := fun w' => w'.cell? ⟨w.heap.size, 0, none⟩ = some (.string a) ∧ w'.cell? ⟨w.heap.size, 1, none⟩ = some (.string b) ∧ w'.cell? ⟨g, k * 2, none⟩ = some (.string ka) ∧ w'.cell? ⟨g, k * 2 + 1, none⟩ = some (.string kb)) opsY2 _ (by kernel_rfl) liY2 (by kernel_rfl) nsY2 (hSd) (fun hops hns hHeld => ?_)
            refine wpAnyH_takeR (i := 0) (v := ?vY2b_1) hops hns rdY2_0 (by rfl) frY2_0 rfl (fun _ _ _ h => h) stY2_0 (Or.inl ⟨by kernel_rfl, ?hyY2b_1⟩) (by assumption) ?restY2b_1
            case hyY2b_1 => (intro w hSw; (try dsimp only at hSw); go_split_ands; go_simp; (try with_reducible rfl))
            try simp only [Act.put, sA, sB, sC]
            refine wpAnyH_oneR (i := 1) (v := ?vY2b_2) hops rdY2_1 rfl stY2_1 (Or.inl ⟨by kernel_rfl, ?hyY2b_2⟩) (by assumption) ?restY2b_2
            case hyY2b_2 => (intro w hSw; (try dsimp only at hSw); go_split_ands; go_simp; (try with_reducible rfl))
            try simp only [Act.put, sA, sB, sC]
            refine wpAnyH_oneR (i := 2) (v := ?vY2b_3) hops rdY2_2 rfl stY2_2 (Or.inl ⟨by kernel_rfl, ?hyY2b_3⟩) (by assumption) ?restY2b_3
            case hyY2b_3 => (intro w hSw; (try dsimp only at hSw); go_split_ands; go_simp; (try with_reducible rfl))
            try simp only [Act.put, sA, sB, sC]
            refine wpAnyH_oneR (i := 3) (v := ?vY2b_4) hops rdY2_3 rfl stY2_3 (Or.inl ⟨by kernel_rfl, ?hyY2b_4⟩) (by assumption) ?restY2b_4
            case hyY2b_4 => (intro w hSw; (try dsimp only at hSw); go_split_ands; go_simp; (try with_reducible rfl))
            try simp only [Act.put, sA, sB, sC]
            refine wpAnyH_oneR (i := 4) (v := ?vY2b_5) hops rdY2_4 rfl stY2_4 (Or.inl ⟨by kernel_rfl, ?hyY2b_5⟩) (by assumption) ?restY2b_5
            case hyY2b_5 => (intro w hSw; (try dsimp only at hSw); go_split_ands; go_simp; (try with_reducible rfl))
            try simp only [Act.put, sA, sB, sC]
            refine wpAnyH_takeR (i := 5) (v := ?vY2b_6) hops hns rdY2_5 (by rfl) frY2_1 rfl (fun _ _ _ h => h) stY2_5 (Or.inl ⟨by kernel_rfl, ?hyY2b_6⟩) (by assumption) ?restY2b_6
            case hyY2b_6 => (intro w hSw; (try dsimp only at hSw); go_split_ands; go_simp; (try with_reducible rfl))
            try simp only [Act.put, sA, sB, sC]
            refine wpAnyH_takeR (i := 6) (v := ?vY2b_7) hops hns rdY2_6 (by rfl) frY2_2 rfl (fun _ _ _ h => h) stY2_6 (Or.inl ⟨by kernel_rfl, ?hyY2b_7⟩) (by assumption) ?restY2b_7
            case hyY2b_7 => (intro w hSw; (try dsimp only at hSw); go_split_ands; go_simp; (try with_reducible rfl))
            try simp only [Act.put, sA, sB, sC]
            refine wpAnyH_takeR (i := 7) (v := ?vY2b_8) hops hns rdY2_7 (by rfl) frY2_3 rfl (fun _ _ _ h => h) stY2_7 (Or.inl ⟨by kernel_rfl, ?hyY2b_8⟩) (by assumption) ?restY2b_8
            case hyY2b_8 => (intro w hSw; (try dsimp only at hSw); go_split_ands; go_simp; (try with_reducible rfl))
            try simp only [Act.put, sA, sB, sC]
            refine wpAnyH_takeR (i := 8) (v := ?vY2b_9) hops hns rdY2_8 (by rfl) frY2_4 rfl (fun _ _ _ h => h) stY2_8 (Or.inl ⟨by kernel_rfl, ?hyY2b_9⟩) (by assumption) ?restY2b_9
            case hyY2b_9 => (intro w hSw; (try dsimp only at hSw); go_split_ands; go_simp; (try with_reducible rfl))
            try simp only [Act.put, sA, sB, sC]
            refine wpAnyH_takeR (i := 9) (v := ?vY2b_10) hops hns rdY2_9 (by rfl) frY2_5 rfl (fun _ _ _ h => h) stY2_9 (Or.inl ⟨by kernel_rfl, ?hyY2b_10⟩) (by assumption) ?restY2b_10
            case hyY2b_10 => (intro w hSw; (try dsimp only at hSw); go_split_ands; go_simp; (try with_reducible rfl))
            try simp only [Act.put, sA, sB, sC]
            refine wpAnyH_oneR (i := 10) (v := ?vY2b_11) hops rdY2_10 rfl stY2_10 (Or.inl ⟨by kernel_rfl, ?hyY2b_11⟩) (by assumption) ?restY2b_11
            case hyY2b_11 => (intro w hSw; (try dsimp only at hSw); go_split_ands; go_simp; (try with_reducible rfl))
            try simp only [Act.put, sA, sB, sC]
            refine wpAnyH_oneR (i := 11) (v := ?vY2b_12) hops rdY2_11 rfl stY2_11 (Or.inl ⟨by kernel_rfl, ?hyY2b_12⟩) (by assumption) ?restY2b_12
            case hyY2b_12 => (intro w hSw; (try dsimp only at hSw); go_split_ands; go_simp; (try with_reducible rfl))
            try simp only [Act.put, sA, sB, sC]
            refine wpAnyH_oneR (i := 12) (v := .bool false) hops rdY2_12 rfl stY2_12 (Or.inl ⟨by kernel_rfl, ?hyY2b_13⟩) (by assumption) ?restY2b_13
            case hyY2b_13 => (intro w hSw; (try dsimp only at hSw); go_split_ands; go_simp; (try rw [l1]))
            try simp only [Act.put, sA, sB, sC]
            refine wpAnyH_oneR (i := 13) (v := ?vY2b_14) hops rdY2_13 rfl stY2_13 (Or.inl ⟨by kernel_rfl, ?hyY2b_14⟩) (by assumption) ?restY2b_14
            case hyY2b_14 => (intro w hSw; (try dsimp only at hSw); go_split_ands; go_simp; (try with_reducible rfl))
            try simp only [Act.put, sA, sB, sC]
            refine wpAnyH_takeR (i := 14) (v := ?vY2b_15) hops hns rdY2_14 (by rfl) frY2_6 rfl (fun _ _ _ h => h) stY2_14 (Or.inl ⟨by kernel_rfl, ?hyY2b_15⟩) (by assumption) ?restY2b_15
            case hyY2b_15 => (intro w hSw; (try dsimp only at hSw); go_split_ands; go_simp; (try with_reducible rfl))
            try simp only [Act.put, sA, sB, sC]
            refine wpAnyH_takeR (i := 15) (v := ?vY2b_16) hops hns rdY2_15 (by rfl) frY2_7 rfl (fun _ _ _ h => h) stY2_15 (Or.inl ⟨by kernel_rfl, ?hyY2b_16⟩) (by assumption) ?restY2b_16
            case hyY2b_16 => (intro w hSw; (try dsimp only at hSw); go_split_ands; go_simp; (try with_reducible rfl))
            try simp only [Act.put, sA, sB, sC]
            refine wpAnyH_takeR (i := 16) (v := ?vY2b_17) hops hns rdY2_16 (by rfl) frY2_8 rfl (fun _ _ _ h => h) stY2_16 (Or.inl ⟨by kernel_rfl, ?hyY2b_17⟩) (by assumption) ?restY2b_17
            case hyY2b_17 => (intro w hSw; (try dsimp only at hSw); go_split_ands; go_simp; (try with_reducible rfl))
            try simp only [Act.put, sA, sB, sC]
            refine wpAnyH_takeR (i := 17) (v := ?vY2b_18) hops hns rdY2_17 (by rfl) frY2_9 rfl (fun _ _ _ h => h) stY2_17 (Or.inl ⟨by kernel_rfl, ?hyY2b_18⟩) (by assumption) ?restY2b_18
            case hyY2b_18 => (intro w hSw; (try dsimp only at hSw); go_split_ands; go_simp; (try with_reducible rfl))
            try simp only [Act.put, sA, sB, sC]
            refine wpAnyH_takeR (i := 18) (v := ?vY2b_19) hops hns rdY2_18 (by rfl) frY2_10 rfl (fun _ _ _ h => h) stY2_18 (Or.inl ⟨by kernel_rfl, ?hyY2b_19⟩) (by assumption) ?restY2b_19
            case hyY2b_19 => (intro w hSw; (try dsimp only at hSw); go_split_ands; go_simp; (try with_reducible rfl))
            try simp only [Act.put, sA, sB, sC]
            refine wpAnyH_oneR (i := 19) (v := ?vY2b_20) hops rdY2_19 rfl stY2_19 (Or.inl ⟨by kernel_rfl, ?hyY2b_20⟩) (by assumption) ?restY2b_20
            case hyY2b_20 => (intro w hSw; (try dsimp only at hSw); go_split_ands; go_simp; (try with_reducible rfl))
            try simp only [Act.put, sA, sB, sC]
            refine wpAnyH_oneR (i := 20) (v := ?vY2b_21) hops rdY2_20 rfl stY2_20 (Or.inl ⟨by kernel_rfl, ?hyY2b_21⟩) (by assumption) ?restY2b_21
            case hyY2b_21 => (intro w hSw; (try dsimp only at hSw); go_split_ands; go_simp; (try with_reducible rfl))
            try simp only [Act.put, sA, sB, sC]
            refine wpAnyH_oneR (i := 21) (v := .bool true) hops rdY2_21 rfl stY2_21 (Or.inl ⟨by kernel_rfl, ?hyY2b_22⟩) (by assumption) ?restY2b_22
            case hyY2b_22 => (intro w hSw; (try dsimp only at hSw); go_split_ands; go_simp; (try rw [l2]))
            try simp only [Act.put, sA, sB, sC]
            refine wpAnyH_oneR (i := 22) (v := ?vY2b_23) hops rdY2_22 rfl stY2_22 (Or.inl ⟨by kernel_rfl, ?hyY2b_23⟩) (by assumption) ?restY2b_23
            case hyY2b_23 => (intro w hSw; (try dsimp only at hSw); go_split_ands; go_simp; (try with_reducible rfl))
            try simp only [Act.put, sA, sB, sC]
            refine wpAnyH_takeR (i := 23) (v := ?vY2b_24) hops hns rdY2_23 (by rfl) frY2_11 rfl (fun _ _ _ h => h) stY2_23 (Or.inl ⟨by kernel_rfl, ?hyY2b_24⟩) (by assumption) ?restY2b_24
            case hyY2b_24 => (intro w hSw; (try dsimp only at hSw); go_split_ands; go_simp; (try with_reducible rfl))
            try simp only [Act.put, sA, sB, sC]
            refine wpAnyH_takeR (i := 24) (v := ?vY2b_25) hops hns rdY2_24 (by rfl) frY2_12 rfl (fun _ _ _ h => h) stY2_24 (Or.inl ⟨by kernel_rfl, ?hyY2b_25⟩) (by assumption) ?restY2b_25
            case hyY2b_25 => (intro w hSw; (try dsimp only at hSw); go_split_ands; go_simp; (try with_reducible rfl))
            try simp only [Act.put, sA, sB, sC]
            refine wpAnyH_takeR (i := 25) (v := ?vY2b_26) hops hns rdY2_25 (by rfl) frY2_13 rfl (fun _ _ _ h => h) stY2_25 (Or.inl ⟨by kernel_rfl, ?hyY2b_26⟩) (by assumption) ?restY2b_26
            case hyY2b_26 => (intro w hSw; (try dsimp only at hSw); go_split_ands; go_simp; (try with_reducible rfl))
            try simp only [Act.put, sA, sB, sC]
            refine wpAnyH_takeR (i := 26) (v := ?vY2b_27) hops hns rdY2_26 (by rfl) frY2_14 rfl (fun _ _ _ h => h) stY2_26 (Or.inl ⟨by kernel_rfl, ?hyY2b_27⟩) (by assumption) ?restY2b_27
            case hyY2b_27 => (intro w hSw; (try dsimp only at hSw); go_split_ands; go_simp; (try with_reducible rfl))
            try simp only [Act.put, sA, sB, sC]
            refine wpAnyH_takeR (i := 27) (v := ?vY2b_28) hops hns rdY2_27 (by rfl) frY2_15 rfl (fun _ _ _ h => h) stY2_27 (Or.inl ⟨by kernel_rfl, ?hyY2b_28⟩) (by assumption) ?restY2b_28
            case hyY2b_28 => (intro w hSw; (try dsimp only at hSw); go_split_ands; go_simp; (try with_reducible rfl))
            try simp only [Act.put, sA, sB, sC]
            refine wpAnyH_oneR (i := 28) (v := ?vY2b_29) hops rdY2_28 rfl stY2_28 (Or.inl ⟨by kernel_rfl, ?hyY2b_29⟩) (by assumption) ?restY2b_29
            case hyY2b_29 => (intro w hSw; (try dsimp only at hSw); go_split_ands; go_simp; (try with_reducible rfl))
            try simp only [Act.put, sA, sB, sC]
            refine wpAnyH_oneR (i := 29) (v := ?vY2b_30) hops rdY2_29 rfl stY2_29 (Or.inl ⟨by kernel_rfl, ?hyY2b_30⟩) (by assumption) ?restY2b_30
            case hyY2b_30 => (intro w hSw; (try dsimp only at hSw); go_split_ands; go_simp; (try with_reducible rfl))
            try simp only [Act.put, sA, sB, sC]
            refine wpAnyH_oneR (i := 30) (v := .bool l) hops rdY2_30 rfl stY2_30 (Or.inl ⟨by kernel_rfl, ?hyY2b_31⟩) (by assumption) ?restY2b_31
            case hyY2b_31 => (intro w hSw; (try dsimp only at hSw); go_split_ands; go_simp; rw [← hl3.out])
            try simp only [Act.put, sA, sB, sC]
            refine wpAnyH_oneR (i := 31) (v := ?vY2b_32) hops rdY2_31 rfl stY2_31 (Or.inl ⟨by kernel_rfl, ?hyY2b_32⟩) (by assumption) ?restY2b_32
            case hyY2b_32 => (intro w hSw; (try dsimp only at hSw); go_split_ands; go_simp; (try with_reducible rfl))
            try simp only [Act.put, sA, sB, sC]
            refine wpAnyH_oneR (i := 32) (v := ?vY2b_33) hops rdY2_32 rfl stY2_32 (Or.inl ⟨by kernel_rfl, ?hyY2b_33⟩) (by assumption) ?restY2b_33
            case hyY2b_33 => (intro w hSw; (try dsimp only at hSw); go_split_ands; go_simp; (try with_reducible rfl))
            try simp only [Act.put, sA, sB, sC]
            refine wpAnyH_oneR (i := 33) (v := ?vY2b_34) hops rdY2_33 rfl stY2_33 (Or.inl ⟨by kernel_rfl, ?hyY2b_34⟩) (by assumption) ?restY2b_34
            case hyY2b_34 => (intro w hSw; (try dsimp only at hSw); go_split_ands; go_simp; (try with_reducible rfl))
            try simp only [Act.put, sA, sB, sC]
            refine wpAnyH_doneR hops rdY2_34 ?_
            cases l with
            | true =>
              go_wp2_with fail
              exact ⟨⟨k + 1, by omega, by go_num, Lib.hid hB.out.drew, hR⟩, by simp [intOf]; omega⟩
            | false =>
              go_wp2_with fail
              go_meet
              exact ⟨k, hk, rfl, Lib.hid hB.out.drew, hR⟩
          | false =>
            go_upto_region 2 with fail
            refine wp_region_heldR (S := fun w' => w'.cell? ⟨w.heap.size, 0, none⟩ = some (.string a) ∧ w'.cell? ⟨w.heap.size, 1, none⟩ = some (.string b) ∧ w'.cell? ⟨g, k * 2, none⟩ = some (.string ka) ∧ w'.cell? ⟨g, k * 2 + 1, none⟩ = some (.string kb)) opsY2 _ (by kernel_rfl) liY2 (by kernel_rfl) nsY2 (hSd) (fun hops hns hHeld => ?_)
            refine wpAnyH_takeR (i := 0) (v := ?vY2c_1) hops hns rdY2_0 (by rfl) frY2_0 rfl (fun _ _ _ h => h) stY2_0 (Or.inl ⟨by kernel_rfl, ?hyY2c_1⟩) (by assumption) ?restY2c_1
            case hyY2c_1 => (intro w hSw; (try dsimp only at hSw); go_split_ands; go_simp; (try with_reducible rfl))
            try simp only [Act.put, sA, sB, sC]
            refine wpAnyH_oneR (i := 1) (v := ?vY2c_2) hops rdY2_1 rfl stY2_1 (Or.inl ⟨by kernel_rfl, ?hyY2c_2⟩) (by assumption) ?restY2c_2
            case hyY2c_2 => (intro w hSw; (try dsimp only at hSw); go_split_ands; go_simp; (try with_reducible rfl))
            try simp only [Act.put, sA, sB, sC]
            refine wpAnyH_oneR (i := 2) (v := ?vY2c_3) hops rdY2_2 rfl stY2_2 (Or.inl ⟨by kernel_rfl, ?hyY2c_3⟩) (by assumption) ?restY2c_3
            case hyY2c_3 => (intro w hSw; (try dsimp only at hSw); go_split_ands; go_simp; (try with_reducible rfl))
            try simp only [Act.put, sA, sB, sC]
            refine wpAnyH_oneR (i := 3) (v := ?vY2c_4) hops rdY2_3 rfl stY2_3 (Or.inl ⟨by kernel_rfl, ?hyY2c_4⟩) (by assumption) ?restY2c_4
            case hyY2c_4 => (intro w hSw; (try dsimp only at hSw); go_split_ands; go_simp; (try with_reducible rfl))
            try simp only [Act.put, sA, sB, sC]
            refine wpAnyH_oneR (i := 4) (v := ?vY2c_5) hops rdY2_4 rfl stY2_4 (Or.inl ⟨by kernel_rfl, ?hyY2c_5⟩) (by assumption) ?restY2c_5
            case hyY2c_5 => (intro w hSw; (try dsimp only at hSw); go_split_ands; go_simp; (try with_reducible rfl))
            try simp only [Act.put, sA, sB, sC]
            refine wpAnyH_takeR (i := 5) (v := ?vY2c_6) hops hns rdY2_5 (by rfl) frY2_1 rfl (fun _ _ _ h => h) stY2_5 (Or.inl ⟨by kernel_rfl, ?hyY2c_6⟩) (by assumption) ?restY2c_6
            case hyY2c_6 => (intro w hSw; (try dsimp only at hSw); go_split_ands; go_simp; (try with_reducible rfl))
            try simp only [Act.put, sA, sB, sC]
            refine wpAnyH_takeR (i := 6) (v := ?vY2c_7) hops hns rdY2_6 (by rfl) frY2_2 rfl (fun _ _ _ h => h) stY2_6 (Or.inl ⟨by kernel_rfl, ?hyY2c_7⟩) (by assumption) ?restY2c_7
            case hyY2c_7 => (intro w hSw; (try dsimp only at hSw); go_split_ands; go_simp; (try with_reducible rfl))
            try simp only [Act.put, sA, sB, sC]
            refine wpAnyH_takeR (i := 7) (v := ?vY2c_8) hops hns rdY2_7 (by rfl) frY2_3 rfl (fun _ _ _ h => h) stY2_7 (Or.inl ⟨by kernel_rfl, ?hyY2c_8⟩) (by assumption) ?restY2c_8
            case hyY2c_8 => (intro w hSw; (try dsimp only at hSw); go_split_ands; go_simp; (try with_reducible rfl))
            try simp only [Act.put, sA, sB, sC]
            refine wpAnyH_takeR (i := 8) (v := ?vY2c_9) hops hns rdY2_8 (by rfl) frY2_4 rfl (fun _ _ _ h => h) stY2_8 (Or.inl ⟨by kernel_rfl, ?hyY2c_9⟩) (by assumption) ?restY2c_9
            case hyY2c_9 => (intro w hSw; (try dsimp only at hSw); go_split_ands; go_simp; (try with_reducible rfl))
            try simp only [Act.put, sA, sB, sC]
            refine wpAnyH_takeR (i := 9) (v := ?vY2c_10) hops hns rdY2_9 (by rfl) frY2_5 rfl (fun _ _ _ h => h) stY2_9 (Or.inl ⟨by kernel_rfl, ?hyY2c_10⟩) (by assumption) ?restY2c_10
            case hyY2c_10 => (intro w hSw; (try dsimp only at hSw); go_split_ands; go_simp; (try with_reducible rfl))
            try simp only [Act.put, sA, sB, sC]
            refine wpAnyH_oneR (i := 10) (v := ?vY2c_11) hops rdY2_10 rfl stY2_10 (Or.inl ⟨by kernel_rfl, ?hyY2c_11⟩) (by assumption) ?restY2c_11
            case hyY2c_11 => (intro w hSw; (try dsimp only at hSw); go_split_ands; go_simp; (try with_reducible rfl))
            try simp only [Act.put, sA, sB, sC]
            refine wpAnyH_oneR (i := 11) (v := ?vY2c_12) hops rdY2_11 rfl stY2_11 (Or.inl ⟨by kernel_rfl, ?hyY2c_12⟩) (by assumption) ?restY2c_12
            case hyY2c_12 => (intro w hSw; (try dsimp only at hSw); go_split_ands; go_simp; (try with_reducible rfl))
            try simp only [Act.put, sA, sB, sC]
            refine wpAnyH_oneR (i := 12) (v := .bool false) hops rdY2_12 rfl stY2_12 (Or.inl ⟨by kernel_rfl, ?hyY2c_13⟩) (by assumption) ?restY2c_13
            case hyY2c_13 => (intro w hSw; (try dsimp only at hSw); go_split_ands; go_simp; (try rw [l1]))
            try simp only [Act.put, sA, sB, sC]
            refine wpAnyH_oneR (i := 13) (v := ?vY2c_14) hops rdY2_13 rfl stY2_13 (Or.inl ⟨by kernel_rfl, ?hyY2c_14⟩) (by assumption) ?restY2c_14
            case hyY2c_14 => (intro w hSw; (try dsimp only at hSw); go_split_ands; go_simp; (try with_reducible rfl))
            try simp only [Act.put, sA, sB, sC]
            refine wpAnyH_takeR (i := 14) (v := ?vY2c_15) hops hns rdY2_14 (by rfl) frY2_6 rfl (fun _ _ _ h => h) stY2_14 (Or.inl ⟨by kernel_rfl, ?hyY2c_15⟩) (by assumption) ?restY2c_15
            case hyY2c_15 => (intro w hSw; (try dsimp only at hSw); go_split_ands; go_simp; (try with_reducible rfl))
            try simp only [Act.put, sA, sB, sC]
            refine wpAnyH_takeR (i := 15) (v := ?vY2c_16) hops hns rdY2_15 (by rfl) frY2_7 rfl (fun _ _ _ h => h) stY2_15 (Or.inl ⟨by kernel_rfl, ?hyY2c_16⟩) (by assumption) ?restY2c_16
            case hyY2c_16 => (intro w hSw; (try dsimp only at hSw); go_split_ands; go_simp; (try with_reducible rfl))
            try simp only [Act.put, sA, sB, sC]
            refine wpAnyH_takeR (i := 16) (v := ?vY2c_17) hops hns rdY2_16 (by rfl) frY2_8 rfl (fun _ _ _ h => h) stY2_16 (Or.inl ⟨by kernel_rfl, ?hyY2c_17⟩) (by assumption) ?restY2c_17
            case hyY2c_17 => (intro w hSw; (try dsimp only at hSw); go_split_ands; go_simp; (try with_reducible rfl))
            try simp only [Act.put, sA, sB, sC]
            refine wpAnyH_takeR (i := 17) (v := ?vY2c_18) hops hns rdY2_17 (by rfl) frY2_9 rfl (fun _ _ _ h => h) stY2_17 (Or.inl ⟨by kernel_rfl, ?hyY2c_18⟩) (by assumption) ?restY2c_18
            case hyY2c_18 => (intro w hSw; (try dsimp only at hSw); go_split_ands; go_simp; (try with_reducible rfl))
            try simp only [Act.put, sA, sB, sC]
            refine wpAnyH_takeR (i := 18) (v := ?vY2c_19) hops hns rdY2_18 (by rfl) frY2_10 rfl (fun _ _ _ h => h) stY2_18 (Or.inl ⟨by kernel_rfl, ?hyY2c_19⟩) (by assumption) ?restY2c_19
            case hyY2c_19 => (intro w hSw; (try dsimp only at hSw); go_split_ands; go_simp; (try with_reducible rfl))
            try simp only [Act.put, sA, sB, sC]
            refine wpAnyH_oneR (i := 19) (v := ?vY2c_20) hops rdY2_19 rfl stY2_19 (Or.inl ⟨by kernel_rfl, ?hyY2c_20⟩) (by assumption) ?restY2c_20
            case hyY2c_20 => (intro w hSw; (try dsimp only at hSw); go_split_ands; go_simp; (try with_reducible rfl))
            try simp only [Act.put, sA, sB, sC]
            refine wpAnyH_oneR (i := 20) (v := ?vY2c_21) hops rdY2_20 rfl stY2_20 (Or.inl ⟨by kernel_rfl, ?hyY2c_21⟩) (by assumption) ?restY2c_21
            case hyY2c_21 => (intro w hSw; (try dsimp only at hSw); go_split_ands; go_simp; (try with_reducible rfl))
            try simp only [Act.put, sA, sB, sC]
            refine wpAnyH_oneR (i := 21) (v := .bool false) hops rdY2_21 rfl stY2_21 (Or.inl ⟨by kernel_rfl, ?hyY2c_22⟩) (by assumption) ?restY2c_22
            case hyY2c_22 => (intro w hSw; (try dsimp only at hSw); go_split_ands; go_simp; (try rw [l2]))
            try simp only [Act.put, sA, sB, sC]
            refine wpAnyH_oneR (i := 22) (v := ?vY2c_23) hops rdY2_22 rfl stY2_22 (Or.inl ⟨by kernel_rfl, ?hyY2c_23⟩) (by assumption) ?restY2c_23
            case hyY2c_23 => (intro w hSw; (try dsimp only at hSw); go_split_ands; go_simp; (try with_reducible rfl))
            try simp only [Act.put, sA, sB, sC]
            refine wpAnyH_takeR (i := 23) (v := undef) hops hns rdY2_23 (by rfl) frY2_11 rfl (fun _ _ _ h => h) stY2_23 (Or.inr ⟨by kernel_rfl, rfl⟩) (by assumption) ?_
            try simp only [Act.put, sA, sB, sC]
            refine wpAnyH_takeR (i := 24) (v := undef) hops hns rdY2_24 (by rfl) frY2_12 rfl (fun _ _ _ h => h) stY2_24 (Or.inr ⟨by kernel_rfl, rfl⟩) (by assumption) ?_
            try simp only [Act.put, sA, sB, sC]
            refine wpAnyH_takeR (i := 25) (v := undef) hops hns rdY2_25 (by rfl) frY2_13 rfl (fun _ _ _ h => h) stY2_25 (Or.inr ⟨by kernel_rfl, rfl⟩) (by assumption) ?_
            try simp only [Act.put, sA, sB, sC]
            refine wpAnyH_takeR (i := 26) (v := undef) hops hns rdY2_26 (by rfl) frY2_14 rfl (fun _ _ _ h => h) stY2_26 (Or.inr ⟨by kernel_rfl, rfl⟩) (by assumption) ?_
            try simp only [Act.put, sA, sB, sC]
            refine wpAnyH_takeR (i := 27) (v := undef) hops hns rdY2_27 (by rfl) frY2_15 rfl (fun _ _ _ h => h) stY2_27 (Or.inr ⟨by kernel_rfl, rfl⟩) (by assumption) ?_
            try simp only [Act.put, sA, sB, sC]
            refine wpAnyH_oneR (i := 28) (v := undef) hops rdY2_28 rfl stY2_28 (Or.inr ⟨by kernel_rfl, rfl⟩) (by assumption) ?_
            try simp only [Act.put, sA, sB, sC]
            refine wpAnyH_oneR (i := 29) (v := undef) hops rdY2_29 rfl stY2_29 (Or.inr ⟨by kernel_rfl, rfl⟩) (by assumption) ?_
            try simp only [Act.put, sA, sB, sC]
            refine wpAnyH_oneR (i := 30) (v := undef) hops rdY2_30 rfl stY2_30 (Or.inr ⟨by kernel_rfl, rfl⟩) (by assumption) ?_
            try simp only [Act.put, sA, sB, sC]
            refine wpAnyH_oneR (i := 31) (v := ?vY2c_24) hops rdY2_31 rfl stY2_31 (Or.inl ⟨by kernel_rfl, ?hyY2c_24⟩) (by assumption) ?restY2c_24
            case hyY2c_24 => (intro w hSw; (try dsimp only at hSw); go_split_ands; go_simp; (try with_reducible rfl))
            try simp only [Act.put, sA, sB, sC]
            refine wpAnyH_oneR (i := 32) (v := ?vY2c_25) hops rdY2_32 rfl stY2_32 (Or.inl ⟨by kernel_rfl, ?hyY2c_25⟩) (by assumption) ?restY2c_25
            case hyY2c_25 => (intro w hSw; (try dsimp only at hSw); go_split_ands; go_simp; (try with_reducible rfl))
            try simp only [Act.put, sA, sB, sC]
            refine wpAnyH_oneR (i := 33) (v := ?vY2c_26) hops rdY2_33 rfl stY2_33 (Or.inl ⟨by kernel_rfl, ?hyY2c_26⟩) (by assumption) ?restY2c_26
            case hyY2c_26 => (intro w hSw; (try dsimp only at hSw); go_split_ands; go_simp; (try with_reducible rfl))
            try simp only [Act.put, sA, sB, sC]
            refine wpAnyH_doneR hops rdY2_34 ?_
            go_wp2_with fail
            go_meet
            exact ⟨k, hk, rfl, Lib.hid hB.out.drew, hR⟩
      · have d1 : decide ((k : Int) < (n : Int)) = false := by simp; omega
        go_upto_region 2 with fail
        refine wp_region_heldR (S := fun _ => True) opsY2 _ (by kernel_rfl) liY2 (by kernel_rfl) nsY2 (trivial) (fun hops hns hHeld => ?_)
        refine wpAnyH_takeR (i := 0) (v := ?vY2d_1) hops hns rdY2_0 (by rfl) frY2_0 rfl (fun _ _ _ h => h) stY2_0 (Or.inl ⟨by kernel_rfl, ?hyY2d_1⟩) (by assumption) ?restY2d_1
        case hyY2d_1 => (intro w hSw; (try dsimp only at hSw); go_split_ands; go_simp; (try with_reducible rfl))
        try simp only [Act.put, sA, sB, sC]
        refine wpAnyH_oneR (i := 1) (v := ?vY2d_2) hops rdY2_1 rfl stY2_1 (Or.inl ⟨by kernel_rfl, ?hyY2d_2⟩) (by assumption) ?restY2d_2
        case hyY2d_2 => (intro w hSw; (try dsimp only at hSw); go_split_ands; go_simp; (try with_reducible rfl))
        try simp only [Act.put, sA, sB, sC]
        refine wpAnyH_oneR (i := 2) (v := ?vY2d_3) hops rdY2_2 rfl stY2_2 (Or.inl ⟨by kernel_rfl, ?hyY2d_3⟩) (by assumption) ?restY2d_3
        case hyY2d_3 => (intro w hSw; (try dsimp only at hSw); go_split_ands; go_simp; (try with_reducible rfl))
        try simp only [Act.put, sA, sB, sC]
        refine wpAnyH_oneR (i := 3) (v := ?vY2d_4) hops rdY2_3 rfl stY2_3 (Or.inl ⟨by kernel_rfl, ?hyY2d_4⟩) (by assumption) ?restY2d_4
        case hyY2d_4 => (intro w hSw; (try dsimp only at hSw); go_split_ands; go_simp; (try with_reducible rfl))
        try simp only [Act.put, sA, sB, sC]
        refine wpAnyH_oneR (i := 4) (v := ?vY2d_5) hops rdY2_4 rfl stY2_4 (Or.inl ⟨by kernel_rfl, ?hyY2d_5⟩) (by assumption) ?restY2d_5
        case hyY2d_5 => (intro w hSw; (try dsimp only at hSw); go_split_ands; go_simp; (try with_reducible rfl))
        try simp only [Act.put, sA, sB, sC]
        refine wpAnyH_takeR (i := 5) (v := undef) hops hns rdY2_5 (by rfl) frY2_1 rfl (fun _ _ _ h => h) stY2_5 (Or.inr ⟨by kernel_rfl, rfl⟩) (by assumption) ?_
        try simp only [Act.put, sA, sB, sC]
        refine wpAnyH_takeR (i := 6) (v := undef) hops hns rdY2_6 (by rfl) frY2_2 rfl (fun _ _ _ h => h) stY2_6 (Or.inr ⟨by kernel_rfl, rfl⟩) (by assumption) ?_
        try simp only [Act.put, sA, sB, sC]
        refine wpAnyH_takeR (i := 7) (v := undef) hops hns rdY2_7 (by rfl) frY2_3 rfl (fun _ _ _ h => h) stY2_7 (Or.inr ⟨by kernel_rfl, rfl⟩) (by assumption) ?_
        try simp only [Act.put, sA, sB, sC]
        refine wpAnyH_takeR (i := 8) (v := undef) hops hns rdY2_8 (by rfl) frY2_4 rfl (fun _ _ _ h => h) stY2_8 (Or.inr ⟨by kernel_rfl, rfl⟩) (by assumption) ?_
        try simp only [Act.put, sA, sB, sC]
        refine wpAnyH_takeR (i := 9) (v := undef) hops hns rdY2_9 (by rfl) frY2_5 rfl (fun _ _ _ h => h) stY2_9 (Or.inr ⟨by kernel_rfl, rfl⟩) (by assumption) ?_
        try simp only [Act.put, sA, sB, sC]
        refine wpAnyH_oneR (i := 10) (v := undef) hops rdY2_10 rfl stY2_10 (Or.inr ⟨by kernel_rfl, rfl⟩) (by assumption) ?_
        try simp only [Act.put, sA, sB, sC]
        refine wpAnyH_oneR (i := 11) (v := undef) hops rdY2_11 rfl stY2_11 (Or.inr ⟨by kernel_rfl, rfl⟩) (by assumption) ?_
        try simp only [Act.put, sA, sB, sC]
        refine wpAnyH_oneR (i := 12) (v := undef) hops rdY2_12 rfl stY2_12 (Or.inr ⟨by kernel_rfl, rfl⟩) (by assumption) ?_
        try simp only [Act.put, sA, sB, sC]
        refine wpAnyH_oneR (i := 13) (v := undef) hops rdY2_13 rfl stY2_13 (Or.inr ⟨by kernel_rfl, rfl⟩) (by assumption) ?_
        try simp only [Act.put, sA, sB, sC]
        refine wpAnyH_takeR (i := 14) (v := undef) hops hns rdY2_14 (by rfl) frY2_6 rfl (fun _ _ _ h => h) stY2_14 (Or.inr ⟨by kernel_rfl, rfl⟩) (by assumption) ?_
        try simp only [Act.put, sA, sB, sC]
        refine wpAnyH_takeR (i := 15) (v := undef) hops hns rdY2_15 (by rfl) frY2_7 rfl (fun _ _ _ h => h) stY2_15 (Or.inr ⟨by kernel_rfl, rfl⟩) (by assumption) ?_
        try simp only [Act.put, sA, sB, sC]
        refine wpAnyH_takeR (i := 16) (v := undef) hops hns rdY2_16 (by rfl) frY2_8 rfl (fun _ _ _ h => h) stY2_16 (Or.inr ⟨by kernel_rfl, rfl⟩) (by assumption) ?_
        try simp only [Act.put, sA, sB, sC]
        refine wpAnyH_takeR (i := 17) (v := undef) hops hns rdY2_17 (by rfl) frY2_9 rfl (fun _ _ _ h => h) stY2_17 (Or.inr ⟨by kernel_rfl, rfl⟩) (by assumption) ?_
        try simp only [Act.put, sA, sB, sC]
        refine wpAnyH_takeR (i := 18) (v := undef) hops hns rdY2_18 (by rfl) frY2_10 rfl (fun _ _ _ h => h) stY2_18 (Or.inr ⟨by kernel_rfl, rfl⟩) (by assumption) ?_
        try simp only [Act.put, sA, sB, sC]
        refine wpAnyH_oneR (i := 19) (v := undef) hops rdY2_19 rfl stY2_19 (Or.inr ⟨by kernel_rfl, rfl⟩) (by assumption) ?_
        try simp only [Act.put, sA, sB, sC]
        refine wpAnyH_oneR (i := 20) (v := undef) hops rdY2_20 rfl stY2_20 (Or.inr ⟨by kernel_rfl, rfl⟩) (by assumption) ?_
        try simp only [Act.put, sA, sB, sC]
        refine wpAnyH_oneR (i := 21) (v := undef) hops rdY2_21 rfl stY2_21 (Or.inr ⟨by kernel_rfl, rfl⟩) (by assumption) ?_
        try simp only [Act.put, sA, sB, sC]
        refine wpAnyH_oneR (i := 22) (v := undef) hops rdY2_22 rfl stY2_22 (Or.inr ⟨by kernel_rfl, rfl⟩) (by assumption) ?_
        try simp only [Act.put, sA, sB, sC]
        refine wpAnyH_takeR (i := 23) (v := undef) hops hns rdY2_23 (by rfl) frY2_11 rfl (fun _ _ _ h => h) stY2_23 (Or.inr ⟨by kernel_rfl, rfl⟩) (by assumption) ?_
        try simp only [Act.put, sA, sB, sC]
        refine wpAnyH_takeR (i := 24) (v := undef) hops hns rdY2_24 (by rfl) frY2_12 rfl (fun _ _ _ h => h) stY2_24 (Or.inr ⟨by kernel_rfl, rfl⟩) (by assumption) ?_
        try simp only [Act.put, sA, sB, sC]
        refine wpAnyH_takeR (i := 25) (v := undef) hops hns rdY2_25 (by rfl) frY2_13 rfl (fun _ _ _ h => h) stY2_25 (Or.inr ⟨by kernel_rfl, rfl⟩) (by assumption) ?_
        try simp only [Act.put, sA, sB, sC]
        refine wpAnyH_takeR (i := 26) (v := undef) hops hns rdY2_26 (by rfl) frY2_14 rfl (fun _ _ _ h => h) stY2_26 (Or.inr ⟨by kernel_rfl, rfl⟩) (by assumption) ?_
        try simp only [Act.put, sA, sB, sC]
        refine wpAnyH_takeR (i := 27) (v := undef) hops hns rdY2_27 (by rfl) frY2_15 rfl (fun _ _ _ h => h) stY2_27 (Or.inr ⟨by kernel_rfl, rfl⟩) (by assumption) ?_
        try simp only [Act.put, sA, sB, sC]
        refine wpAnyH_oneR (i := 28) (v := undef) hops rdY2_28 rfl stY2_28 (Or.inr ⟨by kernel_rfl, rfl⟩) (by assumption) ?_
        try simp only [Act.put, sA, sB, sC]
        refine wpAnyH_oneR (i := 29) (v := undef) hops rdY2_29 rfl stY2_29 (Or.inr ⟨by kernel_rfl, rfl⟩) (by assumption) ?_
        try simp only [Act.put, sA, sB, sC]
        refine wpAnyH_oneR (i := 30) (v := undef) hops rdY2_30 rfl stY2_30 (Or.inr ⟨by kernel_rfl, rfl⟩) (by assumption) ?_
        try simp only [Act.put, sA, sB, sC]
        refine wpAnyH_oneR (i := 31) (v := undef) hops rdY2_31 rfl stY2_31 (Or.inr ⟨by kernel_rfl, rfl⟩) (by assumption) ?_
        try simp only [Act.put, sA, sB, sC]
        refine wpAnyH_oneR (i := 32) (v := undef) hops rdY2_32 rfl stY2_32 (Or.inr ⟨by kernel_rfl, rfl⟩) (by assumption) ?_
        try simp only [Act.put, sA, sB, sC]
        refine wpAnyH_oneR (i := 33) (v := ?vY2d_6) hops rdY2_33 rfl stY2_33 (Or.inl ⟨by kernel_rfl, ?hyY2d_6⟩) (by assumption) ?restY2d_6
        case hyY2d_6 => (intro w hSw; (try dsimp only at hSw); go_split_ands; go_simp; (try with_reducible rfl))
        try simp only [Act.put, sA, sB, sC]
        refine wpAnyH_doneR hops rdY2_34 ?_
        go_wp2_with fail
        go_meet
        exact ⟨k, hk, rfl, Lib.hid hB.out.drew, hR⟩
  case rest =>
    obtain ⟨k, hk, rfl, hB, hR⟩ := hcut
    have hs3 := Lib.hid (hs2.out.below hB.out)
    obtain ⟨x0, x1⟩ := hrr.out _ hR.out
    by_cases hkn : k < n
    · have d1 : decide ((k : Int) < (n : Int)) = true := by simp; omega
      have k1' : (0 : Int) ≤ (k : Int) := by omega
      have k2' : (k : Int) < (n : Int) := by omega
      obtain ⟨g, ka, kb, rfl, hkc⟩ := hcel.out k hkn
      obtain ⟨y0, y1⟩ := hkc _ hB.out
      have hSd : wc.drew.cell? ⟨w.heap.size, 0, none⟩ = some (.string a) ∧ wc.drew.cell? ⟨w.heap.size, 1, none⟩ = some (.string b) ∧ wc.drew.cell? ⟨g, k * 2, none⟩ = some (.string ka) ∧ wc.drew.cell? ⟨g, k * 2 + 1, none⟩ = some (.string kb) := ⟨x0, x1, y0, y1⟩
      clear hkc
      obtain ⟨q, hqe⟩ : ∃ q, ((ka.toList == a.toList) && (kb.toList == b.toList)) = q := ⟨_, rfl⟩
      replace hqe := Lib.hid hqe
      go_upto_region 4 with fail
      refine wp_region_heldR (S := fun w' => w'.cell? ⟨w.heap.size, 0, none⟩ = some (.string a) ∧ w'.cell? ⟨w.heap.size, 1, none⟩ = some (.string b) ∧ w'.cell? ⟨g, k * 2, none⟩ = some (.string ka) ∧ w'.cell? ⟨g, k * 2 + 1, none⟩ = some (.string kb)) opsY4 _ (by kernel_rfl) liY4 (by kernel_rfl) nsY4 (hSd) (fun hops hns hHeld => ?_)
      refine wpAnyH_takeR (i := 0) (v := ?vY4a_1) hops hns rdY4_0 (by rfl) frY4_0 rfl (fun _ _ _ h => h) stY4_0 (Or.inl ⟨by kernel_rfl, ?hyY4a_1⟩) (by assumption) ?restY4a_1
      case hyY4a_1 => (intro w hSw; (try dsimp only at hSw); go_split_ands; go_simp; (try with_reducible rfl))
      try simp only [Act.put, sA, sB, sC]
      refine wpAnyH_oneR (i := 1) (v := ?vY4a_2) hops rdY4_1 rfl stY4_1 (Or.inl ⟨by kernel_rfl, ?hyY4a_2⟩) (by assumption) ?restY4a_2
      case hyY4a_2 => (intro w hSw; (try dsimp only at hSw); go_split_ands; go_simp; (try with_reducible rfl))
      try simp only [Act.put, sA, sB, sC]
      refine wpAnyH_oneR (i := 2) (v := ?vY4a_3) hops rdY4_2 rfl stY4_2 (Or.inl ⟨by kernel_rfl, ?hyY4a_3⟩) (by assumption) ?restY4a_3
      case hyY4a_3 => (intro w hSw; (try dsimp only at hSw); go_split_ands; go_simp; (try with_reducible rfl))
      try simp only [Act.put, sA, sB, sC]
      refine wpAnyH_oneR (i := 3) (v := ?vY4a_4) hops rdY4_3 rfl stY4_3 (Or.inl ⟨by kernel_rfl, ?hyY4a_4⟩) (by assumption) ?restY4a_4
      case hyY4a_4 => (intro w hSw; (try dsimp only at hSw); go_split_ands; go_simp; (try with_reducible rfl))
      try simp only [Act.put, sA, sB, sC]
      refine wpAnyH_oneR (i := 4) (v := ?vY4a_5) hops rdY4_4 rfl stY4_4 (Or.inl ⟨by kernel_rfl, ?hyY4a_5⟩) (by assumption) ?restY4a_5
      case hyY4a_5 => (intro w hSw; (try dsimp only at hSw); go_split_ands; go_simp; (try with_reducible rfl))
      try simp only [Act.put, sA, sB, sC]
      refine wpAnyH_takeR (i := 5) (v := ?vY4a_6) hops hns rdY4_5 (by rfl) frY4_1 rfl (fun _ _ _ h => h) stY4_5 (Or.inl ⟨by kernel_rfl, ?hyY4a_6⟩) (by assumption) ?restY4a_6
      case hyY4a_6 => (intro w hSw; (try dsimp only at hSw); go_split_ands; go_simp; (try with_reducible rfl))
      try simp only [Act.put, sA, sB, sC]
      refine wpAnyH_takeR (i := 6) (v := ?vY4a_7) hops hns rdY4_6 (by rfl) frY4_2 rfl (fun _ _ _ h => h) stY4_6 (Or.inl ⟨by kernel_rfl, ?hyY4a_7⟩) (by assumption) ?restY4a_7
      case hyY4a_7 => (intro w hSw; (try dsimp only at hSw); go_split_ands; go_simp; (try with_reducible rfl))
      try simp only [Act.put, sA, sB, sC]
      refine wpAnyH_takeR (i := 7) (v := ?vY4a_8) hops hns rdY4_7 (by rfl) frY4_3 rfl (fun _ _ _ h => h) stY4_7 (Or.inl ⟨by kernel_rfl, ?hyY4a_8⟩) (by assumption) ?restY4a_8
      case hyY4a_8 => (intro w hSw; (try dsimp only at hSw); go_split_ands; go_simp; (try with_reducible rfl))
      try simp only [Act.put, sA, sB, sC]
      refine wpAnyH_takeR (i := 8) (v := ?vY4a_9) hops hns rdY4_8 (by rfl) frY4_4 rfl (fun _ _ _ h => h) stY4_8 (Or.inl ⟨by kernel_rfl, ?hyY4a_9⟩) (by assumption) ?restY4a_9
      case hyY4a_9 => (intro w hSw; (try dsimp only at hSw); go_split_ands; go_simp; (try with_reducible rfl))
      try simp only [Act.put, sA, sB, sC]
      refine wpAnyH_oneR (i := 9) (v := ?vY4a_10) hops rdY4_9 rfl stY4_9 (Or.inl ⟨by kernel_rfl, ?hyY4a_10⟩) (by assumption) ?restY4a_10
      case hyY4a_10 => (intro w hSw; (try dsimp only at hSw); go_split_ands; go_simp; (try with_reducible rfl))
      try simp only [Act.put, sA, sB, sC]
      refine wpAnyH_oneR (i := 10) (v := .bool q) hops rdY4_10 rfl stY4_10 (Or.inl ⟨by kernel_rfl, ?hyY4a_11⟩) (by assumption) ?restY4a_11
      case hyY4a_11 => (intro w hSw; (try dsimp only at hSw); go_split_ands; go_simp; rw [eq93, ← hqe.out]; rfl)
      try simp only [Act.put, sA, sB, sC]
      refine wpAnyH_oneR (i := 11) (v := ?vY4a_12) hops rdY4_11 rfl stY4_11 (Or.inl ⟨by kernel_rfl, ?hyY4a_12⟩) (by assumption) ?restY4a_12
      case hyY4a_12 => (intro w hSw; (try dsimp only at hSw); go_split_ands; go_simp; (try with_reducible rfl))
      try simp only [Act.put, sA, sB, sC]
      refine wpAnyH_doneR hops rdY4_12 ?_
      clear hSd hqe x0 x1 y0 y1
      replace hs3 := Lib.hid (hs3.out.below (Below.refl _ _).drew)
      replace hB := Lib.hid hB.out.drew
      replace hR : Hid (wc.drew.heap[w.heap.size]? = some (.cells #[.string a, .string b] 93 (0, 0))) := hR
      generalize wc.drew = wc at *
      cases q with
      | true =>
        go_wp2_with fail
        first | go_ret | go_end0
        exact ⟨_, es, rfl, by rw [hm.out]; omega, hs3.out, Fr.refl _ _, hB.out⟩
      | false =>
      have oa : Hid (((wc.alloc (.cells #[] 93)).alloc (.cells [.string a, .string b].toArray 93)).ownsRow wc.heap.size 93 2 (.slice (some ⟨wc.heap.size, 0, none⟩) 0 0) 0 []) := Lib.hid ((own_lit wc wc.heap.size 93 2 0 [] (Nat.le_refl _) rfl (by omega)).alloc _)
      have ob : Hid (((wc.alloc (.cells [.string a, .string b].toArray 93)).alloc (.cells #[] 93)).ownsRow wc.heap.size 93 2 (.slice (some ⟨wc.heap.size + 1, 0, none⟩) 0 0) 0 []) := Lib.hid (by
        have := own_lit (wc.alloc (.cells [.string a, .string b].toArray 93)) wc.heap.size 93 2 0 [] (by simp) rfl (by omega)
        rw [World.size_alloc] at this
        exact this)
      have oc : Hid ((wc.alloc (.cells #[] 93)).ownsRow wc.heap.size 93 2 (.slice (some ⟨wc.heap.size, 0, none⟩) 0 0) 0 []) := Lib.hid (own_lit wc wc.heap.size 93 2 0 [] (Nat.le_refl _) rfl (by omega))
      have k3' : (0 : Int) ≤ (k : Int) := by omega
      have k4' : (k : Int) ≤ (n : Int) := by omega
      have k5' : (k : Int) ≤ (c : Int) := by omega
      have hrt : Hid (Rd wc (some ⟨g, 0, none⟩) (edV (es.take k))) := Lib.hid (by
        have := (hr.out.below hB.out).take (k * 2)
        rwa [edV_take] at this)
      have hrd : Hid (Rd wc (if c = k then some ⟨g, 0, none⟩ else some ⟨g, k * 2, none⟩) (edV (es.drop k))) := Lib.hid (by
        split
        · rw [List.drop_of_length_le (by rw [← hm.out]; omega)]; exact Rd.nil _ _
        · have h0 := (hr.out.below hB.out).dropA (k * 2)
          rwa [add_plain, edV_drop] at h0)
      go_upto_region 6 with fail
      refine wp_region_heldR (S := fun w' => Below wc.heap.size wc w') opsY6 _ (by kernel_rfl) liY6 (by kernel_rfl) nsY6 ((Below.refl wc.heap.size wc).drew) (fun hops hns hHeld => ?_)
      refine wpAnyH_takeR (i := 1) (v := ?vY6a_1) hops hns rdY6_0 (by rfl) frY6_0 rfl (fun _ _ _ h => h) stY6_0 (Or.inl ⟨by kernel_rfl, ?hyY6a_1⟩) (by assumption) ?restY6a_1
      case hyY6a_1 => (intro w hSw; go_simp; (try with_reducible rfl))
      try simp only [Act.put, sA, sB, sC]
      refine wpAnyH_takeR (i := 2) (v := ?vY6a_2) hops hns rdY6_1 (by rfl) frY6_1 rfl (fun _ _ _ h => h) stY6_1 (Or.inl ⟨by kernel_rfl, ?hyY6a_2⟩) (by assumption) ?restY6a_2
      case hyY6a_2 => (intro w hSw; go_simp; (try with_reducible rfl))
      try simp only [Act.put, sA, sB, sC]
      refine wpAnyH_takeR (i := 3) (v := ?vY6a_3) hops hns rdY6_2 (by rfl) frY6_2 rfl (fun _ _ _ h => h) stY6_2 (Or.inl ⟨by kernel_rfl, ?hyY6a_3⟩) (by assumption) ?restY6a_3
      case hyY6a_3 => (intro w hSw; go_simp; (try with_reducible rfl))
      try simp only [Act.put, sA, sB, sC]
      refine wpAnyH_takeR (i := 5) (v := ?vY6a_4) hops hns rdY6_3 (by rfl) frY6_3 rfl (fun _ _ _ h => h) stY6_3 (Or.inl ⟨by kernel_rfl, ?hyY6a_4⟩) (by assumption) ?restY6a_4
      case hyY6a_4 => (intro w hSw; obtain ⟨x0, x1⟩ := hrr.out _ (bl_row hSw hR.out); clear hSw; go_simp; (try with_reducible rfl))
      try simp only [Act.put, sA, sB, sC]
      refine wpAnyH_takeR (i := 8) (v := ?vY6a_5) hops hns rdY6_4 (by rfl) frY6_4 rfl (fun _ _ _ h => h) stY6_4 (Or.inl ⟨by kernel_rfl, ?hyY6a_5⟩) (by assumption) ?restY6a_5
      case hyY6a_5 => (intro w hSw; go_simp; (try with_reducible rfl))
      try simp only [Act.put, sA, sB, sC]
      refine wpAnyH_takeR (i := 9) (v := ?vY6a_6) hops hns rdY6_5 (by rfl) frY6_5 rfl (fun _ _ _ h => h) stY6_5 (Or.inl ⟨by kernel_rfl, ?hyY6a_6⟩) (by assumption) ?restY6a_6
      case hyY6a_6 => (intro w hSw; go_simp; (try with_reducible rfl))
      try simp only [Act.put, sA, sB, sC]
      refine wpAnyH_takeR (i := 10) (v := ?vY6a_7) hops hns rdY6_6 (by rfl) frY6_6 rfl (fun _ _ _ h => h) stY6_6 (Or.inl ⟨by kernel_rfl, ?hyY6a_7⟩) (by assumption) ?restY6a_7
      case hyY6a_7 => (intro w hSw; go_simp; (try with_reducible rfl))
      try simp only [Act.put, sA, sB, sC]
      refine wpAnyH_readyR (rs := [0, 6]) hops rdY6_7 (by simp) (AllReadyH.consR rfl stY6_8 (fun K hK => ?_) (AllReadyH.consR rfl stY6_7 (fun K hK => ?_) AllReadyH.nil))
      · skip
        go_simp
        refine hK.out _ _ (by repeat (with_reducible (first | assumption | exact hBo.out | exact Below.refl _ _ | apply bl_alloc | apply Below.drew))) (fun hHeld => ?_)
        clear hK K
        try simp only [Act.put, sA, sB, sC]
        refine wpAnyH_readyR (rs := [4, 6]) hops rdY6_8 (by simp) (AllReadyH.consR rfl stY6_10 (fun K hK => ?_) (AllReadyH.consR rfl stY6_9 (fun K hK => ?_) AllReadyH.nil))
        · skip
          refine step_app wc.heap.size rfl _ _ 45 93 (.agg #[.string ⟨#[]⟩, .string ⟨#[]⟩]) 2 32 rfl Try.underlying45 info93 rfl (by decide) (by decide) (.slice (some ⟨wc.heap.size, 0, none⟩) 0 0) 0 [] rfl oc.out (by first | exact hBo.out.size | (simp; done) | (have := hBo.out.size; simp; omega) | (simp; omega)) (some ⟨g, 0, none⟩) k c (edV (es.take k)) rfl (by have := hm.out; simp only [edV_len, List.length_take]; omega) (hrt.out.below (by repeat (with_reducible (first | exact Below.refl _ _ | apply bl_alloc | apply Below.drew)))) (fun e => by cases e) (edV_one _) (by omega) ?_
          intro v1 w1 ho1 hb1 hg1 hat1
          replace ho1 := Lib.hid ho1
          replace hg1 := Lib.hid hg1
          have hBo := Lib.hid (show Below wc.heap.size wc w1 from Below.trans (by repeat (with_reducible (first | exact hBo.out | exact Below.refl _ _ | apply bl_alloc | apply Below.drew))) hb1)
          clear hat1 hb1
          refine hK.out _ _ (by exact hBo.out) (fun hHeld => ?_)
          clear hK K
          try simp only [Act.put, sA, sB, sC]
          refine wpAnyH_readyR (rs := [6]) hops rdY6_9 (by simp) (AllReadyH.consR rfl stY6_11 (fun K hK => ?_) AllReadyH.nil)
          go_simp
          refine hK.out _ _ (by exact bl_alloc hBo.out _) (fun hHeld => ?_)
          clear hK K
          try simp only [Act.put, sA, sB, sC]
          refine wpAnyH_readyR (rs := [7]) hops rdY6_10 (by simp) (AllReadyH.consR rfl stY6_12 (fun K hK => ?_) AllReadyH.nil)
          refine step_app wc.heap.size rfl _ _ 45 93 (.agg #[.string ⟨#[]⟩, .string ⟨#[]⟩]) 2 32 rfl Try.underlying45 info93 rfl (by decide) (by decide) v1 (0 + k) ([] ++ edV (es.take k)) rfl (own_below ho1.out (by repeat (with_reducible (first | exact Below.refl _ _ | apply bl_alloc | apply Below.drew)))) (by first | exact hBo.out.size | (simp; done) | (have := hBo.out.size; simp; omega) | (simp; omega)) (some ⟨w1.heap.size, 0, none⟩) 1 1 [.string a, .string b] rfl rfl (rd_new w1 [.string a, .string b] 93) (fun e => by cases e) (by simp [Value.oneCell']) (by omega) ?_
          intro v2 w2 ho2 hb2 hg2 hat2
          replace ho2 := Lib.hid ho2
          replace hg2 := Lib.hid hg2
          have hBo := Lib.hid (show Below wc.heap.size wc w2 from Below.trans (by repeat (with_reducible (first | exact hBo.out | exact Below.refl _ _ | apply bl_alloc | apply Below.drew))) hb2)
          clear hat2 hb2
          refine hK.out _ _ (by exact hBo.out) (fun hHeld => ?_)
          clear hK K
          try simp only [Act.put, sA, sB, sC]
          refine wpAnyH_readyR (rs := [11]) hops rdY6_11 (by simp) (AllReadyH.consR rfl stY6_13 (fun K hK => ?_) AllReadyH.nil)
          refine step_app wc.heap.size rfl _ _ 45 93 (.agg #[.string ⟨#[]⟩, .string ⟨#[]⟩]) 2 32 rfl Try.underlying45 info93 rfl (by decide) (by decide) v2 (0 + k + 1) ([] ++ edV (es.take k) ++ [.string a, .string b]) rfl ho2.out (by first | exact hBo.out.size | (simp; done) | (have := hBo.out.size; simp; omega) | (simp; omega)) (if c = k then some ⟨g, 0, none⟩ else some ⟨g, k * 2, none⟩) (n - k) (c - k) (edV (es.drop k)) rfl (by have := hm.out; simp only [edV_len, List.length_drop]; omega) (hrd.out.below hBo.out) (fun e => by split at e <;> cases e) (edV_one _) (by omega) ?_
          intro v3 w3 ho3 hb3 hg3 hat3
          replace ho3 := Lib.hid ho3
          replace hg3 := Lib.hid hg3
          have hBo := Lib.hid (show Below wc.heap.size wc w3 from Below.trans (by repeat (with_reducible (first | exact hBo.out | exact Below.refl _ _ | apply bl_alloc | apply Below.drew))) hb3)
          clear hat3 hb3
          refine hK.out _ _ (by exact hBo.out) (fun hHeld => ?_)
          clear hK K
          try simp only [Act.put, sA, sB, sC]
          refine wpAnyH_oneR (i := 12) (v := ?vY6a_8) hops rdY6_12 rfl stY6_14 (Or.inl ⟨by kernel_rfl, ?hyY6a_8⟩) (by assumption) ?restY6a_8
          case hyY6a_8 => (intro w hSw; go_simp; (try with_reducible rfl))
          try simp only [Act.put, sA, sB, sC]
          refine wpAnyH_doneR hops rdY6_13 ?_
          have hsl := Lib.hid (SlEd.own (es := es.take k ++ [(a, b)] ++ es.drop k) ho3.out (by simp [edV_app, edV]))
          go_wp2_with fail
          all_goals (first | go_ret | go_end0)
          all_goals exact ⟨_, _, rfl, by have := hm.out; simp only [List.length_append, List.length_take, List.length_drop, List.length_cons, List.length_nil]; omega, hsl.out, .inr (fun b h => Nat.le_trans hB.out.size (ho3.out.lt b h).1), bl_then hB.out hB.out.size hBo.out⟩
        · skip
          go_simp
          refine hK.out _ _ (by repeat (with_reducible (first | assumption | exact hBo.out | exact Below.refl _ _ | apply bl_alloc | apply Below.drew))) (fun hHeld => ?_)
          clear hK K
          try simp only [Act.put, sA, sB, sC]
          refine wpAnyH_readyR (rs := [4]) hops rdY6_14 (by simp) (AllReadyH.consR rfl stY6_15 (fun K hK => ?_) AllReadyH.nil)
          refine step_app wc.heap.size rfl _ _ 45 93 (.agg #[.string ⟨#[]⟩, .string ⟨#[]⟩]) 2 32 rfl Try.underlying45 info93 rfl (by decide) (by decide) (.slice (some ⟨wc.heap.size, 0, none⟩) 0 0) 0 [] rfl oa.out (by first | exact hBo.out.size | (simp; done) | (have := hBo.out.size; simp; omega) | (simp; omega)) (some ⟨g, 0, none⟩) k c (edV (es.take k)) rfl (by have := hm.out; simp only [edV_len, List.length_take]; omega) (hrt.out.below (by repeat (with_reducible (first | exact Below.refl _ _ | apply bl_alloc | apply Below.drew)))) (fun e => by cases e) (edV_one _) (by omega) ?_
          intro v1 w1 ho1 hb1 hg1 hat1
          replace ho1 := Lib.hid ho1
          replace hg1 := Lib.hid hg1
          have hBo := Lib.hid (show Below wc.heap.size wc w1 from Below.trans (by repeat (with_reducible (first | exact hBo.out | exact Below.refl _ _ | apply bl_alloc | apply Below.drew))) hb1)
          clear hat1 hb1
          refine hK.out _ _ (by exact hBo.out) (fun hHeld => ?_)
          clear hK K
          try simp only [Act.put, sA, sB, sC]
          have hS1 := Lib.hid (rd_row (xs := [.string a, .string b]) (t := 93) ((hg1.out.block (wc.heap.size + 1) (by show wc.heap.size + 1 < ((wc.alloc _).alloc _).heap.size; rw [World.size_alloc, World.size_alloc]; omega) (by intro e; simp only [Value.ownBlock, Option.some.injEq] at e; omega)).trans (row_n2 wc _ _)))
          refine wpAnyH_readyR (rs := [7]) hops rdY6_10 (by simp) (AllReadyH.consR rfl stY6_12 (fun K hK => ?_) AllReadyH.nil)
          refine step_app wc.heap.size rfl _ _ 45 93 (.agg #[.string ⟨#[]⟩, .string ⟨#[]⟩]) 2 32 rfl Try.underlying45 info93 rfl (by decide) (by decide) v1 (0 + k) ([] ++ edV (es.take k)) rfl ho1.out (by first | exact hBo.out.size | (simp; done) | (have := hBo.out.size; simp; omega) | (simp; omega)) (some ⟨wc.heap.size + 1, 0, none⟩) 1 1 [.string a, .string b] rfl rfl hS1.out (fun e => by cases e) (by simp [Value.oneCell']) (by omega) ?_
          intro v2 w2 ho2 hb2 hg2 hat2
          replace ho2 := Lib.hid ho2
          replace hg2 := Lib.hid hg2
          have hBo := Lib.hid (show Below wc.heap.size wc w2 from Below.trans (by repeat (with_reducible (first | exact hBo.out | exact Below.refl _ _ | apply bl_alloc | apply Below.drew))) hb2)
          clear hat2 hb2
          refine hK.out _ _ (by exact hBo.out) (fun hHeld => ?_)
          clear hK K
          try simp only [Act.put, sA, sB, sC]
          refine wpAnyH_readyR (rs := [11]) hops rdY6_11 (by simp) (AllReadyH.consR rfl stY6_13 (fun K hK => ?_) AllReadyH.nil)
          refine step_app wc.heap.size rfl _ _ 45 93 (.agg #[.string ⟨#[]⟩, .string ⟨#[]⟩]) 2 32 rfl Try.underlying45 info93 rfl (by decide) (by decide) v2 (0 + k + 1) ([] ++ edV (es.take k) ++ [.string a, .string b]) rfl ho2.out (by first | exact hBo.out.size | (simp; done) | (have := hBo.out.size; simp; omega) | (simp; omega)) (if c = k then some ⟨g, 0, none⟩ else some ⟨g, k * 2, none⟩) (n - k) (c - k) (edV (es.drop k)) rfl (by have := hm.out; simp only [edV_len, List.length_drop]; omega) (hrd.out.below hBo.out) (fun e => by split at e <;> cases e) (edV_one _) (by omega) ?_
          intro v3 w3 ho3 hb3 hg3 hat3
          replace ho3 := Lib.hid ho3
          replace hg3 := Lib.hid hg3
          have hBo := Lib.hid (show Below wc.heap.size wc w3 from Below.trans (by repeat (with_reducible (first | exact hBo.out | exact Below.refl _ _ | apply bl_alloc | apply Below.drew))) hb3)
          clear hat3 hb3
          refine hK.out _ _ (by exact hBo.out) (fun hHeld => ?_)
          clear hK K
          try simp only [Act.put, sA, sB, sC]
          refine wpAnyH_oneR (i := 12) (v := ?vY6a_9) hops rdY6_12 rfl stY6_14 (Or.inl ⟨by kernel_rfl, ?hyY6a_9⟩) (by assumption) ?restY6a_9
          case hyY6a_9 => (intro w hSw; go_simp; (try with_reducible rfl))
          try simp only [Act.put, sA, sB, sC]
          refine wpAnyH_doneR hops rdY6_13 ?_
          have hsl := Lib.hid (SlEd.own (es := es.take k ++ [(a, b)] ++ es.drop k) ho3.out (by simp [edV_app, edV]))
          go_wp2_with fail
          all_goals (first | go_ret | go_end0)
          all_goals exact ⟨_, _, rfl, by have := hm.out; simp only [List.length_append, List.length_take, List.length_drop, List.length_cons, List.length_nil]; omega, hsl.out, .inr (fun b h => Nat.le_trans hB.out.size (ho3.out.lt b h).1), bl_then hB.out hB.out.size hBo.out⟩
      · skip
        go_simp
        refine hK.out _ _ (by repeat (with_reducible (first | assumption | exact hBo.out | exact Below.refl _ _ | apply bl_alloc | apply Below.drew))) (fun hHeld => ?_)
        clear hK K
        try simp only [Act.put, sA, sB, sC]
        refine wpAnyH_readyR (rs := [0]) hops rdY6_15 (by simp) (AllReadyH.consR rfl stY6_16 (fun K hK => ?_) AllReadyH.nil)
        go_simp
        refine hK.out _ _ (by repeat (with_reducible (first | assumption | exact hBo.out | exact Below.refl _ _ | apply bl_alloc | apply Below.drew))) (fun hHeld => ?_)
        clear hK K
        try simp only [Act.put, sA, sB, sC]
        refine wpAnyH_readyR (rs := [4]) hops rdY6_14 (by simp) (AllReadyH.consR rfl stY6_15 (fun K hK => ?_) AllReadyH.nil)
        refine step_app wc.heap.size rfl _ _ 45 93 (.agg #[.string ⟨#[]⟩, .string ⟨#[]⟩]) 2 32 rfl Try.underlying45 info93 rfl (by decide) (by decide) (.slice (some ⟨wc.heap.size + 1, 0, none⟩) 0 0) 0 [] rfl ob.out (by first | exact hBo.out.size | (simp; done) | (have := hBo.out.size; simp; omega) | (simp; omega)) (some ⟨g, 0, none⟩) k c (edV (es.take k)) rfl (by have := hm.out; simp only [edV_len, List.length_take]; omega) (hrt.out.below (by repeat (with_reducible (first | exact Below.refl _ _ | apply bl_alloc | apply Below.drew)))) (fun e => by cases e) (edV_one _) (by omega) ?_
        intro v1 w1 ho1 hb1 hg1 hat1
        replace ho1 := Lib.hid ho1
        replace hg1 := Lib.hid hg1
        have hBo := Lib.hid (show Below wc.heap.size wc w1 from Below.trans (by repeat (with_reducible (first | exact hBo.out | exact Below.refl _ _ | apply bl_alloc | apply Below.drew))) hb1)
        clear hat1 hb1
        refine hK.out _ _ (by exact hBo.out) (fun hHeld => ?_)
        clear hK K
        try simp only [Act.put, sA, sB, sC]
        have hS2 := Lib.hid (rd_row (xs := [.string a, .string b]) (t := 93) ((hg1.out.block wc.heap.size (by show wc.heap.size < ((wc.alloc _).alloc _).heap.size; rw [World.size_alloc, World.size_alloc]; omega) (by intro e; simp only [Value.ownBlock, Option.some.injEq] at e; omega)).trans (row_n1 wc _ _)))
        refine wpAnyH_readyR (rs := [7]) hops rdY6_10 (by simp) (AllReadyH.consR rfl stY6_12 (fun K hK => ?_) AllReadyH.nil)
        refine step_app wc.heap.size rfl _ _ 45 93 (.agg #[.string ⟨#[]⟩, .string ⟨#[]⟩]) 2 32 rfl Try.underlying45 info93 rfl (by decide) (by decide) v1 (0 + k) ([] ++ edV (es.take k)) rfl ho1.out (by first | exact hBo.out.size | (simp; done) | (have := hBo.out.size; simp; omega) | (simp; omega)) (some ⟨wc.heap.size, 0, none⟩) 1 1 [.string a, .string b] rfl rfl hS2.out (fun e => by cases e) (by simp [Value.oneCell']) (by omega) ?_
        intro v2 w2 ho2 hb2 hg2 hat2
        replace ho2 := Lib.hid ho2
        replace hg2 := Lib.hid hg2
        have hBo := Lib.hid (show Below wc.heap.size wc w2 from Below.trans (by repeat (with_reducible (first | exact hBo.out | exact Below.refl _ _ | apply bl_alloc | apply Below.drew))) hb2)
        clear hat2 hb2
        refine hK.out _ _ (by exact hBo.out) (fun hHeld => ?_)
        clear hK K
        try simp only [Act.put, sA, sB, sC]
        refine wpAnyH_readyR (rs := [11]) hops rdY6_11 (by simp) (AllReadyH.consR rfl stY6_13 (fun K hK => ?_) AllReadyH.nil)
        refine step_app wc.heap.size rfl _ _ 45 93 (.agg #[.string ⟨#[]⟩, .string ⟨#[]⟩]) 2 32 rfl Try.underlying45 info93 rfl (by decide) (by decide) v2 (0 + k + 1) ([] ++ edV (es.take k) ++ [.string a, .string b]) rfl ho2.out (by first | exact hBo.out.size | (simp; done) | (have := hBo.out.size; simp; omega) | (simp; omega)) (if c = k then some ⟨g, 0, none⟩ else some ⟨g, k * 2, none⟩) (n - k) (c - k) (edV (es.drop k)) rfl (by have := hm.out; simp only [edV_len, List.length_drop]; omega) (hrd.out.below hBo.out) (fun e => by split at e <;> cases e) (edV_one _) (by omega) ?_
        intro v3 w3 ho3 hb3 hg3 hat3
        replace ho3 := Lib.hid ho3
        replace hg3 := Lib.hid hg3
        have hBo := Lib.hid (show Below wc.heap.size wc w3 from Below.trans (by repeat (with_reducible (first | exact hBo.out | exact Below.refl _ _ | apply bl_alloc | apply Below.drew))) hb3)
        clear hat3 hb3
        refine hK.out _ _ (by exact hBo.out) (fun hHeld => ?_)
        clear hK K
        try simp only [Act.put, sA, sB, sC]
        refine wpAnyH_oneR (i := 12) (v := ?vY6a_10) hops rdY6_12 rfl stY6_14 (Or.inl ⟨by kernel_rfl, ?hyY6a_10⟩) (by assumption) ?restY6a_10
        case hyY6a_10 => (intro w hSw; go_simp; (try with_reducible rfl))
        try simp only [Act.put, sA, sB, sC]
        refine wpAnyH_doneR hops rdY6_13 ?_
        have hsl := Lib.hid (SlEd.own (es := es.take k ++ [(a, b)] ++ es.drop k) ho3.out (by simp [edV_app, edV]))
        go_wp2_with fail
        all_goals (first | go_ret | go_end0)
        all_goals exact ⟨_, _, rfl, by have := hm.out; simp only [List.length_append, List.length_take, List.length_drop, List.length_cons, List.length_nil]; omega, hsl.out, .inr (fun b h => Nat.le_trans hB.out.size (ho3.out.lt b h).1), bl_then hB.out hB.out.size hBo.out⟩
    · have d1 : decide ((k : Int) < (n : Int)) = false := by simp; omega
      have hkn' : Hid (k = n) := Lib.hid (by omega)
      clear x0 x1
      go_upto_region 4 with fail
      refine wp_region_heldR (S := fun _ => True) opsY4 _ (by kernel_rfl) liY4 (by kernel_rfl) nsY4 (trivial) (fun hops hns hHeld => ?_)
      refine wpAnyH_takeR (i := 0) (v := ?vY4b_1) hops hns rdY4_0 (by rfl) frY4_0 rfl (fun _ _ _ h => h) stY4_0 (Or.inl ⟨by kernel_rfl, ?hyY4b_1⟩) (by assumption) ?restY4b_1
      case hyY4b_1 => (intro w hSw; (try dsimp only at hSw); go_split_ands; go_simp; (try with_reducible rfl))
      try simp only [Act.put, sA, sB, sC]
      refine wpAnyH_oneR (i := 1) (v := ?vY4b_2) hops rdY4_1 rfl stY4_1 (Or.inl ⟨by kernel_rfl, ?hyY4b_2⟩) (by assumption) ?restY4b_2
      case hyY4b_2 => (intro w hSw; (try dsimp only at hSw); go_split_ands; go_simp; (try with_reducible rfl))
      try simp only [Act.put, sA, sB, sC]
      refine wpAnyH_oneR (i := 2) (v := ?vY4b_3) hops rdY4_2 rfl stY4_2 (Or.inl ⟨by kernel_rfl, ?hyY4b_3⟩) (by assumption) ?restY4b_3
      case hyY4b_3 => (intro w hSw; (try dsimp only at hSw); go_split_ands; go_simp; (try with_reducible rfl))
      try simp only [Act.put, sA, sB, sC]
      refine wpAnyH_oneR (i := 3) (v := ?vY4b_4) hops rdY4_3 rfl stY4_3 (Or.inl ⟨by kernel_rfl, ?hyY4b_4⟩) (by assumption) ?restY4b_4
      case hyY4b_4 => (intro w hSw; (try dsimp only at hSw); go_split_ands; go_simp; (try with_reducible rfl))
      try simp only [Act.put, sA, sB, sC]
      refine wpAnyH_oneR (i := 4) (v := ?vY4b_5) hops rdY4_4 rfl stY4_4 (Or.inl ⟨by kernel_rfl, ?hyY4b_5⟩) (by assumption) ?restY4b_5
      case hyY4b_5 => (intro w hSw; (try dsimp only at hSw); go_split_ands; go_simp; (try with_reducible rfl))
      try simp only [Act.put, sA, sB, sC]
      refine wpAnyH_takeR (i := 5) (v := undef) hops hns rdY4_5 (by rfl) frY4_1 rfl (fun _ _ _ h => h) stY4_5 (Or.inr ⟨by kernel_rfl, rfl⟩) (by assumption) ?_
      try simp only [Act.put, sA, sB, sC]
      refine wpAnyH_takeR (i := 6) (v := undef) hops hns rdY4_6 (by rfl) frY4_2 rfl (fun _ _ _ h => h) stY4_6 (Or.inr ⟨by kernel_rfl, rfl⟩) (by assumption) ?_
      try simp only [Act.put, sA, sB, sC]
      refine wpAnyH_takeR (i := 7) (v := undef) hops hns rdY4_7 (by rfl) frY4_3 rfl (fun _ _ _ h => h) stY4_7 (Or.inr ⟨by kernel_rfl, rfl⟩) (by assumption) ?_
      try simp only [Act.put, sA, sB, sC]
      refine wpAnyH_takeR (i := 8) (v := undef) hops hns rdY4_8 (by rfl) frY4_4 rfl (fun _ _ _ h => h) stY4_8 (Or.inr ⟨by kernel_rfl, rfl⟩) (by assumption) ?_
      try simp only [Act.put, sA, sB, sC]
      refine wpAnyH_oneR (i := 9) (v := undef) hops rdY4_9 rfl stY4_9 (Or.inr ⟨by kernel_rfl, rfl⟩) (by assumption) ?_
      try simp only [Act.put, sA, sB, sC]
      refine wpAnyH_oneR (i := 10) (v := undef) hops rdY4_10 rfl stY4_10 (Or.inr ⟨by kernel_rfl, rfl⟩) (by assumption) ?_
      try simp only [Act.put, sA, sB, sC]
      refine wpAnyH_oneR (i := 11) (v := ?vY4b_6) hops rdY4_11 rfl stY4_11 (Or.inl ⟨by kernel_rfl, ?hyY4b_6⟩) (by assumption) ?restY4b_6
      case hyY4b_6 => (intro w hSw; (try dsimp only at hSw); go_split_ands; go_simp; (try with_reducible rfl))
      try simp only [Act.put, sA, sB, sC]
      refine wpAnyH_doneR hops rdY4_12 ?_
      clear hkn
      replace hs3 := Lib.hid (hs3.out.below (Below.refl _ _).drew)
      replace hB := Lib.hid hB.out.drew
      replace hR : Hid (wc.drew.heap[w.heap.size]? = some (.cells #[.string a, .string b] 93 (0, 0))) := hR
      generalize wc.drew = wc at *
      have oa : Hid (((wc.alloc (.cells #[] 93)).alloc (.cells [.string a, .string b].toArray 93)).ownsRow wc.heap.size 93 2 (.slice (some ⟨wc.heap.size, 0, none⟩) 0 0) 0 []) := Lib.hid ((own_lit wc wc.heap.size 93 2 0 [] (Nat.le_refl _) rfl (by omega)).alloc _)
      have ob : Hid (((wc.alloc (.cells [.string a, .string b].toArray 93)).alloc (.cells #[] 93)).ownsRow wc.heap.size 93 2 (.slice (some ⟨wc.heap.size + 1, 0, none⟩) 0 0) 0 []) := Lib.hid (by
        have := own_lit (wc.alloc (.cells [.string a, .string b].toArray 93)) wc.heap.size 93 2 0 [] (by simp) rfl (by omega)
        rw [World.size_alloc] at this
        exact this)
      have oc : Hid ((wc.alloc (.cells #[] 93)).ownsRow wc.heap.size 93 2 (.slice (some ⟨wc.heap.size, 0, none⟩) 0 0) 0 []) := Lib.hid (own_lit wc wc.heap.size 93 2 0 [] (Nat.le_refl _) rfl (by omega))
      have k3' : (0 : Int) ≤ (k : Int) := by omega
      have k4' : (k : Int) ≤ (n : Int) := by omega
      have k5' : (k : Int) ≤ (c : Int) := by omega
      cases A with
      | some ad =>
        obtain ⟨g, rfl⟩ : ∃ g, ad = ⟨g, 0, none⟩ := ⟨ad.block, hpl.out ad rfl⟩
        have hrt : Hid (Rd wc (some ⟨g, 0, none⟩) (edV (es.take k))) := Lib.hid (by
          have := (hr.out.below hB.out).take (k * 2)
          rwa [edV_take] at this)
        have hrd : Hid (Rd wc (if c = k then some ⟨g, 0, none⟩ else some ⟨g, k * 2, none⟩) (edV (es.drop k))) := Lib.hid (by
          split
          · rw [List.drop_of_length_le (by rw [← hm.out]; omega)]; exact Rd.nil _ _
          · have h0 := (hr.out.below hB.out).dropA (k * 2)
            rwa [add_plain, edV_drop] at h0)
        go_upto_region 6 with fail
        refine wp_region_heldR (S := fun w' => Below wc.heap.size wc w') opsY6 _ (by kernel_rfl) liY6 (by kernel_rfl) nsY6 ((Below.refl wc.heap.size wc).drew) (fun hops hns hHeld => ?_)
        refine wpAnyH_takeR (i := 1) (v := ?vY6b_1) hops hns rdY6_0 (by rfl) frY6_0 rfl (fun _ _ _ h => h) stY6_0 (Or.inl ⟨by kernel_rfl, ?hyY6b_1⟩) (by assumption) ?restY6b_1
        case hyY6b_1 => (intro w hSw; go_simp; (try with_reducible rfl))
        try simp only [Act.put, sA, sB, sC]
        refine wpAnyH_takeR (i := 2) (v := ?vY6b_2) hops hns rdY6_1 (by rfl) frY6_1 rfl (fun _ _ _ h => h) stY6_1 (Or.inl ⟨by kernel_rfl, ?hyY6b_2⟩) (by assumption) ?restY6b_2
        case hyY6b_2 => (intro w hSw; go_simp; (try with_reducible rfl))
        try simp only [Act.put, sA, sB, sC]
        refine wpAnyH_takeR (i := 3) (v := ?vY6b_3) hops hns rdY6_2 (by rfl) frY6_2 rfl (fun _ _ _ h => h) stY6_2 (Or.inl ⟨by kernel_rfl, ?hyY6b_3⟩) (by assumption) ?restY6b_3
        case hyY6b_3 => (intro w hSw; go_simp; (try with_reducible rfl))
        try simp only [Act.put, sA, sB, sC]
        refine wpAnyH_takeR (i := 5) (v := ?vY6b_4) hops hns rdY6_3 (by rfl) frY6_3 rfl (fun _ _ _ h => h) stY6_3 (Or.inl ⟨by kernel_rfl, ?hyY6b_4⟩) (by assumption) ?restY6b_4
        case hyY6b_4 => (intro w hSw; obtain ⟨x0, x1⟩ := hrr.out _ (bl_row hSw hR.out); clear hSw; go_simp; (try with_reducible rfl))
        try simp only [Act.put, sA, sB, sC]
        refine wpAnyH_takeR (i := 8) (v := ?vY6b_5) hops hns rdY6_4 (by rfl) frY6_4 rfl (fun _ _ _ h => h) stY6_4 (Or.inl ⟨by kernel_rfl, ?hyY6b_5⟩) (by assumption) ?restY6b_5
        case hyY6b_5 => (intro w hSw; go_simp; (try with_reducible rfl))
        try simp only [Act.put, sA, sB, sC]
        refine wpAnyH_takeR (i := 9) (v := ?vY6b_6) hops hns rdY6_5 (by rfl) frY6_5 rfl (fun _ _ _ h => h) stY6_5 (Or.inl ⟨by kernel_rfl, ?hyY6b_6⟩) (by assumption) ?restY6b_6
        case hyY6b_6 => (intro w hSw; go_simp; (try with_reducible rfl))
        try simp only [Act.put, sA, sB, sC]
        refine wpAnyH_takeR (i := 10) (v := ?vY6b_7) hops hns rdY6_6 (by rfl) frY6_6 rfl (fun _ _ _ h => h) stY6_6 (Or.inl ⟨by kernel_rfl, ?hyY6b_7⟩) (by assumption) ?restY6b_7
        case hyY6b_7 => (intro w hSw; go_simp; (try with_reducible rfl))
        try simp only [Act.put, sA, sB, sC]
        refine wpAnyH_readyR (rs := [0, 6]) hops rdY6_7 (by simp) (AllReadyH.consR rfl stY6_8 (fun K hK => ?_) (AllReadyH.consR rfl stY6_7 (fun K hK => ?_) AllReadyH.nil))
        · skip
          go_simp
          refine hK.out _ _ (by repeat (with_reducible (first | assumption | exact hBo.out | exact Below.refl _ _ | apply bl_alloc | apply Below.drew))) (fun hHeld => ?_)
          clear hK K
          try simp only [Act.put, sA, sB, sC]
          refine wpAnyH_readyR (rs := [4, 6]) hops rdY6_8 (by simp) (AllReadyH.consR rfl stY6_10 (fun K hK => ?_) (AllReadyH.consR rfl stY6_9 (fun K hK => ?_) AllReadyH.nil))
          · skip
            refine step_app wc.heap.size rfl _ _ 45 93 (.agg #[.string ⟨#[]⟩, .string ⟨#[]⟩]) 2 32 rfl Try.underlying45 info93 rfl (by decide) (by decide) (.slice (some ⟨wc.heap.size, 0, none⟩) 0 0) 0 [] rfl oc.out (by first | exact hBo.out.size | (simp; done) | (have := hBo.out.size; simp; omega) | (simp; omega)) (some ⟨g, 0, none⟩) k c (edV (es.take k)) rfl (by have := hm.out; simp only [edV_len, List.length_take]; omega) (hrt.out.below (by repeat (with_reducible (first | exact Below.refl _ _ | apply bl_alloc | apply Below.drew)))) (fun e => by cases e) (edV_one _) (by omega) ?_
            intro v1 w1 ho1 hb1 hg1 hat1
            replace ho1 := Lib.hid ho1
            replace hg1 := Lib.hid hg1
            have hBo := Lib.hid (show Below wc.heap.size wc w1 from Below.trans (by repeat (with_reducible (first | exact hBo.out | exact Below.refl _ _ | apply bl_alloc | apply Below.drew))) hb1)
            clear hat1 hb1
            refine hK.out _ _ (by exact hBo.out) (fun hHeld => ?_)
            clear hK K
            try simp only [Act.put, sA, sB, sC]
            refine wpAnyH_readyR (rs := [6]) hops rdY6_9 (by simp) (AllReadyH.consR rfl stY6_11 (fun K hK => ?_) AllReadyH.nil)
            go_simp
            refine hK.out _ _ (by exact bl_alloc hBo.out _) (fun hHeld => ?_)
            clear hK K
            try simp only [Act.put, sA, sB, sC]
            refine wpAnyH_readyR (rs := [7]) hops rdY6_10 (by simp) (AllReadyH.consR rfl stY6_12 (fun K hK => ?_) AllReadyH.nil)
            refine step_app wc.heap.size rfl _ _ 45 93 (.agg #[.string ⟨#[]⟩, .string ⟨#[]⟩]) 2 32 rfl Try.underlying45 info93 rfl (by decide) (by decide) v1 (0 + k) ([] ++ edV (es.take k)) rfl (own_below ho1.out (by repeat (with_reducible (first | exact Below.refl _ _ | apply bl_alloc | apply Below.drew)))) (by first | exact hBo.out.size | (simp; done) | (have := hBo.out.size; simp; omega) | (simp; omega)) (some ⟨w1.heap.size, 0, none⟩) 1 1 [.string a, .string b] rfl rfl (rd_new w1 [.string a, .string b] 93) (fun e => by cases e) (by simp [Value.oneCell']) (by omega) ?_
            intro v2 w2 ho2 hb2 hg2 hat2
            replace ho2 := Lib.hid ho2
            replace hg2 := Lib.hid hg2
            have hBo := Lib.hid (show Below wc.heap.size wc w2 from Below.trans (by repeat (with_reducible (first | exact hBo.out | exact Below.refl _ _ | apply bl_alloc | apply Below.drew))) hb2)
            clear hat2 hb2
            refine hK.out _ _ (by exact hBo.out) (fun hHeld => ?_)
            clear hK K
            try simp only [Act.put, sA, sB, sC]
            refine wpAnyH_readyR (rs := [11]) hops rdY6_11 (by simp) (AllReadyH.consR rfl stY6_13 (fun K hK => ?_) AllReadyH.nil)
            refine step_app wc.heap.size rfl _ _ 45 93 (.agg #[.string ⟨#[]⟩, .string ⟨#[]⟩]) 2 32 rfl Try.underlying45 info93 rfl (by decide) (by decide) v2 (0 + k + 1) ([] ++ edV (es.take k) ++ [.string a, .string b]) rfl ho2.out (by first | exact hBo.out.size | (simp; done) | (have := hBo.out.size; simp; omega) | (simp; omega)) (if c = k then some ⟨g, 0, none⟩ else some ⟨g, k * 2, none⟩) (n - k) (c - k) (edV (es.drop k)) rfl (by have := hm.out; simp only [edV_len, List.length_drop]; omega) (hrd.out.below hBo.out) (fun e => by split at e <;> cases e) (edV_one _) (by omega) ?_
            intro v3 w3 ho3 hb3 hg3 hat3
            replace ho3 := Lib.hid ho3
            replace hg3 := Lib.hid hg3
            have hBo := Lib.hid (show Below wc.heap.size wc w3 from Below.trans (by repeat (with_reducible (first | exact hBo.out | exact Below.refl _ _ | apply bl_alloc | apply Below.drew))) hb3)
            clear hat3 hb3
            refine hK.out _ _ (by exact hBo.out) (fun hHeld => ?_)
            clear hK K
            try simp only [Act.put, sA, sB, sC]
            refine wpAnyH_oneR (i := 12) (v := ?vY6b_8) hops rdY6_12 rfl stY6_14 (Or.inl ⟨by kernel_rfl, ?hyY6b_8⟩) (by assumption) ?restY6b_8
            case hyY6b_8 => (intro w hSw; go_simp; (try with_reducible rfl))
            try simp only [Act.put, sA, sB, sC]
            refine wpAnyH_doneR hops rdY6_13 ?_
            have hsl := Lib.hid (SlEd.own (es := es.take k ++ [(a, b)] ++ es.drop k) ho3.out (by simp [edV_app, edV]))
            go_wp2_with fail
            all_goals (first | go_ret | go_end0)
            all_goals exact ⟨_, _, rfl, by have := hm.out; simp only [List.length_append, List.length_take, List.length_drop, List.length_cons, List.length_nil]; omega, hsl.out, .inr (fun b h => Nat.le_trans hB.out.size (ho3.out.lt b h).1), bl_then hB.out hB.out.size hBo.out⟩
          · skip
            go_simp
            refine hK.out _ _ (by repeat (with_reducible (first | assumption | exact hBo.out | exact Below.refl _ _ | apply bl_alloc | apply Below.drew))) (fun hHeld => ?_)
            clear hK K
            try simp only [Act.put, sA, sB, sC]
            refine wpAnyH_readyR (rs := [4]) hops rdY6_14 (by simp) (AllReadyH.consR rfl stY6_15 (fun K hK => ?_) AllReadyH.nil)
            refine step_app wc.heap.size rfl _ _ 45 93 (.agg #[.string ⟨#[]⟩, .string ⟨#[]⟩]) 2 32 rfl Try.underlying45 info93 rfl (by decide) (by decide) (.slice (some ⟨wc.heap.size, 0, none⟩) 0 0) 0 [] rfl oa.out (by first | exact hBo.out.size | (simp; done) | (have := hBo.out.size; simp; omega) | (simp; omega)) (some ⟨g, 0, none⟩) k c (edV (es.take k)) rfl (by have := hm.out; simp only [edV_len, List.length_take]; omega) (hrt.out.below (by repeat (with_reducible (first | exact Below.refl _ _ | apply bl_alloc | apply Below.drew)))) (fun e => by cases e) (edV_one _) (by omega) ?_
            intro v1 w1 ho1 hb1 hg1 hat1
            replace ho1 := Lib.hid ho1
            replace hg1 := Lib.hid hg1
            have hBo := Lib.hid (show Below wc.heap.size wc w1 from Below.trans (by repeat (with_reducible (first | exact hBo.out | exact Below.refl _ _ | apply bl_alloc | apply Below.drew))) hb1)
            clear hat1 hb1
            refine hK.out _ _ (by exact hBo.out) (fun hHeld => ?_)
            clear hK K
            try simp only [Act.put, sA, sB, sC]
            have hS1 := Lib.hid (rd_row (xs := [.string a, .string b]) (t := 93) ((hg1.out.block (wc.heap.size + 1) (by show wc.heap.size + 1 < ((wc.alloc _).alloc _).heap.size; rw [World.size_alloc, World.size_alloc]; omega) (by intro e; simp only [Value.ownBlock, Option.some.injEq] at e; omega)).trans (row_n2 wc _ _)))
            refine wpAnyH_readyR (rs := [7]) hops rdY6_10 (by simp) (AllReadyH.consR rfl stY6_12 (fun K hK => ?_) AllReadyH.nil)
            refine step_app wc.heap.size rfl _ _ 45 93 (.agg #[.string ⟨#[]⟩, .string ⟨#[]⟩]) 2 32 rfl Try.underlying45 info93 rfl (by decide) (by decide) v1 (0 + k) ([] ++ edV (es.take k)) rfl ho1.out (by first | exact hBo.out.size | (simp; done) | (have := hBo.out.size; simp; omega) | (simp; omega)) (some ⟨wc.heap.size + 1, 0, none⟩) 1 1 [.string a, .string b] rfl rfl hS1.out (fun e => by cases e) (by simp [Value.oneCell']) (by omega) ?_
            intro v2 w2 ho2 hb2 hg2 hat2
            replace ho2 := Lib.hid ho2
            replace hg2 := Lib.hid hg2
            have hBo := Lib.hid (show Below wc.heap.size wc w2 from Below.trans (by repeat (with_reducible (first | exact hBo.out | exact Below.refl _ _ | apply bl_alloc | apply Below.drew))) hb2)
            clear hat2 hb2
            refine hK.out _ _ (by exact hBo.out) (fun hHeld => ?_)
            clear hK K
            try simp only [Act.put, sA, sB, sC]
            refine wpAnyH_readyR (rs := [11]) hops rdY6_11 (by simp) (AllReadyH.consR rfl stY6_13 (fun K hK => ?_) AllReadyH.nil)
            refine step_app wc.heap.size rfl _ _ 45 93 (.agg #[.string ⟨#[]⟩, .string ⟨#[]⟩]) 2 32 rfl Try.underlying45 info93 rfl (by decide) (by decide) v2 (0 + k + 1) ([] ++ edV (es.take k) ++ [.string a, .string b]) rfl ho2.out (by first | exact hBo.out.size | (simp; done) | (have := hBo.out.size; simp; omega) | (simp; omega)) (if c = k then some ⟨g, 0, none⟩ else some ⟨g, k * 2, none⟩) (n - k) (c - k) (edV (es.drop k)) rfl (by have := hm.out; simp only [edV_len, List.length_drop]; omega) (hrd.out.below hBo.out) (fun e => by split at e <;> cases e) (edV_one _) (by omega) ?_
            intro v3 w3 ho3 hb3 hg3 hat3
            replace ho3 := Lib.hid ho3
            replace hg3 := Lib.hid hg3
            have hBo := Lib.hid (show Below wc.heap.size wc w3 from Below.trans (by repeat (with_reducible (first | exact hBo.out | exact Below.refl _ _ | apply bl_alloc | apply Below.drew))) hb3)
            clear hat3 hb3
            refine hK.out _ _ (by exact hBo.out) (fun hHeld => ?_)
            clear hK K
            try simp only [Act.put, sA, sB, sC]
            refine wpAnyH_oneR (i := 12) (v := ?vY6b_9) hops rdY6_12 rfl stY6_14 (Or.inl ⟨by kernel_rfl, ?hyY6b_9⟩) (by assumption) ?restY6b_9
            case hyY6b_9 => (intro w hSw; go_simp; (try with_reducible rfl))
            try simp only [Act.put, sA, sB, sC]
            refine wpAnyH_doneR hops rdY6_13 ?_
            have hsl := Lib.hid (SlEd.own (es := es.take k ++ [(a, b)] ++ es.drop k) ho3.out (by simp [edV_app, edV]))
            go_wp2_with fail
            all_goals (first | go_ret | go_end0)
            all_goals exact ⟨_, _, rfl, by have := hm.out; simp only [List.length_append, List.length_take, List.length_drop, List.length_cons, List.length_nil]; omega, hsl.out, .inr (fun b h => Nat.le_trans hB.out.size (ho3.out.lt b h).1), bl_then hB.out hB.out.size hBo.out⟩
        · skip
          go_simp
          refine hK.out _ _ (by repeat (with_reducible (first | assumption | exact hBo.out | exact Below.refl _ _ | apply bl_alloc | apply Below.drew))) (fun hHeld => ?_)
          clear hK K
          try simp only [Act.put, sA, sB, sC]
          refine wpAnyH_readyR (rs := [0]) hops rdY6_15 (by simp) (AllReadyH.consR rfl stY6_16 (fun K hK => ?_) AllReadyH.nil)
          go_simp
          refine hK.out _ _ (by repeat (with_reducible (first | assumption | exact hBo.out | exact Below.refl _ _ | apply bl_alloc | apply Below.drew))) (fun hHeld => ?_)
          clear hK K
          try simp only [Act.put, sA, sB, sC]
          refine wpAnyH_readyR (rs := [4]) hops rdY6_14 (by simp) (AllReadyH.consR rfl stY6_15 (fun K hK => ?_) AllReadyH.nil)
          refine step_app wc.heap.size rfl _ _ 45 93 (.agg #[.string ⟨#[]⟩, .string ⟨#[]⟩]) 2 32 rfl Try.underlying45 info93 rfl (by decide) (by decide) (.slice (some ⟨wc.heap.size + 1, 0, none⟩) 0 0) 0 [] rfl ob.out (by first | exact hBo.out.size | (simp; done) | (have := hBo.out.size; simp; omega) | (simp; omega)) (some ⟨g, 0, none⟩) k c (edV (es.take k)) rfl (by have := hm.out; simp only [edV_len, List.length_take]; omega) (hrt.out.below (by repeat (with_reducible (first | exact Below.refl _ _ | apply bl_alloc | apply Below.drew)))) (fun e => by cases e) (edV_one _) (by omega) ?_
          intro v1 w1 ho1 hb1 hg1 hat1
          replace ho1 := Lib.hid ho1
          replace hg1 := Lib.hid hg1
          have hBo := Lib.hid (show Below wc.heap.size wc w1 from Below.trans (by repeat (with_reducible (first | exact hBo.out | exact Below.refl _ _ | apply bl_alloc | apply Below.drew))) hb1)
          clear hat1 hb1
          refine hK.out _ _ (by exact hBo.out) (fun hHeld => ?_)
          clear hK K
          try simp only [Act.put, sA, sB, sC]
          have hS2 := Lib.hid (rd_row (xs := [.string a, .string b]) (t := 93) ((hg1.out.block wc.heap.size (by show wc.heap.size < ((wc.alloc _).alloc _).heap.size; rw [World.size_alloc, World.size_alloc]; omega) (by intro e; simp only [Value.ownBlock, Option.some.injEq] at e; omega)).trans (row_n1 wc _ _)))
          refine wpAnyH_readyR (rs := [7]) hops rdY6_10 (by simp) (AllReadyH.consR rfl stY6_12 (fun K hK => ?_) AllReadyH.nil)
          refine step_app wc.heap.size rfl _ _ 45 93 (.agg #[.string ⟨#[]⟩, .string ⟨#[]⟩]) 2 32 rfl Try.underlying45 info93 rfl (by decide) (by decide) v1 (0 + k) ([] ++ edV (es.take k)) rfl ho1.out (by first | exact hBo.out.size | (simp; done) | (have := hBo.out.size; simp; omega) | (simp; omega)) (some ⟨wc.heap.size, 0, none⟩) 1 1 [.string a, .string b] rfl rfl hS2.out (fun e => by cases e) (by simp [Value.oneCell']) (by omega) ?_
          intro v2 w2 ho2 hb2 hg2 hat2
          replace ho2 := Lib.hid ho2
          replace hg2 := Lib.hid hg2
          have hBo := Lib.hid (show Below wc.heap.size wc w2 from Below.trans (by repeat (with_reducible (first | exact hBo.out | exact Below.refl _ _ | apply bl_alloc | apply Below.drew))) hb2)
          clear hat2 hb2
          refine hK.out _ _ (by exact hBo.out) (fun hHeld => ?_)
          clear hK K
          try simp only [Act.put, sA, sB, sC]
          refine wpAnyH_readyR (rs := [11]) hops rdY6_11 (by simp) (AllReadyH.consR rfl stY6_13 (fun K hK => ?_) AllReadyH.nil)
          refine step_app wc.heap.size rfl _ _ 45 93 (.agg #[.string ⟨#[]⟩, .string ⟨#[]⟩]) 2 32 rfl Try.underlying45 info93 rfl (by decide) (by decide) v2 (0 + k + 1) ([] ++ edV (es.take k) ++ [.string a, .string b]) rfl ho2.out (by first | exact hBo.out.size | (simp; done) | (have := hBo.out.size; simp; omega) | (simp; omega)) (if c = k then some ⟨g, 0, none⟩ else some ⟨g, k * 2, none⟩) (n - k) (c - k) (edV (es.drop k)) rfl (by have := hm.out; simp only [edV_len, List.length_drop]; omega) (hrd.out.below hBo.out) (fun e => by split at e <;> cases e) (edV_one _) (by omega) ?_
          intro v3 w3 ho3 hb3 hg3 hat3
          replace ho3 := Lib.hid ho3
          replace hg3 := Lib.hid hg3
          have hBo := Lib.hid (show Below wc.heap.size wc w3 from Below.trans (by repeat (with_reducible (first | exact hBo.out | exact Below.refl _ _ | apply bl_alloc | apply Below.drew))) hb3)
          clear hat3 hb3
          refine hK.out _ _ (by exact hBo.out) (fun hHeld => ?_)
          clear hK K
          try simp only [Act.put, sA, sB, sC]
          refine wpAnyH_oneR (i := 12) (v := ?vY6b_10) hops rdY6_12 rfl stY6_14 (Or.inl ⟨by kernel_rfl, ?hyY6b_10⟩) (by assumption) ?restY6b_10
          case hyY6b_10 => (intro w hSw; go_simp; (try with_reducible rfl))
          try simp only [Act.put, sA, sB, sC]
          refine wpAnyH_doneR hops rdY6_13 ?_
          have hsl := Lib.hid (SlEd.own (es := es.take k ++ [(a, b)] ++ es.drop k) ho3.out (by simp [edV_app, edV]))
          go_wp2_with fail
          all_goals (first | go_ret | go_end0)
          all_goals exact ⟨_, _, rfl, by have := hm.out; simp only [List.length_append, List.length_take, List.length_drop, List.length_cons, List.length_nil]; omega, hsl.out, .inr (fun b h => Nat.le_trans hB.out.size (ho3.out.lt b h).1), bl_then hB.out hB.out.size hBo.out⟩
      | none =>
        obtain ⟨hn0, rfl⟩ := hA.out rfl
        subst hn0
        obtain rfl : k = 0 := hkn'.out
        have hrt : Hid (Rd wc none (edV (es.take 0))) := Lib.hid (Rd.nil _ _)
        have hrd : Hid (Rd wc none (edV (es.drop 0))) := Lib.hid (by
          rw [List.drop_of_length_le (by rw [← hm.out]; omega)]; exact Rd.nil _ _)
        go_upto_region 6 with fail
        refine wp_region_heldR (S := fun w' => Below wc.heap.size wc w') opsY6 _ (by kernel_rfl) liY6 (by kernel_rfl) nsY6 ((Below.refl wc.heap.size wc).drew) (fun hops hns hHeld => ?_)
        refine wpAnyH_takeR (i := 1) (v := ?vY6c_1) hops hns rdY6_0 (by rfl) frY6_0 rfl (fun _ _ _ h => h) stY6_0 (Or.inl ⟨by kernel_rfl, ?hyY6c_1⟩) (by assumption) ?restY6c_1
        case hyY6c_1 => (intro w hSw; go_simp; (try with_reducible rfl))
        try simp only [Act.put, sA, sB, sC]
        refine wpAnyH_takeR (i := 2) (v := ?vY6c_2) hops hns rdY6_1 (by rfl) frY6_1 rfl (fun _ _ _ h => h) stY6_1 (Or.inl ⟨by kernel_rfl, ?hyY6c_2⟩) (by assumption) ?restY6c_2
        case hyY6c_2 => (intro w hSw; go_simp; (try with_reducible rfl))
        try simp only [Act.put, sA, sB, sC]
        refine wpAnyH_takeR (i := 3) (v := ?vY6c_3) hops hns rdY6_2 (by rfl) frY6_2 rfl (fun _ _ _ h => h) stY6_2 (Or.inl ⟨by kernel_rfl, ?hyY6c_3⟩) (by assumption) ?restY6c_3
        case hyY6c_3 => (intro w hSw; go_simp; (try with_reducible rfl))
        try simp only [Act.put, sA, sB, sC]
        refine wpAnyH_takeR (i := 5) (v := ?vY6c_4) hops hns rdY6_3 (by rfl) frY6_3 rfl (fun _ _ _ h => h) stY6_3 (Or.inl ⟨by kernel_rfl, ?hyY6c_4⟩) (by assumption) ?restY6c_4
        case hyY6c_4 => (intro w hSw; obtain ⟨x0, x1⟩ := hrr.out _ (bl_row hSw hR.out); clear hSw; go_simp; (try with_reducible rfl))
        try simp only [Act.put, sA, sB, sC]
        refine wpAnyH_takeR (i := 8) (v := ?vY6c_5) hops hns rdY6_4 (by rfl) frY6_4 rfl (fun _ _ _ h => h) stY6_4 (Or.inl ⟨by kernel_rfl, ?hyY6c_5⟩) (by assumption) ?restY6c_5
        case hyY6c_5 => (intro w hSw; go_simp; (try with_reducible rfl))
        try simp only [Act.put, sA, sB, sC]
        refine wpAnyH_takeR (i := 9) (v := ?vY6c_6) hops hns rdY6_5 (by rfl) frY6_5 rfl (fun _ _ _ h => h) stY6_5 (Or.inl ⟨by kernel_rfl, ?hyY6c_6⟩) (by assumption) ?restY6c_6
        case hyY6c_6 => (intro w hSw; go_simp; (try with_reducible rfl))
        try simp only [Act.put, sA, sB, sC]
        refine wpAnyH_takeR (i := 10) (v := ?vY6c_7) hops hns rdY6_6 (by rfl) frY6_6 rfl (fun _ _ _ h => h) stY6_6 (Or.inl ⟨by kernel_rfl, ?hyY6c_7⟩) (by assumption) ?restY6c_7
        case hyY6c_7 => (intro w hSw; go_simp; (try with_reducible rfl))
        try simp only [Act.put, sA, sB, sC]
        refine wpAnyH_readyR (rs := [0, 6]) hops rdY6_7 (by simp) (AllReadyH.consR rfl stY6_8 (fun K hK => ?_) (AllReadyH.consR rfl stY6_7 (fun K hK => ?_) AllReadyH.nil))
        · skip
          go_simp
          refine hK.out _ _ (by repeat (with_reducible (first | assumption | exact hBo.out | exact Below.refl _ _ | apply bl_alloc | apply Below.drew))) (fun hHeld => ?_)
          clear hK K
          try simp only [Act.put, sA, sB, sC]
          refine wpAnyH_readyR (rs := [4, 6]) hops rdY6_8 (by simp) (AllReadyH.consR rfl stY6_10 (fun K hK => ?_) (AllReadyH.consR rfl stY6_9 (fun K hK => ?_) AllReadyH.nil))
          · skip
            refine step_app wc.heap.size rfl _ _ 45 93 (.agg #[.string ⟨#[]⟩, .string ⟨#[]⟩]) 2 32 rfl Try.underlying45 info93 rfl (by decide) (by decide) (.slice (some ⟨wc.heap.size, 0, none⟩) 0 0) 0 [] rfl oc.out (by first | exact hBo.out.size | (simp; done) | (have := hBo.out.size; simp; omega) | (simp; omega)) none 0 0 (edV (es.take 0)) rfl (by have := hm.out; simp only [edV_len, List.length_take]; omega) (hrt.out.below (by repeat (with_reducible (first | exact Below.refl _ _ | apply bl_alloc | apply Below.drew)))) (fun _ => ⟨rfl, rfl⟩) (edV_one _) (by omega) ?_
            intro v1 w1 ho1 hb1 hg1 hat1
            replace ho1 := Lib.hid ho1
            replace hg1 := Lib.hid hg1
            have hBo := Lib.hid (show Below wc.heap.size wc w1 from Below.trans (by repeat (with_reducible (first | exact hBo.out | exact Below.refl _ _ | apply bl_alloc | apply Below.drew))) hb1)
            clear hat1 hb1
            refine hK.out _ _ (by exact hBo.out) (fun hHeld => ?_)
            clear hK K
            try simp only [Act.put, sA, sB, sC]
            refine wpAnyH_readyR (rs := [6]) hops rdY6_9 (by simp) (AllReadyH.consR rfl stY6_11 (fun K hK => ?_) AllReadyH.nil)
            go_simp
            refine hK.out _ _ (by exact bl_alloc hBo.out _) (fun hHeld => ?_)
            clear hK K
            try simp only [Act.put, sA, sB, sC]
            refine wpAnyH_readyR (rs := [7]) hops rdY6_10 (by simp) (AllReadyH.consR rfl stY6_12 (fun K hK => ?_) AllReadyH.nil)
            refine step_app wc.heap.size rfl _ _ 45 93 (.agg #[.string ⟨#[]⟩, .string ⟨#[]⟩]) 2 32 rfl Try.underlying45 info93 rfl (by decide) (by decide) v1 (0 + 0) ([] ++ edV (es.take 0)) rfl (own_below ho1.out (by repeat (with_reducible (first | exact Below.refl _ _ | apply bl_alloc | apply Below.drew)))) (by first | exact hBo.out.size | (simp; done) | (have := hBo.out.size; simp; omega) | (simp; omega)) (some ⟨w1.heap.size, 0, none⟩) 1 1 [.string a, .string b] rfl rfl (rd_new w1 [.string a, .string b] 93) (fun e => by cases e) (by simp [Value.oneCell']) (by omega) ?_
            intro v2 w2 ho2 hb2 hg2 hat2
            replace ho2 := Lib.hid ho2
            replace hg2 := Lib.hid hg2
            have hBo := Lib.hid (show Below wc.heap.size wc w2 from Below.trans (by repeat (with_reducible (first | exact hBo.out | exact Below.refl _ _ | apply bl_alloc | apply Below.drew))) hb2)
            clear hat2 hb2
            refine hK.out _ _ (by exact hBo.out) (fun hHeld => ?_)
            clear hK K
            try simp only [Act.put, sA, sB, sC]
            refine wpAnyH_readyR (rs := [11]) hops rdY6_11 (by simp) (AllReadyH.consR rfl stY6_13 (fun K hK => ?_) AllReadyH.nil)
            refine step_app wc.heap.size rfl _ _ 45 93 (.agg #[.string ⟨#[]⟩, .string ⟨#[]⟩]) 2 32 rfl Try.underlying45 info93 rfl (by decide) (by decide) v2 (0 + 0 + 1) ([] ++ edV (es.take 0) ++ [.string a, .string b]) rfl ho2.out (by first | exact hBo.out.size | (simp; done) | (have := hBo.out.size; simp; omega) | (simp; omega)) none 0 0 (edV (es.drop 0)) rfl (by have := hm.out; simp only [edV_len, List.length_drop]; omega) (hrd.out.below hBo.out) (fun _ => ⟨rfl, rfl⟩) (edV_one _) (by omega) ?_
            intro v3 w3 ho3 hb3 hg3 hat3
            replace ho3 := Lib.hid ho3
            replace hg3 := Lib.hid hg3
            have hBo := Lib.hid (show Below wc.heap.size wc w3 from Below.trans (by repeat (with_reducible (first | exact hBo.out | exact Below.refl _ _ | apply bl_alloc | apply Below.drew))) hb3)
            clear hat3 hb3
            refine hK.out _ _ (by exact hBo.out) (fun hHeld => ?_)
            clear hK K
            try simp only [Act.put, sA, sB, sC]
            refine wpAnyH_oneR (i := 12) (v := ?vY6c_8) hops rdY6_12 rfl stY6_14 (Or.inl ⟨by kernel_rfl, ?hyY6c_8⟩) (by assumption) ?restY6c_8
            case hyY6c_8 => (intro w hSw; go_simp; (try with_reducible rfl))
            try simp only [Act.put, sA, sB, sC]
            refine wpAnyH_doneR hops rdY6_13 ?_
            have hsl := Lib.hid (SlEd.own (es := es.take 0 ++ [(a, b)] ++ es.drop 0) ho3.out (by simp [edV_app, edV]))
            go_wp2_with fail
            all_goals (first | go_ret | go_end0)
            all_goals exact ⟨_, _, rfl, by have := hm.out; simp only [List.length_append, List.length_take, List.length_drop, List.length_cons, List.length_nil]; omega, hsl.out, .inr (fun b h => Nat.le_trans hB.out.size (ho3.out.lt b h).1), bl_then hB.out hB.out.size hBo.out⟩
          · skip
            go_simp
            refine hK.out _ _ (by repeat (with_reducible (first | assumption | exact hBo.out | exact Below.refl _ _ | apply bl_alloc | apply Below.drew))) (fun hHeld => ?_)
            clear hK K
            try simp only [Act.put, sA, sB, sC]
            refine wpAnyH_readyR (rs := [4]) hops rdY6_14 (by simp) (AllReadyH.consR rfl stY6_15 (fun K hK => ?_) AllReadyH.nil)
            refine step_app wc.heap.size rfl _ _ 45 93 (.agg #[.string ⟨#[]⟩, .string ⟨#[]⟩]) 2 32 rfl Try.underlying45 info93 rfl (by decide) (by decide) (.slice (some ⟨wc.heap.size, 0, none⟩) 0 0) 0 [] rfl oa.out (by first | exact hBo.out.size | (simp; done) | (have := hBo.out.size; simp; omega) | (simp; omega)) none 0 0 (edV (es.take 0)) rfl (by have := hm.out; simp only [edV_len, List.length_take]; omega) (hrt.out.below (by repeat (with_reducible (first | exact Below.refl _ _ | apply bl_alloc | apply Below.drew)))) (fun _ => ⟨rfl, rfl⟩) (edV_one _) (by omega) ?_
            intro v1 w1 ho1 hb1 hg1 hat1
            replace ho1 := Lib.hid ho1
            replace hg1 := Lib.hid hg1
            have hBo := Lib.hid (show Below wc.heap.size wc w1 from Below.trans (by repeat (with_reducible (first | exact hBo.out | exact Below.refl _ _ | apply bl_alloc | apply Below.drew))) hb1)
            clear hat1 hb1
            refine hK.out _ _ (by exact hBo.out) (fun hHeld => ?_)
            clear hK K
            try simp only [Act.put, sA, sB, sC]
            have hS1 := Lib.hid (rd_row (xs := [.string a, .string b]) (t := 93) ((hg1.out.block (wc.heap.size + 1) (by show wc.heap.size + 1 < ((wc.alloc _).alloc _).heap.size; rw [World.size_alloc, World.size_alloc]; omega) (by intro e; simp only [Value.ownBlock, Option.some.injEq] at e; omega)).trans (row_n2 wc _ _)))
            refine wpAnyH_readyR (rs := [7]) hops rdY6_10 (by simp) (AllReadyH.consR rfl stY6_12 (fun K hK => ?_) AllReadyH.nil)
            refine step_app wc.heap.size rfl _ _ 45 93 (.agg #[.string ⟨#[]⟩, .string ⟨#[]⟩]) 2 32 rfl Try.underlying45 info93 rfl (by decide) (by decide) v1 (0 + 0) ([] ++ edV (es.take 0)) rfl ho1.out (by first | exact hBo.out.size | (simp; done) | (have := hBo.out.size; simp; omega) | (simp; omega)) (some ⟨wc.heap.size + 1, 0, none⟩) 1 1 [.string a, .string b] rfl rfl hS1.out (fun e => by cases e) (by simp [Value.oneCell']) (by omega) ?_
            intro v2 w2 ho2 hb2 hg2 hat2
            replace ho2 := Lib.hid ho2
            replace hg2 := Lib.hid hg2
            have hBo := Lib.hid (show Below wc.heap.size wc w2 from Below.trans (by repeat (with_reducible (first | exact hBo.out | exact Below.refl _ _ | apply bl_alloc | apply Below.drew))) hb2)
            clear hat2 hb2
            refine hK.out _ _ (by exact hBo.out) (fun hHeld => ?_)
            clear hK K
            try simp only [Act.put, sA, sB, sC]
            refine wpAnyH_readyR (rs := [11]) hops rdY6_11 (by simp) (AllReadyH.consR rfl stY6_13 (fun K hK => ?_) AllReadyH.nil)
            refine step_app wc.heap.size rfl _ _ 45 93 (.agg #[.string ⟨#[]⟩, .string ⟨#[]⟩]) 2 32 rfl Try.underlying45 info93 rfl (by decide) (by decide) v2 (0 + 0 + 1) ([] ++ edV (es.take 0) ++ [.string a, .string b]) rfl ho2.out (by first | exact hBo.out.size | (simp; done) | (have := hBo.out.size; simp; omega) | (simp; omega)) none 0 0 (edV (es.drop 0)) rfl (by have := hm.out; simp only [edV_len, List.length_drop]; omega) (hrd.out.below hBo.out) (fun _ => ⟨rfl, rfl⟩) (edV_one _) (by omega) ?_
            intro v3 w3 ho3 hb3 hg3 hat3
            replace ho3 := Lib.hid ho3
            replace hg3 := Lib.hid hg3
            have hBo := Lib.hid (show Below wc.heap.size wc w3 from Below.trans (by repeat (with_reducible (first | exact hBo.out | exact Below.refl _ _ | apply bl_alloc | apply Below.drew))) hb3)
            clear hat3 hb3
            refine hK.out _ _ (by exact hBo.out) (fun hHeld => ?_)
            clear hK K
            try simp only [Act.put, sA, sB, sC]
            refine wpAnyH_oneR (i := 12) (v := ?vY6c_9) hops rdY6_12 rfl stY6_14 (Or.inl ⟨by kernel_rfl, ?hyY6c_9⟩) (by assumption) ?restY6c_9
            case hyY6c_9 => (intro w hSw; go_simp; (try with_reducible rfl))
            try simp only [Act.put, sA, sB, sC]
            refine wpAnyH_doneR hops rdY6_13 ?_
            have hsl := Lib.hid (SlEd.own (es := es.take 0 ++ [(a, b)] ++ es.drop 0) ho3.out (by simp [edV_app, edV]))
            go_wp2_with fail
            all_goals (first | go_ret | go_end0)
            all_goals exact ⟨_, _, rfl, by have := hm.out; simp only [List.length_append, List.length_take, List.length_drop, List.length_cons, List.length_nil]; omega, hsl.out, .inr (fun b h => Nat.le_trans hB.out.size (ho3.out.lt b h).1), bl_then hB.out hB.out.size hBo.out⟩
        · skip
          go_simp
          refine hK.out _ _ (by repeat (with_reducible (first | assumption | exact hBo.out | exact Below.refl _ _ | apply bl_alloc | apply Below.drew))) (fun hHeld => ?_)
          clear hK K
          try simp only [Act.put, sA, sB, sC]
          refine wpAnyH_readyR (rs := [0]) hops rdY6_15 (by simp) (AllReadyH.consR rfl stY6_16 (fun K hK => ?_) AllReadyH.nil)
          go_simp
          refine hK.out _ _ (by repeat (with_reducible (first | assumption | exact hBo.out | exact Below.refl _ _ | apply bl_alloc | apply Below.drew))) (fun hHeld => ?_)
          clear hK K
          try simp only [Act.put, sA, sB, sC]
          refine wpAnyH_readyR (rs := [4]) hops rdY6_14 (by simp) (AllReadyH.consR rfl stY6_15 (fun K hK => ?_) AllReadyH.nil)
          refine step_app wc.heap.size rfl _ _ 45 93 (.agg #[.string ⟨#[]⟩, .string ⟨#[]⟩]) 2 32 rfl Try.underlying45 info93 rfl (by decide) (by decide) (.slice (some ⟨wc.heap.size + 1, 0, none⟩) 0 0) 0 [] rfl ob.out (by first | exact hBo.out.size | (simp; done) | (have := hBo.out.size; simp; omega) | (simp; omega)) none 0 0 (edV (es.take 0)) rfl (by have := hm.out; simp only [edV_len, List.length_take]; omega) (hrt.out.below (by repeat (with_reducible (first | exact Below.refl _ _ | apply bl_alloc | apply Below.drew)))) (fun _ => ⟨rfl, rfl⟩) (edV_one _) (by omega) ?_
          intro v1 w1 ho1 hb1 hg1 hat1
          replace ho1 := Lib.hid ho1
          replace hg1 := Lib.hid hg1
          have hBo := Lib.hid (show Below wc.heap.size wc w1 from Below.trans (by repeat (with_reducible (first | exact hBo.out | exact Below.refl _ _ | apply bl_alloc | apply Below.drew))) hb1)
          clear hat1 hb1
          refine hK.out _ _ (by exact hBo.out) (fun hHeld => ?_)
          clear hK K
          try simp only [Act.put, sA, sB, sC]
          have hS2 := Lib.hid (rd_row (xs := [.string a, .string b]) (t := 93) ((hg1.out.block wc.heap.size (by show wc.heap.size < ((wc.alloc _).alloc _).heap.size; rw [World.size_alloc, World.size_alloc]; omega) (by intro e; simp only [Value.ownBlock, Option.some.injEq] at e; omega)).trans (row_n1 wc _ _)))
          refine wpAnyH_readyR (rs := [7]) hops rdY6_10 (by simp) (AllReadyH.consR rfl stY6_12 (fun K hK => ?_) AllReadyH.nil)
          refine step_app wc.heap.size rfl _ _ 45 93 (.agg #[.string ⟨#[]⟩, .string ⟨#[]⟩]) 2 32 rfl Try.underlying45 info93 rfl (by decide) (by decide) v1 (0 + 0) ([] ++ edV (es.take 0)) rfl ho1.out (by first | exact hBo.out.size | (simp; done) | (have := hBo.out.size; simp; omega) | (simp; omega)) (some ⟨wc.heap.size, 0, none⟩) 1 1 [.string a, .string b] rfl rfl hS2.out (fun e => by cases e) (by simp [Value.oneCell']) (by omega) ?_
          intro v2 w2 ho2 hb2 hg2 hat2
          replace ho2 := Lib.hid ho2
          replace hg2 := Lib.hid hg2
          have hBo := Lib.hid (show Below wc.heap.size wc w2 from Below.trans (by repeat (with_reducible (first | exact hBo.out | exact Below.refl _ _ | apply bl_alloc | apply Below.drew))) hb2)
          clear hat2 hb2
          refine hK.out _ _ (by exact hBo.out) (fun hHeld => ?_)
          clear hK K
          try simp only [Act.put, sA, sB, sC]
          refine wpAnyH_readyR (rs := [11]) hops rdY6_11 (by simp) (AllReadyH.consR rfl stY6_13 (fun K hK => ?_) AllReadyH.nil)
          refine step_app wc.heap.size rfl _ _ 45 93 (.agg #[.string ⟨#[]⟩, .string ⟨#[]⟩]) 2 32 rfl Try.underlying45 info93 rfl (by decide) (by decide) v2 (0 + 0 + 1) ([] ++ edV (es.take 0) ++ [.string a, .string b]) rfl ho2.out (by first | exact hBo.out.size | (simp; done) | (have := hBo.out.size; simp; omega) | (simp; omega)) none 0 0 (edV (es.drop 0)) rfl (by have := hm.out; simp only [edV_len, List.length_drop]; omega) (hrd.out.below hBo.out) (fun _ => ⟨rfl, rfl⟩) (edV_one _) (by omega) ?_
          intro v3 w3 ho3 hb3 hg3 hat3
          replace ho3 := Lib.hid ho3
          replace hg3 := Lib.hid hg3
          have hBo := Lib.hid (show Below wc.heap.size wc w3 from Below.trans (by repeat (with_reducible (first | exact hBo.out | exact Below.refl _ _ | apply bl_alloc | apply Below.drew))) hb3)
          clear hat3 hb3
          refine hK.out _ _ (by exact hBo.out) (fun hHeld => ?_)
          clear hK K
          try simp only [Act.put, sA, sB, sC]
          refine wpAnyH_oneR (i := 12) (v := ?vY6c_10) hops rdY6_12 rfl stY6_14 (Or.inl ⟨by kernel_rfl, ?hyY6c_10⟩) (by assumption) ?restY6c_10
          case hyY6c_10 => (intro w hSw; go_simp; (try with_reducible rfl))
          try simp only [Act.put, sA, sB, sC]
          refine wpAnyH_doneR hops rdY6_13 ?_
          have hsl := Lib.hid (SlEd.own (es := es.take 0 ++ [(a, b)] ++ es.drop 0) ho3.out (by simp [edV_app, edV]))
          go_wp2_with fail
          all_goals (first | go_ret | go_end0)
          all_goals exact ⟨_, _, rfl, by have := hm.out; simp only [List.length_append, List.length_take, List.length_drop, List.length_cons, List.length_nil]; omega, hsl.out, .inr (fun b h => Nat.le_trans hB.out.size (ho3.out.lt b h).1), bl_then hB.out hB.out.size hBo.out⟩
end Go.Proofs.Ytdhklfbelplbcaa
