/-
  f42 rings.
-/
import Derived.Test.YtdhklfbelplbcaaZ21
import Derived.Test.YtdhklfbelplbcaaZ22
namespace Go.Proofs.Ytdhklfbelplbcaa
set_option linter.unusedVariables false
set_option linter.unusedSimpArgs false
open Go.RowKit

def RingsPost (w : World) (e : Ending) (w' : World) : Prop := ∃ A n c, e = .returned (.slice A n c) ∧ Below w.heap.size w w'
set_option maxHeartbeats 64000000 in
set_option maxRecDepth 100000 in
theorem rings_any (v v1 : Value) (bs : Nat → St) (es : List (ByteArray × ByteArray)) (w : World) (hp : PrOk w.cell? v bs) (hs : SlEd w v1 es) (hlen : es.length ≤ 100000) :
    Calls Try.prog 42 #[v, v1] w (RingsPost w) := by
  obtain ⟨A0, n0, c0, g1, g2, rfl, h2, h3⟩ := hp
  have hs0 := Lib.hid hs
  obtain ⟨A, c, rfl, hnc, hcm, hA, hr, hpl⟩ := hs
  obtain ⟨n, hm⟩ : ∃ n, n = es.length := ⟨_, rfl⟩
  rw [← hm] at hnc hlen hA hs0 ⊢
  have hcel : Hid (∀ k, k < n → ∃ g ka kb, A = some ⟨g, 0, none⟩ ∧ ∀ w', Below w.heap.size w w' → (w'.cell? ⟨g, k * 2, none⟩ = some (.string ka) ∧ w'.cell? ⟨g, k * 2 + 1, none⟩ = some (.string kb))) := Lib.hid (fun k hk => by
    obtain ⟨g, e, c0, c1⟩ := SlEd.cells hr hpl (k := k) (by rw [← hm]; exact hk)
    exact ⟨g, _, _, e, fun w' hb => ⟨bl_cell hb c0, bl_cell hb c1⟩⟩)
  replace h2 := Lib.hid h2
  replace hm := Lib.hid hm
  clear h3 hr hpl hA
  have hbx0 : Hid ((w.alloc (.cells #[.slice A0 n0 c0, .slice (some ⟨g1, 0, none⟩) 3 3, .slice (some ⟨g2, 0, none⟩) 4 4] 40)).heap[w.heap.size]? = some (.cells #[.slice A0 n0 c0, .slice (some ⟨g1, 0, none⟩) 3 3, .slice (some ⟨g2, 0, none⟩) 4 4] 40 (0, 0))) := Lib.hid (heap_alloc_new w _)
  go_enter Try.func42, Try.ntmps42
  go_upto_block 0 with fail
  go_cut [5] (fun v5 wx => ∃ (l : List ByteArray), Hid (l.length ≤ 3) ∧ Hid (SlN wx v5 l) ∧ Hid (Below w.heap.size w wx))
  case first =>
    go_wp2_with fail
    go_loopw [5, 6] (fun v5 v6 wr => ∃ (i : Nat) (l : List ByteArray), v6 = .int .i64 (i : Nat) ∧ i ≤ 3 ∧ l.length ≤ i ∧ Hid (SlN wr v5 l) ∧ Hid (Below w.heap.size w wr) ∧ Hid (wr.heap[w.heap.size]? = some (.cells #[.slice A0 n0 c0, .slice (some ⟨g1, 0, none⟩) 3 3, .slice (some ⟨g2, 0, none⟩) 4 4] 40 (0, 0)))) (fun _ v _ => 3 - (intOf v).toNat)
    case atStart => exact ⟨0, [], rfl, by omega, Nat.le_refl _, Lib.hid (SlN.nil _), Lib.hid (bl_alloc (Below.refl _ _) _), hbx0⟩
    case round =>
      obtain ⟨i, l, rfl, hi, hl, hS, hB, hX⟩ := hrel
      have y1 : wr.cell? ⟨w.heap.size, 1, none⟩ = some (.slice (some ⟨g1, 0, none⟩) 3 3) := by rw [cell_of_row _ _ 1 _ 40 (0, 0) hX.out]; rfl
      by_cases hlt : i < 3
      · have d1 : decide ((i : Int) < 3) = true := by simp; omega
        have i1 : (0 : Int) ≤ (i : Int) := by omega
        have i2 : (i : Int) < 3 := by omega
        have y2 := bl_cell hB.out (h2.out i hlt)
        obtain ⟨A5, c5, rfl, hn5, hc5, hA5, hr5⟩ := hS.out
        have hwt := Lib.hid (with_any A5 c5 l (lkN i) wr hr5 hA5 hn5 hc5 (by omega))
        clear hr5 hA5
        go_wp2_with (go_at_call 44; (with_reducible refine hwt.out.mono ?_); rintro e w1 ⟨v5, rfl, hs1, hf1, hb1⟩)
        exact ⟨⟨i + 1, withL l (lkN i), by go_num, by omega, by have := withL_len l (lkN i); omega, Lib.hid hs1, Lib.hid (bl_then hB.out hB.out.size hb1), Lib.hid (bl_row hb1 hX.out)⟩, by simp [intOf]; omega⟩
      · have hi3 : i = 3 := by omega
        subst hi3
        have d1 : decide (((3 : Nat) : Int) < 3) = false := by decide
        go_wp2_with fail
        go_meet
        exact ⟨l, Lib.hid hl, hS, hB⟩
  case rest =>
    obtain ⟨l, hl, hS, hBc⟩ := hcut
    have hpa := Lib.hid (parts_any _ (.slice A n c) l es wc hS.out (hs0.out.below hBc.out) (by have := hl.out; omega) (by rw [← hm.out]; exact hlen))
    go_wp2_with (go_at_call 55; (with_reducible refine hpa.out.mono ?_); rintro e w2 ⟨v7, m, rfl, hs7, hm7, hb7⟩; obtain ⟨A7, c7, x7, rfl, hmc7, hcm7, hr7, hx7, hp7, ha7⟩ := hs7; replace hr7 := Lib.hid hr7; replace hx7 := Lib.hid hx7; replace hp7 := Lib.hid hp7; replace ha7 := Lib.hid ha7; replace hb7 := Lib.hid hb7; replace hm7 := Lib.hid (Nat.le_trans hm7 hl.out))
    have hB2 := Lib.hid (bl_then hBc.out hBc.out.size hb7.out)
    have hcel7 : Hid (∀ i, i < m → ∃ g Ap cp l ad s, A7 = some ⟨g, 0, none⟩ ∧ Ap = some ad ∧ 0 < l ∧ l ≤ cp ∧ cp ≤ 9223372036854775807 ∧ ∀ w', Below w2.heap.size w2 w' → (w'.cell? ⟨g, i, none⟩ = some (.slice Ap l cp) ∧ w'.cell? ad = some (.string s))) := Lib.hid (fun i hi => by
      obtain ⟨ad, e1, e2⟩ := hr7.out i (by rw [hx7.out]; exact hi)
      have e3 := ha7.out ad e1
      obtain ⟨l, hl0, A', c', e4, k1, k2, k3, k4⟩ := hp7.out _ (List.getElem_mem (by rw [hx7.out]; exact hi))
      obtain ⟨ad', x, q1, q2, -⟩ := k4.at 0 hl0
      rw [e3, add_plain, e4] at e2
      have q3 : ad'.add 0 = ad' := by unfold Addr.add; simp
      rw [q3] at q2
      exact ⟨ad.block, A', c', l.length, ad', x, by rw [e1, ← e3], q1, hl0, k1, k2, fun w' hb => ⟨bl_cell hb e2, bl_cell hb q2⟩⟩)
    have hm3 := hm7.out
    clear hpa hs0 hr7 hx7 hp7 ha7 h2
    go_wp2_with fail
    go_loopw [8, 9] (fun v8 v9 wr => ∃ (i : Nat) (xs : List Value), v9 = .int .i64 (i : Nat) ∧ i ≤ m ∧ xs.length ≤ i ∧ Hid (wr.ownsRow w2.heap.size 52 1 v8 xs.length xs) ∧ Hid (Below w2.heap.size w2 wr)) (fun _ v _ => m - (intOf v).toNat)
    case atStart => exact ⟨0, [], rfl, Nat.zero_le _, Nat.le_refl _, Lib.hid (own_nil _ _ _ _), Lib.hid (Below.refl _ _)⟩
    case round =>
      obtain ⟨wi, rfl⟩ : ∃ x, x = wr := ⟨_, rfl⟩
      obtain ⟨i, xs, rfl, hi, hxl, ho, hB⟩ := hrel
      by_cases hlt : i < m
      · have d1 : decide ((i : Int) < (m : Int)) = true := by simp; omega
        have i1 : (0 : Int) ≤ (i : Int) := by omega
        have i2 : (i : Int) < (m : Int) := by omega
        obtain ⟨g7, Ap, cp, p, ad, s, rfl, rfl, hp0, hpc, hcm, hkc⟩ := hcel7.out i hlt
        obtain ⟨z0, z1⟩ := hkc _ hB.out
        have p1 : (0 : Int) < (p : Int) := by omega
        obtain ⟨b0, hb0⟩ : ∃ b, decide ((1 : Int) < (p : Int)) = b := ⟨_, rfl⟩
        replace hkc := Lib.hid hkc
        go_upto_block 4 with fail
        go_cut [10] (fun v10 wx => ∃ b : Bool, v10 = .bool b ∧ Hid (Below wi.heap.size wi wx))
        case first =>
          go_wp2_with fail
          go_loopw [10, 11] (fun v10 v11 wr => ∃ (k : Nat) (b : Bool), v11 = .int .i64 (k : Nat) ∧ k ≤ n ∧ v10 = .bool b ∧ Hid (Below wi.heap.size wi wr)) (fun _ v _ => n - (intOf v).toNat)
          case atStart => exact ⟨0, b0, rfl, Nat.zero_le _, rfl, Lib.hid (Below.refl _ _)⟩
          case round =>
            obtain ⟨k, b, rfl, hk, rfl, hBk⟩ := hrel
            by_cases hkn : k < n
            · have d2 : decide ((k : Int) < (n : Int)) = true := by simp; omega
              have k1 : (0 : Int) ≤ (k : Int) := by omega
              have k2 : (k : Int) < (n : Int) := by omega
              obtain ⟨g, ka, kb, rfl, hkc2⟩ := hcel.out k hkn
              have hSk : Hid (∀ w', Below wr.heap.size wr w' → (w'.cell? ⟨g, k * 2, none⟩ = some (.string ka) ∧ w'.cell? ⟨g, k * 2 + 1, none⟩ = some (.string kb) ∧ w'.cell? ⟨g7, i, none⟩ = some (.slice (some ad) p cp) ∧ w'.cell? ad = some (.string s))) := Lib.hid (fun w' hb => by
                have h1 := bl_then hBk.out hBk.out.size hb
                have h2 := bl_then hB.out hB.out.size h1
                have h3 := bl_then hB2.out hB2.out.size h2
                obtain ⟨q1, q2⟩ := hkc2 w' h3
                obtain ⟨q3, q4⟩ := hkc.out w' h2
                exact ⟨q1, q2, q3, q4⟩)
              clear hkc2 z0 z1
              cases b with
              | true =>
                go_upto_region 15 with fail
                refine wp_region_heldR (S := fun w' => Below wr.heap.size wr w') opsV15 _ (by kernel_rfl) liV15 (by kernel_rfl) nsV15 ((Below.refl wr.heap.size wr).drew) (fun hops hns hHeld => ?_)
                refine wpAnyH_oneR (i := 0) (v := ?vV15a_1) hops rdV15_0 rfl stV15_0 (Or.inl ⟨by kernel_rfl, ?hyV15a_1⟩) (by assumption) ?restV15a_1
                case hyV15a_1 => (intro w hSw; obtain ⟨y0, y1, z0, z1⟩ := hSk.out _ hSw; clear hSw; go_simp; (try with_reducible rfl))
                try simp only [Act.put, sA, sB, sC]
                refine wpAnyH_oneR (i := 1) (v := ?vV15a_2) hops rdV15_1 rfl stV15_1 (Or.inl ⟨by kernel_rfl, ?hyV15a_2⟩) (by assumption) ?restV15a_2
                case hyV15a_2 => (intro w hSw; obtain ⟨y0, y1, z0, z1⟩ := hSk.out _ hSw; clear hSw; go_simp; (try with_reducible rfl))
                try simp only [Act.put, sA, sB, sC]
                refine wpAnyH_takeR (i := 2) (v := undef) hops hns rdV15_2 (by rfl) frV15_0 rfl (fun _ _ _ h => h) stV15_2 (Or.inr ⟨by kernel_rfl, rfl⟩) (by assumption) ?_
                try simp only [Act.put, sA, sB, sC]
                refine wpAnyH_takeR (i := 3) (v := undef) hops hns rdV15_3 (by rfl) frV15_1 rfl (fun _ _ _ h => h) stV15_3 (Or.inr ⟨by kernel_rfl, rfl⟩) (by assumption) ?_
                try simp only [Act.put, sA, sB, sC]
                refine wpAnyH_takeR (i := 4) (v := undef) hops hns rdV15_4 (by rfl) frV15_2 rfl (fun _ _ _ h => h) stV15_4 (Or.inr ⟨by kernel_rfl, rfl⟩) (by assumption) ?_
                try simp only [Act.put, sA, sB, sC]
                refine wpAnyH_takeR (i := 5) (v := undef) hops hns rdV15_5 (by rfl) frV15_3 rfl (fun _ _ _ h => h) stV15_5 (Or.inr ⟨by kernel_rfl, rfl⟩) (by assumption) ?_
                try simp only [Act.put, sA, sB, sC]
                refine wpAnyH_takeR (i := 6) (v := undef) hops hns rdV15_6 (by rfl) frV15_4 rfl (fun _ _ _ h => h) stV15_6 (Or.inr ⟨by kernel_rfl, rfl⟩) (by assumption) ?_
                try simp only [Act.put, sA, sB, sC]
                refine wpAnyH_takeR (i := 7) (v := undef) hops hns rdV15_7 (by rfl) frV15_5 rfl (fun _ _ _ h => h) stV15_7 (Or.inr ⟨by kernel_rfl, rfl⟩) (by assumption) ?_
                try simp only [Act.put, sA, sB, sC]
                refine wpAnyH_oneR (i := 8) (v := undef) hops rdV15_8 rfl stV15_8 (Or.inr ⟨by kernel_rfl, rfl⟩) (by assumption) ?_
                try simp only [Act.put, sA, sB, sC]
                refine wpAnyH_oneR (i := 9) (v := undef) hops rdV15_9 rfl stV15_9 (Or.inr ⟨by kernel_rfl, rfl⟩) (by assumption) ?_
                try simp only [Act.put, sA, sB, sC]
                refine wpAnyH_oneR (i := 10) (v := undef) hops rdV15_10 rfl stV15_10 (Or.inr ⟨by kernel_rfl, rfl⟩) (by assumption) ?_
                try simp only [Act.put, sA, sB, sC]
                refine wpAnyH_oneR (i := 11) (v := undef) hops rdV15_11 rfl stV15_11 (Or.inr ⟨by kernel_rfl, rfl⟩) (by assumption) ?_
                try simp only [Act.put, sA, sB, sC]
                refine wpAnyH_oneR (i := 12) (v := undef) hops rdV15_12 rfl stV15_12 (Or.inr ⟨by kernel_rfl, rfl⟩) (by assumption) ?_
                try simp only [Act.put, sA, sB, sC]
                refine wpAnyH_oneR (i := 13) (v := undef) hops rdV15_13 rfl stV15_13 (Or.inr ⟨by kernel_rfl, rfl⟩) (by assumption) ?_
                try simp only [Act.put, sA, sB, sC]
                refine wpAnyH_oneR (i := 14) (v := undef) hops rdV15_14 rfl stV15_14 (Or.inr ⟨by kernel_rfl, rfl⟩) (by assumption) ?_
                try simp only [Act.put, sA, sB, sC]
                refine wpAnyH_takeR (i := 15) (v := undef) hops hns rdV15_15 (by rfl) frV15_6 rfl (fun _ _ _ h => h) stV15_15 (Or.inr ⟨by kernel_rfl, rfl⟩) (by assumption) ?_
                try simp only [Act.put, sA, sB, sC]
                refine wpAnyH_takeR (i := 16) (v := undef) hops hns rdV15_16 (by rfl) frV15_7 rfl (fun _ _ _ h => h) stV15_16 (Or.inr ⟨by kernel_rfl, rfl⟩) (by assumption) ?_
                try simp only [Act.put, sA, sB, sC]
                refine wpAnyH_takeR (i := 17) (v := undef) hops hns rdV15_17 (by rfl) frV15_8 rfl (fun _ _ _ h => h) stV15_17 (Or.inr ⟨by kernel_rfl, rfl⟩) (by assumption) ?_
                try simp only [Act.put, sA, sB, sC]
                refine wpAnyH_takeR (i := 18) (v := undef) hops hns rdV15_18 (by rfl) frV15_9 rfl (fun _ _ _ h => h) stV15_18 (Or.inr ⟨by kernel_rfl, rfl⟩) (by assumption) ?_
                try simp only [Act.put, sA, sB, sC]
                refine wpAnyH_takeR (i := 19) (v := undef) hops hns rdV15_19 (by rfl) frV15_10 rfl (fun _ _ _ h => h) stV15_19 (Or.inr ⟨by kernel_rfl, rfl⟩) (by assumption) ?_
                try simp only [Act.put, sA, sB, sC]
                refine wpAnyH_takeR (i := 20) (v := undef) hops hns rdV15_20 (by rfl) frV15_11 rfl (fun _ _ _ h => h) stV15_20 (Or.inr ⟨by kernel_rfl, rfl⟩) (by assumption) ?_
                try simp only [Act.put, sA, sB, sC]
                refine wpAnyH_oneR (i := 21) (v := undef) hops rdV15_21 rfl stV15_21 (Or.inr ⟨by kernel_rfl, rfl⟩) (by assumption) ?_
                try simp only [Act.put, sA, sB, sC]
                refine wpAnyH_oneR (i := 22) (v := undef) hops rdV15_22 rfl stV15_22 (Or.inr ⟨by kernel_rfl, rfl⟩) (by assumption) ?_
                try simp only [Act.put, sA, sB, sC]
                refine wpAnyH_oneR (i := 23) (v := undef) hops rdV15_23 rfl stV15_23 (Or.inr ⟨by kernel_rfl, rfl⟩) (by assumption) ?_
                try simp only [Act.put, sA, sB, sC]
                refine wpAnyH_oneR (i := 24) (v := undef) hops rdV15_24 rfl stV15_24 (Or.inr ⟨by kernel_rfl, rfl⟩) (by assumption) ?_
                try simp only [Act.put, sA, sB, sC]
                refine wpAnyH_oneR (i := 25) (v := undef) hops rdV15_25 rfl stV15_25 (Or.inr ⟨by kernel_rfl, rfl⟩) (by assumption) ?_
                try simp only [Act.put, sA, sB, sC]
                refine wpAnyH_oneR (i := 26) (v := undef) hops rdV15_26 rfl stV15_26 (Or.inr ⟨by kernel_rfl, rfl⟩) (by assumption) ?_
                try simp only [Act.put, sA, sB, sC]
                refine wpAnyH_oneR (i := 27) (v := undef) hops rdV15_27 rfl stV15_27 (Or.inr ⟨by kernel_rfl, rfl⟩) (by assumption) ?_
                try simp only [Act.put, sA, sB, sC]
                refine wpAnyH_oneR (i := 28) (v := ?vV15a_3) hops rdV15_28 rfl stV15_28 (Or.inl ⟨by kernel_rfl, ?hyV15a_3⟩) (by assumption) ?restV15a_3
                case hyV15a_3 => (intro w hSw; obtain ⟨y0, y1, z0, z1⟩ := hSk.out _ hSw; clear hSw; go_simp; (try with_reducible rfl))
                try simp only [Act.put, sA, sB, sC]
                refine wpAnyH_oneR (i := 29) (v := ?vV15a_4) hops rdV15_29 rfl stV15_29 (Or.inl ⟨by kernel_rfl, ?hyV15a_4⟩) (by assumption) ?restV15a_4
                case hyV15a_4 => (intro w hSw; obtain ⟨y0, y1, z0, z1⟩ := hSk.out _ hSw; clear hSw; go_simp; (try with_reducible rfl))
                try simp only [Act.put, sA, sB, sC]
                refine wpAnyH_doneR hops rdV15_30 ?_
                go_wp2_with fail
                exact ⟨⟨k + 1, _, by go_num, by omega, rfl, Lib.hid hBk.out.drew⟩, by simp [intOf]; omega⟩
              | false =>
                cases q1 : (ka.toList == s.toList) with
                | false =>
                  go_upto_region 15 with fail
                  refine wp_region_heldR (S := fun w' => Below wr.heap.size wr w') opsV15 _ (by kernel_rfl) liV15 (by kernel_rfl) nsV15 ((Below.refl wr.heap.size wr).drew) (fun hops hns hHeld => ?_)
                  refine wpAnyH_oneR (i := 0) (v := ?vV15b_1) hops rdV15_0 rfl stV15_0 (Or.inl ⟨by kernel_rfl, ?hyV15b_1⟩) (by assumption) ?restV15b_1
                  case hyV15b_1 => (intro w hSw; obtain ⟨y0, y1, z0, z1⟩ := hSk.out _ hSw; clear hSw; go_simp; (try with_reducible rfl))
                  try simp only [Act.put, sA, sB, sC]
                  refine wpAnyH_oneR (i := 1) (v := ?vV15b_2) hops rdV15_1 rfl stV15_1 (Or.inl ⟨by kernel_rfl, ?hyV15b_2⟩) (by assumption) ?restV15b_2
                  case hyV15b_2 => (intro w hSw; obtain ⟨y0, y1, z0, z1⟩ := hSk.out _ hSw; clear hSw; go_simp; (try with_reducible rfl))
                  try simp only [Act.put, sA, sB, sC]
                  refine wpAnyH_takeR (i := 2) (v := ?vV15b_3) hops hns rdV15_2 (by rfl) frV15_0 rfl (fun _ _ _ h => h) stV15_2 (Or.inl ⟨by kernel_rfl, ?hyV15b_3⟩) (by assumption) ?restV15b_3
                  case hyV15b_3 => (intro w hSw; obtain ⟨y0, y1, z0, z1⟩ := hSk.out _ hSw; clear hSw; go_simp; (try with_reducible rfl))
                  try simp only [Act.put, sA, sB, sC]
                  refine wpAnyH_takeR (i := 3) (v := ?vV15b_4) hops hns rdV15_3 (by rfl) frV15_1 rfl (fun _ _ _ h => h) stV15_3 (Or.inl ⟨by kernel_rfl, ?hyV15b_4⟩) (by assumption) ?restV15b_4
                  case hyV15b_4 => (intro w hSw; obtain ⟨y0, y1, z0, z1⟩ := hSk.out _ hSw; clear hSw; go_simp; (try with_reducible rfl))
                  try simp only [Act.put, sA, sB, sC]
                  refine wpAnyH_takeR (i := 4) (v := ?vV15b_5) hops hns rdV15_4 (by rfl) frV15_2 rfl (fun _ _ _ h => h) stV15_4 (Or.inl ⟨by kernel_rfl, ?hyV15b_5⟩) (by assumption) ?restV15b_5
                  case hyV15b_5 => (intro w hSw; obtain ⟨y0, y1, z0, z1⟩ := hSk.out _ hSw; clear hSw; go_simp; (try with_reducible rfl))
                  try simp only [Act.put, sA, sB, sC]
                  refine wpAnyH_takeR (i := 5) (v := ?vV15b_6) hops hns rdV15_5 (by rfl) frV15_3 rfl (fun _ _ _ h => h) stV15_5 (Or.inl ⟨by kernel_rfl, ?hyV15b_6⟩) (by assumption) ?restV15b_6
                  case hyV15b_6 => (intro w hSw; obtain ⟨y0, y1, z0, z1⟩ := hSk.out _ hSw; clear hSw; go_simp; (try with_reducible rfl))
                  try simp only [Act.put, sA, sB, sC]
                  refine wpAnyH_takeR (i := 6) (v := ?vV15b_7) hops hns rdV15_6 (by rfl) frV15_4 rfl (fun _ _ _ h => h) stV15_6 (Or.inl ⟨by kernel_rfl, ?hyV15b_7⟩) (by assumption) ?restV15b_7
                  case hyV15b_7 => (intro w hSw; obtain ⟨y0, y1, z0, z1⟩ := hSk.out _ hSw; clear hSw; go_simp; (try with_reducible rfl))
                  try simp only [Act.put, sA, sB, sC]
                  refine wpAnyH_takeR (i := 7) (v := ?vV15b_8) hops hns rdV15_7 (by rfl) frV15_5 rfl (fun _ _ _ h => h) stV15_7 (Or.inl ⟨by kernel_rfl, ?hyV15b_8⟩) (by assumption) ?restV15b_8
                  case hyV15b_8 => (intro w hSw; obtain ⟨y0, y1, z0, z1⟩ := hSk.out _ hSw; clear hSw; go_simp; (try with_reducible rfl))
                  try simp only [Act.put, sA, sB, sC]
                  refine wpAnyH_oneR (i := 8) (v := ?vV15b_9) hops rdV15_8 rfl stV15_8 (Or.inl ⟨by kernel_rfl, ?hyV15b_9⟩) (by assumption) ?restV15b_9
                  case hyV15b_9 => (intro w hSw; obtain ⟨y0, y1, z0, z1⟩ := hSk.out _ hSw; clear hSw; go_simp; (try with_reducible rfl))
                  try simp only [Act.put, sA, sB, sC]
                  refine wpAnyH_oneR (i := 9) (v := ?vV15b_10) hops rdV15_9 rfl stV15_9 (Or.inl ⟨by kernel_rfl, ?hyV15b_10⟩) (by assumption) ?restV15b_10
                  case hyV15b_10 => (intro w hSw; obtain ⟨y0, y1, z0, z1⟩ := hSk.out _ hSw; clear hSw; go_simp; (try with_reducible rfl))
                  try simp only [Act.put, sA, sB, sC]
                  refine wpAnyH_oneR (i := 10) (v := ?vV15b_11) hops rdV15_10 rfl stV15_10 (Or.inl ⟨by kernel_rfl, ?hyV15b_11⟩) (by assumption) ?restV15b_11
                  case hyV15b_11 => (intro w hSw; obtain ⟨y0, y1, z0, z1⟩ := hSk.out _ hSw; clear hSw; go_simp; (try with_reducible rfl))
                  try simp only [Act.put, sA, sB, sC]
                  refine wpAnyH_oneR (i := 11) (v := ?vV15b_12) hops rdV15_11 rfl stV15_11 (Or.inl ⟨by kernel_rfl, ?hyV15b_12⟩) (by assumption) ?restV15b_12
                  case hyV15b_12 => (intro w hSw; obtain ⟨y0, y1, z0, z1⟩ := hSk.out _ hSw; clear hSw; go_simp; (try with_reducible rfl))
                  try simp only [Act.put, sA, sB, sC]
                  refine wpAnyH_oneR (i := 12) (v := ?vV15b_13) hops rdV15_12 rfl stV15_12 (Or.inl ⟨by kernel_rfl, ?hyV15b_13⟩) (by assumption) ?restV15b_13
                  case hyV15b_13 => (intro w hSw; obtain ⟨y0, y1, z0, z1⟩ := hSk.out _ hSw; clear hSw; go_simp; (try with_reducible rfl))
                  try simp only [Act.put, sA, sB, sC]
                  refine wpAnyH_oneR (i := 13) (v := .bool false) hops rdV15_13 rfl stV15_13 (Or.inl ⟨by kernel_rfl, ?hyV15b_14⟩) (by assumption) ?restV15b_14
                  case hyV15b_14 => (intro w hSw; obtain ⟨y0, y1, z0, z1⟩ := hSk.out _ hSw; clear hSw; go_simp; (try rw [q1]))
                  try simp only [Act.put, sA, sB, sC]
                  refine wpAnyH_oneR (i := 14) (v := ?vV15b_15) hops rdV15_14 rfl stV15_14 (Or.inl ⟨by kernel_rfl, ?hyV15b_15⟩) (by assumption) ?restV15b_15
                  case hyV15b_15 => (intro w hSw; obtain ⟨y0, y1, z0, z1⟩ := hSk.out _ hSw; clear hSw; go_simp; (try with_reducible rfl))
                  try simp only [Act.put, sA, sB, sC]
                  refine wpAnyH_takeR (i := 15) (v := undef) hops hns rdV15_15 (by rfl) frV15_6 rfl (fun _ _ _ h => h) stV15_15 (Or.inr ⟨by kernel_rfl, rfl⟩) (by assumption) ?_
                  try simp only [Act.put, sA, sB, sC]
                  refine wpAnyH_takeR (i := 16) (v := undef) hops hns rdV15_16 (by rfl) frV15_7 rfl (fun _ _ _ h => h) stV15_16 (Or.inr ⟨by kernel_rfl, rfl⟩) (by assumption) ?_
                  try simp only [Act.put, sA, sB, sC]
                  refine wpAnyH_takeR (i := 17) (v := undef) hops hns rdV15_17 (by rfl) frV15_8 rfl (fun _ _ _ h => h) stV15_17 (Or.inr ⟨by kernel_rfl, rfl⟩) (by assumption) ?_
                  try simp only [Act.put, sA, sB, sC]
                  refine wpAnyH_takeR (i := 18) (v := undef) hops hns rdV15_18 (by rfl) frV15_9 rfl (fun _ _ _ h => h) stV15_18 (Or.inr ⟨by kernel_rfl, rfl⟩) (by assumption) ?_
                  try simp only [Act.put, sA, sB, sC]
                  refine wpAnyH_takeR (i := 19) (v := undef) hops hns rdV15_19 (by rfl) frV15_10 rfl (fun _ _ _ h => h) stV15_19 (Or.inr ⟨by kernel_rfl, rfl⟩) (by assumption) ?_
                  try simp only [Act.put, sA, sB, sC]
                  refine wpAnyH_takeR (i := 20) (v := undef) hops hns rdV15_20 (by rfl) frV15_11 rfl (fun _ _ _ h => h) stV15_20 (Or.inr ⟨by kernel_rfl, rfl⟩) (by assumption) ?_
                  try simp only [Act.put, sA, sB, sC]
                  refine wpAnyH_oneR (i := 21) (v := undef) hops rdV15_21 rfl stV15_21 (Or.inr ⟨by kernel_rfl, rfl⟩) (by assumption) ?_
                  try simp only [Act.put, sA, sB, sC]
                  refine wpAnyH_oneR (i := 22) (v := undef) hops rdV15_22 rfl stV15_22 (Or.inr ⟨by kernel_rfl, rfl⟩) (by assumption) ?_
                  try simp only [Act.put, sA, sB, sC]
                  refine wpAnyH_oneR (i := 23) (v := undef) hops rdV15_23 rfl stV15_23 (Or.inr ⟨by kernel_rfl, rfl⟩) (by assumption) ?_
                  try simp only [Act.put, sA, sB, sC]
                  refine wpAnyH_oneR (i := 24) (v := undef) hops rdV15_24 rfl stV15_24 (Or.inr ⟨by kernel_rfl, rfl⟩) (by assumption) ?_
                  try simp only [Act.put, sA, sB, sC]
                  refine wpAnyH_oneR (i := 25) (v := undef) hops rdV15_25 rfl stV15_25 (Or.inr ⟨by kernel_rfl, rfl⟩) (by assumption) ?_
                  try simp only [Act.put, sA, sB, sC]
                  refine wpAnyH_oneR (i := 26) (v := undef) hops rdV15_26 rfl stV15_26 (Or.inr ⟨by kernel_rfl, rfl⟩) (by assumption) ?_
                  try simp only [Act.put, sA, sB, sC]
                  refine wpAnyH_oneR (i := 27) (v := ?vV15b_16) hops rdV15_27 rfl stV15_27 (Or.inl ⟨by kernel_rfl, ?hyV15b_16⟩) (by assumption) ?restV15b_16
                  case hyV15b_16 => (intro w hSw; obtain ⟨y0, y1, z0, z1⟩ := hSk.out _ hSw; clear hSw; go_simp; (try with_reducible rfl))
                  try simp only [Act.put, sA, sB, sC]
                  refine wpAnyH_oneR (i := 28) (v := ?vV15b_17) hops rdV15_28 rfl stV15_28 (Or.inl ⟨by kernel_rfl, ?hyV15b_17⟩) (by assumption) ?restV15b_17
                  case hyV15b_17 => (intro w hSw; obtain ⟨y0, y1, z0, z1⟩ := hSk.out _ hSw; clear hSw; go_simp; (try with_reducible rfl))
                  try simp only [Act.put, sA, sB, sC]
                  refine wpAnyH_oneR (i := 29) (v := ?vV15b_18) hops rdV15_29 rfl stV15_29 (Or.inl ⟨by kernel_rfl, ?hyV15b_18⟩) (by assumption) ?restV15b_18
                  case hyV15b_18 => (intro w hSw; obtain ⟨y0, y1, z0, z1⟩ := hSk.out _ hSw; clear hSw; go_simp; (try with_reducible rfl))
                  try simp only [Act.put, sA, sB, sC]
                  refine wpAnyH_doneR hops rdV15_30 ?_
                  go_wp2_with fail
                  exact ⟨⟨k + 1, _, by go_num, by omega, rfl, Lib.hid hBk.out.drew⟩, by simp [intOf]; omega⟩
                | true =>
                  obtain ⟨q, hq⟩ : ∃ q, (kb.toList == s.toList) = q := ⟨_, rfl⟩
                  replace hq := Lib.hid hq
                  go_upto_region 15 with fail
                  refine wp_region_heldR (S := fun w' => Below wr.heap.size wr w') opsV15 _ (by kernel_rfl) liV15 (by kernel_rfl) nsV15 ((Below.refl wr.heap.size wr).drew) (fun hops hns hHeld => ?_)
                  refine wpAnyH_oneR (i := 0) (v := ?vV15c_1) hops rdV15_0 rfl stV15_0 (Or.inl ⟨by kernel_rfl, ?hyV15c_1⟩) (by assumption) ?restV15c_1
                  case hyV15c_1 => (intro w hSw; obtain ⟨y0, y1, z0, z1⟩ := hSk.out _ hSw; clear hSw; go_simp; (try with_reducible rfl))
                  try simp only [Act.put, sA, sB, sC]
                  refine wpAnyH_oneR (i := 1) (v := ?vV15c_2) hops rdV15_1 rfl stV15_1 (Or.inl ⟨by kernel_rfl, ?hyV15c_2⟩) (by assumption) ?restV15c_2
                  case hyV15c_2 => (intro w hSw; obtain ⟨y0, y1, z0, z1⟩ := hSk.out _ hSw; clear hSw; go_simp; (try with_reducible rfl))
                  try simp only [Act.put, sA, sB, sC]
                  refine wpAnyH_takeR (i := 2) (v := ?vV15c_3) hops hns rdV15_2 (by rfl) frV15_0 rfl (fun _ _ _ h => h) stV15_2 (Or.inl ⟨by kernel_rfl, ?hyV15c_3⟩) (by assumption) ?restV15c_3
                  case hyV15c_3 => (intro w hSw; obtain ⟨y0, y1, z0, z1⟩ := hSk.out _ hSw; clear hSw; go_simp; (try with_reducible rfl))
                  try simp only [Act.put, sA, sB, sC]
                  refine wpAnyH_takeR (i := 3) (v := ?vV15c_4) hops hns rdV15_3 (by rfl) frV15_1 rfl (fun _ _ _ h => h) stV15_3 (Or.inl ⟨by kernel_rfl, ?hyV15c_4⟩) (by assumption) ?restV15c_4
                  case hyV15c_4 => (intro w hSw; obtain ⟨y0, y1, z0, z1⟩ := hSk.out _ hSw; clear hSw; go_simp; (try with_reducible rfl))
                  try simp only [Act.put, sA, sB, sC]
                  refine wpAnyH_takeR (i := 4) (v := ?vV15c_5) hops hns rdV15_4 (by rfl) frV15_2 rfl (fun _ _ _ h => h) stV15_4 (Or.inl ⟨by kernel_rfl, ?hyV15c_5⟩) (by assumption) ?restV15c_5
                  case hyV15c_5 => (intro w hSw; obtain ⟨y0, y1, z0, z1⟩ := hSk.out _ hSw; clear hSw; go_simp; (try with_reducible rfl))
                  try simp only [Act.put, sA, sB, sC]
                  refine wpAnyH_takeR (i := 5) (v := ?vV15c_6) hops hns rdV15_5 (by rfl) frV15_3 rfl (fun _ _ _ h => h) stV15_5 (Or.inl ⟨by kernel_rfl, ?hyV15c_6⟩) (by assumption) ?restV15c_6
                  case hyV15c_6 => (intro w hSw; obtain ⟨y0, y1, z0, z1⟩ := hSk.out _ hSw; clear hSw; go_simp; (try with_reducible rfl))
                  try simp only [Act.put, sA, sB, sC]
                  refine wpAnyH_takeR (i := 6) (v := ?vV15c_7) hops hns rdV15_6 (by rfl) frV15_4 rfl (fun _ _ _ h => h) stV15_6 (Or.inl ⟨by kernel_rfl, ?hyV15c_7⟩) (by assumption) ?restV15c_7
                  case hyV15c_7 => (intro w hSw; obtain ⟨y0, y1, z0, z1⟩ := hSk.out _ hSw; clear hSw; go_simp; (try with_reducible rfl))
                  try simp only [Act.put, sA, sB, sC]
                  refine wpAnyH_takeR (i := 7) (v := ?vV15c_8) hops hns rdV15_7 (by rfl) frV15_5 rfl (fun _ _ _ h => h) stV15_7 (Or.inl ⟨by kernel_rfl, ?hyV15c_8⟩) (by assumption) ?restV15c_8
                  case hyV15c_8 => (intro w hSw; obtain ⟨y0, y1, z0, z1⟩ := hSk.out _ hSw; clear hSw; go_simp; (try with_reducible rfl))
                  try simp only [Act.put, sA, sB, sC]
                  refine wpAnyH_oneR (i := 8) (v := ?vV15c_9) hops rdV15_8 rfl stV15_8 (Or.inl ⟨by kernel_rfl, ?hyV15c_9⟩) (by assumption) ?restV15c_9
                  case hyV15c_9 => (intro w hSw; obtain ⟨y0, y1, z0, z1⟩ := hSk.out _ hSw; clear hSw; go_simp; (try with_reducible rfl))
                  try simp only [Act.put, sA, sB, sC]
                  refine wpAnyH_oneR (i := 9) (v := ?vV15c_10) hops rdV15_9 rfl stV15_9 (Or.inl ⟨by kernel_rfl, ?hyV15c_10⟩) (by assumption) ?restV15c_10
                  case hyV15c_10 => (intro w hSw; obtain ⟨y0, y1, z0, z1⟩ := hSk.out _ hSw; clear hSw; go_simp; (try with_reducible rfl))
                  try simp only [Act.put, sA, sB, sC]
                  refine wpAnyH_oneR (i := 10) (v := ?vV15c_11) hops rdV15_10 rfl stV15_10 (Or.inl ⟨by kernel_rfl, ?hyV15c_11⟩) (by assumption) ?restV15c_11
                  case hyV15c_11 => (intro w hSw; obtain ⟨y0, y1, z0, z1⟩ := hSk.out _ hSw; clear hSw; go_simp; (try with_reducible rfl))
                  try simp only [Act.put, sA, sB, sC]
                  refine wpAnyH_oneR (i := 11) (v := ?vV15c_12) hops rdV15_11 rfl stV15_11 (Or.inl ⟨by kernel_rfl, ?hyV15c_12⟩) (by assumption) ?restV15c_12
                  case hyV15c_12 => (intro w hSw; obtain ⟨y0, y1, z0, z1⟩ := hSk.out _ hSw; clear hSw; go_simp; (try with_reducible rfl))
                  try simp only [Act.put, sA, sB, sC]
                  refine wpAnyH_oneR (i := 12) (v := ?vV15c_13) hops rdV15_12 rfl stV15_12 (Or.inl ⟨by kernel_rfl, ?hyV15c_13⟩) (by assumption) ?restV15c_13
                  case hyV15c_13 => (intro w hSw; obtain ⟨y0, y1, z0, z1⟩ := hSk.out _ hSw; clear hSw; go_simp; (try with_reducible rfl))
                  try simp only [Act.put, sA, sB, sC]
                  refine wpAnyH_oneR (i := 13) (v := .bool true) hops rdV15_13 rfl stV15_13 (Or.inl ⟨by kernel_rfl, ?hyV15c_14⟩) (by assumption) ?restV15c_14
                  case hyV15c_14 => (intro w hSw; obtain ⟨y0, y1, z0, z1⟩ := hSk.out _ hSw; clear hSw; go_simp; (try rw [q1]))
                  try simp only [Act.put, sA, sB, sC]
                  refine wpAnyH_oneR (i := 14) (v := ?vV15c_15) hops rdV15_14 rfl stV15_14 (Or.inl ⟨by kernel_rfl, ?hyV15c_15⟩) (by assumption) ?restV15c_15
                  case hyV15c_15 => (intro w hSw; obtain ⟨y0, y1, z0, z1⟩ := hSk.out _ hSw; clear hSw; go_simp; (try with_reducible rfl))
                  try simp only [Act.put, sA, sB, sC]
                  refine wpAnyH_takeR (i := 15) (v := ?vV15c_16) hops hns rdV15_15 (by rfl) frV15_6 rfl (fun _ _ _ h => h) stV15_15 (Or.inl ⟨by kernel_rfl, ?hyV15c_16⟩) (by assumption) ?restV15c_16
                  case hyV15c_16 => (intro w hSw; obtain ⟨y0, y1, z0, z1⟩ := hSk.out _ hSw; clear hSw; go_simp; (try with_reducible rfl))
                  try simp only [Act.put, sA, sB, sC]
                  refine wpAnyH_takeR (i := 16) (v := ?vV15c_17) hops hns rdV15_16 (by rfl) frV15_7 rfl (fun _ _ _ h => h) stV15_16 (Or.inl ⟨by kernel_rfl, ?hyV15c_17⟩) (by assumption) ?restV15c_17
                  case hyV15c_17 => (intro w hSw; obtain ⟨y0, y1, z0, z1⟩ := hSk.out _ hSw; clear hSw; go_simp; (try with_reducible rfl))
                  try simp only [Act.put, sA, sB, sC]
                  refine wpAnyH_takeR (i := 17) (v := ?vV15c_18) hops hns rdV15_17 (by rfl) frV15_8 rfl (fun _ _ _ h => h) stV15_17 (Or.inl ⟨by kernel_rfl, ?hyV15c_18⟩) (by assumption) ?restV15c_18
                  case hyV15c_18 => (intro w hSw; obtain ⟨y0, y1, z0, z1⟩ := hSk.out _ hSw; clear hSw; go_simp; (try with_reducible rfl))
                  try simp only [Act.put, sA, sB, sC]
                  refine wpAnyH_takeR (i := 18) (v := ?vV15c_19) hops hns rdV15_18 (by rfl) frV15_9 rfl (fun _ _ _ h => h) stV15_18 (Or.inl ⟨by kernel_rfl, ?hyV15c_19⟩) (by assumption) ?restV15c_19
                  case hyV15c_19 => (intro w hSw; obtain ⟨y0, y1, z0, z1⟩ := hSk.out _ hSw; clear hSw; go_simp; (try with_reducible rfl))
                  try simp only [Act.put, sA, sB, sC]
                  refine wpAnyH_takeR (i := 19) (v := ?vV15c_20) hops hns rdV15_19 (by rfl) frV15_10 rfl (fun _ _ _ h => h) stV15_19 (Or.inl ⟨by kernel_rfl, ?hyV15c_20⟩) (by assumption) ?restV15c_20
                  case hyV15c_20 => (intro w hSw; obtain ⟨y0, y1, z0, z1⟩ := hSk.out _ hSw; clear hSw; go_simp; (try with_reducible rfl))
                  try simp only [Act.put, sA, sB, sC]
                  refine wpAnyH_takeR (i := 20) (v := ?vV15c_21) hops hns rdV15_20 (by rfl) frV15_11 rfl (fun _ _ _ h => h) stV15_20 (Or.inl ⟨by kernel_rfl, ?hyV15c_21⟩) (by assumption) ?restV15c_21
                  case hyV15c_21 => (intro w hSw; obtain ⟨y0, y1, z0, z1⟩ := hSk.out _ hSw; clear hSw; go_simp; (try with_reducible rfl))
                  try simp only [Act.put, sA, sB, sC]
                  refine wpAnyH_oneR (i := 21) (v := ?vV15c_22) hops rdV15_21 rfl stV15_21 (Or.inl ⟨by kernel_rfl, ?hyV15c_22⟩) (by assumption) ?restV15c_22
                  case hyV15c_22 => (intro w hSw; obtain ⟨y0, y1, z0, z1⟩ := hSk.out _ hSw; clear hSw; go_simp; (try with_reducible rfl))
                  try simp only [Act.put, sA, sB, sC]
                  refine wpAnyH_oneR (i := 22) (v := ?vV15c_23) hops rdV15_22 rfl stV15_22 (Or.inl ⟨by kernel_rfl, ?hyV15c_23⟩) (by assumption) ?restV15c_23
                  case hyV15c_23 => (intro w hSw; obtain ⟨y0, y1, z0, z1⟩ := hSk.out _ hSw; clear hSw; go_simp; (try with_reducible rfl))
                  try simp only [Act.put, sA, sB, sC]
                  refine wpAnyH_oneR (i := 23) (v := ?vV15c_24) hops rdV15_23 rfl stV15_23 (Or.inl ⟨by kernel_rfl, ?hyV15c_24⟩) (by assumption) ?restV15c_24
                  case hyV15c_24 => (intro w hSw; obtain ⟨y0, y1, z0, z1⟩ := hSk.out _ hSw; clear hSw; go_simp; (try with_reducible rfl))
                  try simp only [Act.put, sA, sB, sC]
                  refine wpAnyH_oneR (i := 24) (v := ?vV15c_25) hops rdV15_24 rfl stV15_24 (Or.inl ⟨by kernel_rfl, ?hyV15c_25⟩) (by assumption) ?restV15c_25
                  case hyV15c_25 => (intro w hSw; obtain ⟨y0, y1, z0, z1⟩ := hSk.out _ hSw; clear hSw; go_simp; (try with_reducible rfl))
                  try simp only [Act.put, sA, sB, sC]
                  refine wpAnyH_oneR (i := 25) (v := ?vV15c_26) hops rdV15_25 rfl stV15_25 (Or.inl ⟨by kernel_rfl, ?hyV15c_26⟩) (by assumption) ?restV15c_26
                  case hyV15c_26 => (intro w hSw; obtain ⟨y0, y1, z0, z1⟩ := hSk.out _ hSw; clear hSw; go_simp; (try with_reducible rfl))
                  try simp only [Act.put, sA, sB, sC]
                  refine wpAnyH_oneR (i := 26) (v := .bool q) hops rdV15_26 rfl stV15_26 (Or.inl ⟨by kernel_rfl, ?hyV15c_27⟩) (by assumption) ?restV15c_27
                  case hyV15c_27 => (intro w hSw; obtain ⟨y0, y1, z0, z1⟩ := hSk.out _ hSw; clear hSw; go_simp; rw [← hq.out])
                  try simp only [Act.put, sA, sB, sC]
                  refine wpAnyH_oneR (i := 27) (v := ?vV15c_28) hops rdV15_27 rfl stV15_27 (Or.inl ⟨by kernel_rfl, ?hyV15c_28⟩) (by assumption) ?restV15c_28
                  case hyV15c_28 => (intro w hSw; obtain ⟨y0, y1, z0, z1⟩ := hSk.out _ hSw; clear hSw; go_simp; (try with_reducible rfl))
                  try simp only [Act.put, sA, sB, sC]
                  refine wpAnyH_oneR (i := 28) (v := ?vV15c_29) hops rdV15_28 rfl stV15_28 (Or.inl ⟨by kernel_rfl, ?hyV15c_29⟩) (by assumption) ?restV15c_29
                  case hyV15c_29 => (intro w hSw; obtain ⟨y0, y1, z0, z1⟩ := hSk.out _ hSw; clear hSw; go_simp; (try with_reducible rfl))
                  try simp only [Act.put, sA, sB, sC]
                  refine wpAnyH_oneR (i := 29) (v := ?vV15c_30) hops rdV15_29 rfl stV15_29 (Or.inl ⟨by kernel_rfl, ?hyV15c_30⟩) (by assumption) ?restV15c_30
                  case hyV15c_30 => (intro w hSw; obtain ⟨y0, y1, z0, z1⟩ := hSk.out _ hSw; clear hSw; go_simp; (try with_reducible rfl))
                  try simp only [Act.put, sA, sB, sC]
                  refine wpAnyH_doneR hops rdV15_30 ?_
                  go_wp2_with fail
                  exact ⟨⟨k + 1, _, by go_num, by omega, rfl, Lib.hid hBk.out.drew⟩, by simp [intOf]; omega⟩
            · have d2 : decide ((k : Int) < (n : Int)) = false := by simp; omega
              go_wp2_with fail
              go_meet
              exact ⟨b, rfl, hBk⟩
        case rest =>
          obtain ⟨b, rfl, hBk⟩ := hcut
          have ho2 := Lib.hid (own_below ho.out hBk.out)
          have hB3 := Lib.hid (bl_then hB.out hB.out.size hBk.out)
          obtain ⟨z0, z1⟩ := hkc.out _ hB3.out
          clear ho hB hBk
          cases b with
          | false =>
            go_wp2_with fail
            exact ⟨⟨i + 1, xs, by go_num, by omega, by omega, ho2, hB3⟩, by simp [intOf]; omega⟩
          | true =>
            go_wp2_with (at_builtin; refine app_lit (w0 := w2) w2.heap.size rfl _ _ 46 52 (.slice none 0 0) 1 24 rfl Try.underlying46 info52 rfl (by decide) (by decide) u8 xs.length xs rfl ho2.out hB3.out hB3.out.size 1 1 [.slice (some ad) p cp] rfl rfl (by simp [Value.oneCell']) (by omega) ?_; intro v9 w9 o9 b9 g9 a9; replace o9 := Lib.hid o9; replace b9 := Lib.hid b9; clear g9 a9)
            exact ⟨⟨i + 1, xs ++ [.slice (some ad) p cp], by go_num, by omega, by simp; omega, Lib.hid (by have := o9.out; simpa using this), b9⟩, by simp [intOf]; omega⟩
      · have d1 : decide ((i : Int) < (m : Int)) = false := by simp; omega
        obtain ⟨A8, c8, e8, -, -, -, -⟩ := Rd.own ho.out
        subst e8
        go_wp2_with fail
        first | go_ret | go_end0
        exact ⟨_, _, _, rfl, bl_then hB2.out hB2.out.size hB.out⟩
end Go.Proofs.Ytdhklfbelplbcaa
