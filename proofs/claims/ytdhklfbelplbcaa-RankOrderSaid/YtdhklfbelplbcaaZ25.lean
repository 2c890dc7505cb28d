/-
  The orders of drawn regions of Report.
  f21 Report.
  whole: the two rows are laid.
-/
import Derived.Test.YtdhklfbelplbcaaZ14
import Derived.Test.YtdhklfbelplbcaaZ16
import Derived.Test.YtdhklfbelplbcaaZ19
import Derived.Test.YtdhklfbelplbcaaZ23
import Derived.Test.YtdhklfbelplbcaaZ24
import Derived.Test.YtdhklfbelplbcaaZ10
namespace Go.Proofs.Ytdhklfbelplbcaa
set_option maxRecDepth 100000
noncomputable def opsE6 : Array Oper := regIn 6 Try.f21
theorem nsE6 : Region.noSelect opsE6 = true := by kernel_rfl
theorem liE6 : Array.replicate opsE6.size false = (bitsB 9 0) := by kernel_rfl
theorem rdE6_0 : Region.ready .any opsE6 (bitsB 9 0) = [0, 1, 2, 3, 7] := by kernel_rfl
theorem frE6_0 : Region.free .any opsE6 (bitsB 9 0) 0 = true := by kernel_rfl
theorem stE6_0 : (bitsB 9 0).setIfInBounds 0 true = (bitsB 9 1) := by kernel_rfl
theorem rdE6_1 : Region.ready .any opsE6 (bitsB 9 1) = [1, 2, 3, 7] := by kernel_rfl
theorem frE6_1 : Region.free .any opsE6 (bitsB 9 1) 1 = true := by kernel_rfl
theorem stE6_1 : (bitsB 9 1).setIfInBounds 1 true = (bitsB 9 3) := by kernel_rfl
theorem rdE6_2 : Region.ready .any opsE6 (bitsB 9 3) = [2, 3, 7] := by kernel_rfl
theorem frE6_2 : Region.free .any opsE6 (bitsB 9 3) 2 = true := by kernel_rfl
theorem stE6_2 : (bitsB 9 3).setIfInBounds 2 true = (bitsB 9 7) := by kernel_rfl
theorem rdE6_3 : Region.ready .any opsE6 (bitsB 9 7) = [3, 7] := by kernel_rfl
theorem frE6_3 : Region.free .any opsE6 (bitsB 9 7) 3 = true := by kernel_rfl
theorem stE6_3 : (bitsB 9 7).setIfInBounds 3 true = (bitsB 9 15) := by kernel_rfl
theorem rdE6_4 : Region.ready .any opsE6 (bitsB 9 15) = [4, 7] := by kernel_rfl
theorem frE6_4 : Region.free .any opsE6 (bitsB 9 15) 4 = true := by kernel_rfl
theorem stE6_4 : (bitsB 9 15).setIfInBounds 4 true = (bitsB 9 31) := by kernel_rfl
theorem rdE6_5 : Region.ready .any opsE6 (bitsB 9 31) = [5, 7] := by kernel_rfl
theorem frE6_5 : Region.free .any opsE6 (bitsB 9 31) 5 = true := by kernel_rfl
theorem stE6_5 : (bitsB 9 31).setIfInBounds 5 true = (bitsB 9 63) := by kernel_rfl
theorem stE6_6 : (bitsB 9 63).setIfInBounds 7 true = (bitsB 9 191) := by kernel_rfl
theorem stE6_7 : (bitsB 9 63).setIfInBounds 6 true = (bitsB 9 127) := by kernel_rfl
theorem rdE6_6 : Region.ready .any opsE6 (bitsB 9 63) = [6, 7] := by kernel_rfl
theorem rdE6_7 : Region.ready .any opsE6 (bitsB 9 127) = [7] := by kernel_rfl
theorem stE6_8 : (bitsB 9 127).setIfInBounds 7 true = (bitsB 9 255) := by kernel_rfl
theorem rdE6_8 : Region.ready .any opsE6 (bitsB 9 255) = [8] := by kernel_rfl
theorem stE6_9 : (bitsB 9 255).setIfInBounds 8 true = (bitsB 9 511) := by kernel_rfl
theorem rdE6_9 : Region.ready .any opsE6 (bitsB 9 511) = [] := by kernel_rfl
theorem rdE6_10 : Region.ready .any opsE6 (bitsB 9 191) = [6] := by kernel_rfl
theorem stE6_10 : (bitsB 9 191).setIfInBounds 6 true = (bitsB 9 255) := by kernel_rfl
end Go.Proofs.Ytdhklfbelplbcaa
namespace Go.Proofs.Ytdhklfbelplbcaa
set_option linter.unusedVariables false
set_option linter.unusedSimpArgs false
open Go.RowKit

def ReportPost (w : World) (e : Ending) (w' : World) : Prop := ∃ vr ve vc n, e = .returned (.agg #[vr, ve, vc]) ∧ SlRc w' vr n ∧ (∃ A n c, ve = .slice A n c) ∧ (∃ A n c, vc = .slice A n c) ∧ Below w.heap.size w w'
set_option maxHeartbeats 64000000 in
set_option maxRecDepth 100000 in
theorem report_any (v vl : Value) (bs : Nat → St) (w : World) (hp : PrOk w.cell? v bs) (hl : SlSum w vl) (hok : ∀ j, j < 4 → StOk (bs j)) (hcnt : ∀ j, j < 4 → (bs j).cnt ≤ 200) :
    Calls Try.prog 21 #[v, vl] w (ReportPost w) := by
  have hp' := Lib.hid hp
  obtain ⟨A0, n0, c0, g1, g2, rfl, hlk, -⟩ := hp
  replace hlk := Lib.hid hlk
  have hok' := Lib.hid hok
  have hcnt' := Lib.hid hcnt
  have hsum0 : Hid (∀ f, f < 4 → ∀ w', Below w.heap.size w w' → Calls Try.prog 36 #[(.agg #[.slice A0 n0 c0, .slice (some ⟨g1, 0, none⟩) 3 3, .slice (some ⟨g2, 0, none⟩) 4 4]), vl, .string (fnN f)] w' (SumPost w w')) := Lib.hid (fun f hf w' hb => dsum_any _ vl bs f hf w w' hb hp'.out hl)
  obtain ⟨gl, cl, rfl, -, -, -⟩ := hl
  clear hok hcnt
  have hrow : Hid (∀ w' : World, w'.heap[w.heap.size]? = some (.cells #[.slice A0 n0 c0, .slice (some ⟨g1, 0, none⟩) 3 3, .slice (some ⟨g2, 0, none⟩) 4 4] 40 (0, 0)) → (w'.cell? ⟨w.heap.size, 0, none⟩ = some (.slice A0 n0 c0) ∧ w'.cell? ⟨w.heap.size, 1, none⟩ = some (.slice (some ⟨g1, 0, none⟩) 3 3) ∧ w'.cell? ⟨w.heap.size, 2, none⟩ = some (.slice (some ⟨g2, 0, none⟩) 4 4))) := Lib.hid (fun w' h => by
    refine ⟨?_, ?_, ?_⟩ <;> (rw [cell_of_row _ _ _ _ 40 (0, 0) h]; rfl))
  obtain ⟨W3, hW3⟩ : ∃ Z, Z = ((w.alloc (.cells #[.slice A0 n0 c0, .slice (some ⟨g1, 0, none⟩) 3 3, .slice (some ⟨g2, 0, none⟩) 4 4] 40)).alloc (.cells #[.slice none 0 0, .slice none 0 0, .slice none 0 0] 48)).alloc (.cells #[.slice none 0 0, .slice none 0 0, .slice none 0 0] 48) := ⟨_, rfl⟩
  have hz3 : Hid (W3.heap.size = w.heap.size + 3) := Lib.hid (by rw [hW3]; simp)
  have hb3 : Hid (Below w.heap.size w W3) := Lib.hid (by rw [hW3]; exact bl_alloc (bl_alloc (bl_alloc (Below.refl _ _) _) _) _)
  have hx0 : Hid (W3.heap[w.heap.size]? = some (.cells #[.slice A0 n0 c0, .slice (some ⟨g1, 0, none⟩) 3 3, .slice (some ⟨g2, 0, none⟩) 4 4] 40 (0, 0))) := Lib.hid (by rw [hW3]; exact blk_alloc (blk_alloc (heap_alloc_new w _) _) _)
  have hx1 : Hid (W3.heap[w.heap.size + 1]? = some (.cells ([.slice none 0 0, .slice none 0 0, .slice none 0 0] : List Value).toArray 48 (0, 0))) := Lib.hid (by
    have := heap_alloc_new (w.alloc (.cells #[.slice A0 n0 c0, .slice (some ⟨g1, 0, none⟩) 3 3, .slice (some ⟨g2, 0, none⟩) 4 4] 40)) (.cells #[.slice none 0 0, .slice none 0 0, .slice none 0 0] 48)
    rw [World.size_alloc] at this
    rw [hW3]; exact blk_alloc this _)
  have hx2 : Hid (W3.heap[w.heap.size + 2]? = some (.cells ([.slice none 0 0, .slice none 0 0, .slice none 0 0] : List Value).toArray 48 (0, 0))) := Lib.hid (by
    have := heap_alloc_new ((w.alloc (.cells #[.slice A0 n0 c0, .slice (some ⟨g1, 0, none⟩) 3 3, .slice (some ⟨g2, 0, none⟩) 4 4] 40)).alloc (.cells #[.slice none 0 0, .slice none 0 0, .slice none 0 0] 48)) (.cells #[.slice none 0 0, .slice none 0 0, .slice none 0 0] 48)
    rw [World.size_alloc, World.size_alloc] at this
    rw [hW3]; exact this)
  obtain ⟨y0, y1, y2⟩ := hrow.out _ hx0.out
  have hro := Lib.hid (roots_any (.agg #[.slice A0 n0 c0, .slice (some ⟨g1, 0, none⟩) 3 3, .slice (some ⟨g2, 0, none⟩) 4 4]) bs W3 (hp'.out.mono (cell_le hb3.out)) hok'.out hcnt'.out)
  go_enter Try.func21, Try.ntmps21
  go_upto_region 2 with fail
  rw [← hW3]
  replace hW3 := Lib.hid hW3
  go_upto_block 0 with (go_at_call 35; (with_reducible refine hro.out.mono ?_); rintro e w2 ⟨A6, c6, gm, cm, Lr, ym, rfl, ha6, hgm, hs6, hf6, hp6, hp5, hm1, hm2, hrm, hlm, hym, hb2⟩; replace ha6 := Lib.hid ha6; replace hgm := Lib.hid hgm; replace hs6 := Lib.hid hs6; replace hf6 := Lib.hid hf6; replace hrm := Lib.hid hrm; replace hlm := Lib.hid hlm; replace hym := Lib.hid hym; replace hb2 := Lib.hid hb2)
  obtain ⟨go, hgo⟩ : ∃ g, g = w.heap.size + 2 := ⟨_, rfl⟩
  obtain ⟨gr, hgr⟩ : ∃ g, g = w.heap.size + 1 := ⟨_, rfl⟩
  rw [← hgo, ← hgr]
  have hR0 : Hid (RepS w w2 w2 go (.slice none 0 0) (.slice none 0 0) 0 []) := Lib.hid ⟨bl_then hb3.out hb3.out.size hb2.out, grown_refl _ _, by rw [hgo]; exact bl_row hb2.out hx2.out, SlRc.nil _, SlEd.nil _, (fun b h => by cases h), (fun b h => by cases h), by omega, by have := hz3.out; have := hb2.out.size; omega⟩
  have hxr : Hid (w2.heap[gr]? = some (.cells ([.slice none 0 0, .slice none 0 0, .slice none 0 0] : List Value).toArray 48 (0, 0)) ∧ gr ≠ go ∧ w.heap.size ≤ gr) := Lib.hid ⟨by rw [hgr]; exact bl_row hb2.out hx1.out, by omega, by omega⟩
  have hbox : Hid (∀ w', w2.grownBy w' (some go) → (w'.cell? ⟨w.heap.size, 0, none⟩ = some (.slice A0 n0 c0) ∧ w'.cell? ⟨w.heap.size, 1, none⟩ = some (.slice (some ⟨g1, 0, none⟩) 3 3) ∧ w'.cell? ⟨w.heap.size, 2, none⟩ = some (.slice (some ⟨g2, 0, none⟩) 4 4))) := Lib.hid (fun w' hg => hrow.out w' (row_kept (bl_row hb2.out hx0.out) hg (by omega)))
  obtain ⟨ad, rfl⟩ : ∃ ad, A6 = some ad := by
    obtain ⟨A', c', e, -, -, -, hr⟩ := hs6.out
    cases e
    obtain ⟨ad, x, q1, -⟩ := hr.at 0 hp6
    exact ⟨ad, q1⟩
  have hc6 : Lr.length ≤ c6 := by
    obtain ⟨A', c', e, h1, -⟩ := hs6.out
    cases e; exact h1
  have hroot : Hid (∀ i, i < Lr.length → ∃ f, f < 4 ∧ ∀ w', w2.grownBy w' (some go) → w'.cell? (ad.add i) = some (.string (fnN f))) := Lib.hid (fun i hi => by
    obtain ⟨A', c', e, -, -, -, hr⟩ := hs6.out
    cases e
    obtain ⟨ad, x, q1, q2, q3⟩ := hr.at i hi
    cases q1
    obtain ⟨f, hf, q4⟩ := hf6.out _ (List.getElem_mem hi)
    refine ⟨f, hf, fun w' hg => ?_⟩
    have hr' := hr.grown hg (fun a ha e => by cases e; have := ha6.out a ha; have := hz3.out; omega)
    obtain ⟨ad', x', q1', q2', q3'⟩ := hr'.at i hi
    cases q1'
    rw [q2', q3', q4])
  have hmany : Hid (∀ i, i < Lr.length → ∃ b : Bool, ∀ w', w2.grownBy w' (some go) → w'.cell? ⟨gm, i, none⟩ = some (.bool b)) := Lib.hid (fun i hi => by
    have hi' : i < ym.length := by rw [hlm.out]; exact hi
    obtain ⟨b, hb⟩ := hym.out _ (List.getElem_mem hi')
    refine ⟨b, fun w' hg => ?_⟩
    have hr' := hrm.out.grown hg (fun a ha e => by cases ha; simp only [Option.some.injEq] at e; have := hgm.out; have := hz3.out; omega)
    have := hr'.cells i _ (List.getElem?_eq_getElem hi')
    rw [add_plain, hb] at this
    exact this)
  obtain ⟨p, hpl⟩ : ∃ p, p = Lr.length := ⟨_, rfl⟩
  rw [← hpl] at hroot hmany hp5 hp6 hm1 hc6 ⊢
  replace hpl := Lib.hid hpl
  replace hgo := Lib.hid hgo
  replace hgr := Lib.hid hgr
  clear hs6 hf6 hrm hlm hym ha6 hgm hro y0 y1 y2 hx0 hx1 hx2
  go_cut [] (fun wx => ∃ vr ve n es, Hid (RepS w w2 wx go vr ve n es) ∧ Hid (n ≤ 100000000 ∧ es.length ≤ 100000))
  case first =>
    go_wp2_with fail
    go_loopw [8] (fun v8 wr => ∃ (i : Nat) (vr ve : Value) (n : Nat) (es : List (ByteArray × ByteArray)), v8 = .int .i64 (i : Nat) ∧ i ≤ p ∧ n ≤ bdR i 0 ∧ es.length ≤ i * 2400 ∧ Hid (RepS w w2 wr go vr ve n es)) (fun v _ => p - (intOf v).toNat)
    case atStart => exact ⟨0, _, _, 0, [], rfl, Nat.zero_le _, Nat.zero_le _, by simp, hR0⟩
    case round =>
      obtain ⟨wi, rfl⟩ : ∃ x, x = wr := ⟨_, rfl⟩
      obtain ⟨i, vr, ve, n, es, rfl, hi, hn, hes, hR⟩ := hrel
      by_cases hlt : i < p
      · have d1 : decide ((i : Int) < (p : Int)) = true := by simp; omega
        have i1 : (0 : Int) ≤ (i : Int) := by omega
        have i2 : (i : Int) < (p : Int) := by omega
        have i3 : (i : Int) < (cm : Int) := by omega
        obtain ⟨f, hf, hroc⟩ := hroot.out i hlt
        have hsum : Hid (∀ w', Below wi.heap.size wi w' → Calls Try.prog 36 #[(.agg #[.slice A0 n0 c0, .slice (some ⟨g1, 0, none⟩) 3 3, .slice (some ⟨g2, 0, none⟩) 4 4]), .slice (some ⟨gl, 0, none⟩) 4 cl, .string (fnN f)] w' (SumPost w w')) := Lib.hid (fun w' hb => hsum0.out f hf w' (bl_then hR.out.hB hR.out.hB.size hb))
        have hSk : Hid (∀ w', Below wi.heap.size wi w' → (w'.cell? ⟨w.heap.size, 0, none⟩ = some (.slice A0 n0 c0) ∧ w'.cell? ⟨w.heap.size, 1, none⟩ = some (.slice (some ⟨g1, 0, none⟩) 3 3) ∧ w'.cell? ⟨w.heap.size, 2, none⟩ = some (.slice (some ⟨g2, 0, none⟩) 4 4) ∧ w'.cell? (ad.add i) = some (.string (fnN f)))) := Lib.hid (fun w' hb => by
          have hg := grown_then hR.out.hK (.inl rfl) (grown_of_below hb (some go))
          obtain ⟨q0, q1, q2⟩ := hbox.out w' hg
          exact ⟨q0, q1, q2, hroc w' hg⟩)
        replace hroc := Lib.hid hroc
        go_upto_region 6 with fail
        go_cut [9] (fun v9 wx => SumAt w wi wx v9)
        case first =>
          refine wp_region_heldR (S := fun w' => Below wi.heap.size wi w') opsE6 _ (by kernel_rfl) liE6 (by kernel_rfl) nsE6 ((Below.refl wi.heap.size wi).drew) (fun hops hns hHeld => ?_)
          refine wpAnyH_takeR (i := 0) (v := ?vE6_1) hops hns rdE6_0 (by rfl) frE6_0 rfl (fun _ _ _ h => h) stE6_0 (Or.inl ⟨by kernel_rfl, ?hyE6_1⟩) (by assumption) ?restE6_1
          case hyE6_1 => (intro w hSw; obtain ⟨y0, y1, y2, y3⟩ := hSk.out _ hSw; clear hSw; go_simp; (try with_reducible rfl))
          try simp only [Act.put, sA, sB, sC]
          refine wpAnyH_takeR (i := 1) (v := ?vE6_2) hops hns rdE6_1 (by rfl) frE6_1 rfl (fun _ _ _ h => h) stE6_1 (Or.inl ⟨by kernel_rfl, ?hyE6_2⟩) (by assumption) ?restE6_2
          case hyE6_2 => (intro w hSw; obtain ⟨y0, y1, y2, y3⟩ := hSk.out _ hSw; clear hSw; go_simp; (try with_reducible rfl))
          try simp only [Act.put, sA, sB, sC]
          refine wpAnyH_takeR (i := 2) (v := ?vE6_3) hops hns rdE6_2 (by rfl) frE6_2 rfl (fun _ _ _ h => h) stE6_2 (Or.inl ⟨by kernel_rfl, ?hyE6_3⟩) (by assumption) ?restE6_3
          case hyE6_3 => (intro w hSw; obtain ⟨y0, y1, y2, y3⟩ := hSk.out _ hSw; clear hSw; go_simp; (try with_reducible rfl))
          try simp only [Act.put, sA, sB, sC]
          refine wpAnyH_takeR (i := 3) (v := ?vE6_4) hops hns rdE6_3 (by rfl) frE6_3 rfl (fun _ _ _ h => h) stE6_3 (Or.inl ⟨by kernel_rfl, ?hyE6_4⟩) (by assumption) ?restE6_4
          case hyE6_4 => (intro w hSw; obtain ⟨y0, y1, y2, y3⟩ := hSk.out _ hSw; clear hSw; go_simp; (try with_reducible rfl))
          try simp only [Act.put, sA, sB, sC]
          refine wpAnyH_takeR (i := 4) (v := ?vE6_5) hops hns rdE6_4 (by rfl) frE6_4 rfl (fun _ _ _ h => h) stE6_4 (Or.inl ⟨by kernel_rfl, ?hyE6_5⟩) (by assumption) ?restE6_5
          case hyE6_5 => (intro w hSw; obtain ⟨y0, y1, y2, y3⟩ := hSk.out _ hSw; clear hSw; go_simp; (try with_reducible rfl))
          try simp only [Act.put, sA, sB, sC]
          refine wpAnyH_takeR (i := 5) (v := ?vE6_6) hops hns rdE6_5 (by rfl) frE6_5 rfl (fun _ _ _ h => h) stE6_5 (Or.inl ⟨by kernel_rfl, ?hyE6_6⟩) (by assumption) ?restE6_6
          case hyE6_6 => (intro w hSw; obtain ⟨y0, y1, y2, y3⟩ := hSk.out _ hSw; clear hSw; go_simp; (try with_reducible rfl))
          try simp only [Act.put, sA, sB, sC]
          refine wpAnyH_readyR (rs := [6, 7]) hops rdE6_6 (by simp) (AllReadyH.consR rfl stE6_7 (fun K hK => ?_) (AllReadyH.consR rfl stE6_6 (fun K hK => ?_) AllReadyH.nil))
          · skip
            (go_simp; go_wp2_with (go_at_call 36; (with_reducible refine (hsum.out _ (by repeat (with_reducible (first | assumption | exact hBo.out | exact Below.refl _ _ | apply bl_alloc | apply Below.drew)))).mono ?_); rintro e w6 ⟨v6, rfl, ⟨m, y, A1, A2, A3, na, c1, nq, c2, n3, c3, rfl, k1, k2, k3, k4⟩, hb6⟩; have hBo := Lib.hid (show Below wi.heap.size wi w6 from bl_then (by repeat (with_reducible (first | assumption | exact hBo.out | exact Below.refl _ _ | apply bl_alloc | apply Below.drew))) (by simp) hb6); replace k1 := Lib.hid k1; replace k2 := Lib.hid k2; clear hb6))
            refine hK.out _ _ (by exact hBo.out) (fun hHeld => ?_)
            clear hK K
            try simp only [Act.put, sA, sB, sC]
            refine wpAnyH_readyR (rs := [7]) hops rdE6_7 (by simp) (AllReadyH.consR rfl stE6_8 (fun K hK => ?_) AllReadyH.nil)
            go_simp
            refine hK.out _ _ (by exact (bl_alloc hBo.out _)) (fun hHeld => ?_)
            clear hK K
            try simp only [Act.put, sA, sB, sC]
            refine wpAnyH_readyR (rs := [8]) hops rdE6_8 (by simp) (AllReadyH.consR rfl stE6_9 (fun K hK => ?_) AllReadyH.nil)
            go_simp
            refine hK.out _ _ (by exact (bl_alloc hBo.out _)) (fun hHeld => ?_)
            clear hK K
            try simp only [Act.put, sA, sB, sC]
            refine wpAnyH_doneR hops rdE6_9 ?_
            go_wp2_with fail
            go_meet
            exact ⟨_, m, y, A1, A2, A3, na, c1, nq, c2, n3, c3, rfl, Lib.hid (heap_alloc_new w6 _), Lib.hid (hBo.out.size), Lib.hid (bl_alloc hBo.out _), Lib.hid ⟨k1.out, k2.out, k3, k4⟩⟩
          · skip
            go_simp
            refine hK.out _ _ (by repeat (with_reducible (first | assumption | exact hBo.out | exact Below.refl _ _ | apply bl_alloc | apply Below.drew))) (fun hHeld => ?_)
            clear hK K
            try simp only [Act.put, sA, sB, sC]
            refine wpAnyH_readyR (rs := [6]) hops rdE6_10 (by simp) (AllReadyH.consR rfl stE6_10 (fun K hK => ?_) AllReadyH.nil)
            (go_simp; go_wp2_with (go_at_call 36; (with_reducible refine (hsum.out _ (by repeat (with_reducible (first | assumption | exact hBo.out | exact Below.refl _ _ | apply bl_alloc | apply Below.drew)))).mono ?_); rintro e w6 ⟨v6, rfl, ⟨m, y, A1, A2, A3, na, c1, nq, c2, n3, c3, rfl, k1, k2, k3, k4⟩, hb6⟩; have hBo := Lib.hid (show Below wi.heap.size wi w6 from bl_then (by repeat (with_reducible (first | assumption | exact hBo.out | exact Below.refl _ _ | apply bl_alloc | apply Below.drew))) (by simp) hb6); replace k1 := Lib.hid k1; replace k2 := Lib.hid k2; have hx : w6.heap[wi.heap.size]? = some (.cells #[.string ⟨#[]⟩, .string ⟨#[]⟩, .slice none 0 0, .slice none 0 0, .slice none 0 0] 78 (0, 0)) := bl_row hb6 (heap_alloc_new wi _); have f0 : w6.cell? ⟨wi.heap.size, 0, none⟩ = some (Value.string ⟨#[]⟩) := (by rw [cell_of_row _ _ 0 _ 78 (0, 0) hx]; rfl); have h0 : w6.frozen? ⟨wi.heap.size, 0, none⟩ = false := (by simp [World.frozen?, hx]); have f1 : w6.cell? ⟨wi.heap.size, 1, none⟩ = some (Value.string ⟨#[]⟩) := (by rw [cell_of_row _ _ 1 _ 78 (0, 0) hx]; rfl); have h1 : w6.frozen? ⟨wi.heap.size, 1, none⟩ = false := (by simp [World.frozen?, hx]); have f2 : w6.cell? ⟨wi.heap.size, 2, none⟩ = some (Value.slice none 0 0) := (by rw [cell_of_row _ _ 2 _ 78 (0, 0) hx]; rfl); have h2 : w6.frozen? ⟨wi.heap.size, 2, none⟩ = false := (by simp [World.frozen?, hx]); have f3 : w6.cell? ⟨wi.heap.size, 3, none⟩ = some (Value.slice none 0 0) := (by rw [cell_of_row _ _ 3 _ 78 (0, 0) hx]; rfl); have h3 : w6.frozen? ⟨wi.heap.size, 3, none⟩ = false := (by simp [World.frozen?, hx]); have f4 : w6.cell? ⟨wi.heap.size, 4, none⟩ = some (Value.slice none 0 0) := (by rw [cell_of_row _ _ 4 _ 78 (0, 0) hx]; rfl); have h4 : w6.frozen? ⟨wi.heap.size, 4, none⟩ = false := (by simp [World.frozen?, hx]); replace hx := Lib.hid hx; clear hb6))
            refine hK.out _ _ (by exact hBo.out) (fun hHeld => ?_)
            clear hK K
            try simp only [Act.put, sA, sB, sC]
            refine wpAnyH_readyR (rs := [8]) hops rdE6_8 (by simp) (AllReadyH.consR rfl stE6_9 (fun K hK => ?_) AllReadyH.nil)
            go_simp
            refine hK.out _ _ (by exact bl_set5 hBo.out _ (Nat.le_refl _) _ _ _ _ _) (fun hHeld => ?_)
            clear hK K
            try simp only [Act.put, sA, sB, sC]
            refine wpAnyH_doneR hops rdE6_9 ?_
            go_wp2_with fail
            go_meet
            exact ⟨_, m, y, A1, A2, A3, na, c1, nq, c2, n3, c3, rfl, Lib.hid (set5 w6 wi.heap.size _ _ _ _ _ _ _ _ _ _ 78 hx.out), Lib.hid (Nat.le_refl _), Lib.hid (bl_set5 hBo.out _ (Nat.le_refl _) _ _ _ _ _), Lib.hid ⟨k1.out, k2.out, k3, k4⟩⟩
        case rest =>
          obtain ⟨b9, m9, y9, A9, B9, C9, na, c9, nq, d9, ns, e9, rfl, h9, hge9, hB9, hsq⟩ := hcut
          obtain ⟨wj, rfl⟩ : ∃ x, x = wc := ⟨_, rfl⟩
          have hRj := Lib.hid (hR.out.below hB9.out)
          have hne9 : Hid (b9 ≠ go) := Lib.hid (by have := hR.out.lt; have := hge9.out; omega)
          clear hSk hsum hR hB9
          go_upto_block 2 with fail
          refine report_b2 _ _ _ _ _ _ _ _ _ _ _ _ _ _ _ _ _ _ _ _ _ _ _ _ _ _ _ _ _ _ _ _ _ _ _ _ _ _ _ _ _ _ _ _ _ _ _ _ _ _ _ _ _ _ _ _ _ _ _ _ _ _ _ _ _ _ _ _ _ _ _ _ _ _ _ _ _ _ _ _ _ _ _ _ _ _ _ _ _ _ _ _ _ _ _ _ _ _ _ _ _ _ _ _ _ _ _ _ _ _ _ _ _ _ _ _ _ _ _ _ _ _ _ _ _ _ _ _ _ _ _ _ _ _ _ _ _ _ _ _ _ _ _ _ _ _ _ _ _ _ _ _ _ _ _ _ _ _ _ _ _ _ _ _ _ _ _ _ _ _ _ _ _ _ _ _ _ _ _ _ _ _ _ _ _ _ _ _ _ _ _ _ _ _ _ _ _ _ _ _ _ _ _ hRj h9 hne9 hsq hsum0 hbox hroot hmany hp5 hm1 hc6 hlt hn (Lib.hid (fun _ _ d _ _ h => by cases d <;> exact h)) (Lib.hid (fun _ _ _ _ _ _ _ _ _ _ _ _ _ _ _ _ _ _ _ _ _ _ _ _ _ _ _ _ _ _ _ _ _ _ _ _ _ _ _ _ _ _ _ _ _ _ _ _ _ _ _ _ _ _ _ _ _ _ _ _ _ _ _ _ _ _ _ _ _ _ _ _ _ _ _ _ _ _ _ _ _ _ _ _ _ _ _ _ _ _ _ _ _ _ _ _ _ _ _ _ _ wk hm => ?_))
          obtain ⟨vr2, n2, hn2, hRk0, hKk0⟩ := hm.out
          have hRk := Lib.hid hRk0
          have hKk := Lib.hid hKk0
          have hk9 := Lib.hid (row_kept h9.out hKk.out hne9.out)
          have hbx8 : Hid (∀ w', wk.grownBy w' (some go) → w'.cell? ⟨w.heap.size, 1, none⟩ = some (.slice (some ⟨g1, 0, none⟩) 3 3)) := Lib.hid (fun w' hg => (hbox.out w' (grown_then hRk.out.hK (.inl rfl) hg)).2.1)
          clear hm hRk0 hKk0
          go_upto_block 8 with fail
          refine report_b8 _ _ _ _ _ _ _ _ _ _ _ _ _ _ _ _ _ _ _ _ _ _ _ _ _ _ _ _ _ _ _ _ _ _ _ _ _ _ _ _ _ _ _ _ _ _ _ _ _ _ _ _ _ _ _ _ _ _ _ _ _ _ _ _ _ _ _ _ _ _ _ _ _ _ _ _ _ _ _ _ _ _ _ _ _ _ _ _ _ _ _ _ _ _ _ _ _ _ _ _ _ _ _ _ _ _ _ _ _ _ _ _ _ _ _ _ _ _ _ _ _ _ _ _ _ _ _ _ _ _ _ _ _ _ _ _ _ _ _ _ _ _ _ _ _ _ _ _ _ _ _ _ _ _ _ _ _ _ _ _ _ _ _ _ _ _ _ _ _ _ _ _ _ _ _ _ _ _ _ _ _ _ _ _ _ _ _ _ _ _ _ _ _ _ _ _ hRk hk9 hne9 (Lib.hid hsq.out.2.1) hbx8 hlk hsq.out.2.2.2 (by omega) (Lib.hid (fun _ _ d _ _ h => by cases d <;> exact h)) (Lib.hid (fun _ _ _ _ _ _ _ _ _ _ _ _ _ _ _ _ _ _ _ _ _ _ _ _ _ _ _ _ _ _ _ _ _ _ _ _ _ _ _ _ _ wm hm => ?_))
          obtain ⟨ve2, es2, hes2, hRm, hKm⟩ := hm.out
          go_wp2_with fail
          exact ⟨⟨i + 1, vr2, ve2, n2, es2, by go_num, by omega, hn2, by omega, Lib.hid hRm⟩, by simp [intOf]; omega⟩
      · have d1 : decide ((i : Int) < (p : Int)) = false := by simp; omega
        go_wp2_with fail
        go_meet
        exact ⟨vr, ve, n, es, hR, Lib.hid ⟨Nat.le_trans (Nat.le_trans hn (bdR_top (by omega))) (by decide), by omega⟩⟩
  case rest =>
    obtain ⟨vr, ve, n, es, hR, hnn⟩ := hcut
    have hRg := Lib.hid (rings_any (.agg #[.slice A0 n0 c0, .slice (some ⟨g1, 0, none⟩) 3 3, .slice (some ⟨g2, 0, none⟩) 4 4]) ve bs es wc (hp'.out.mono (cell_le hR.out.hB)) hR.out.ed hnn.out.2)
    obtain ⟨Ar, cr, xr, hvr, -⟩ := hR.out.rc
    subst hvr
    obtain ⟨Ae, ce, hve, -⟩ := hR.out.ed
    subst hve
    obtain ⟨q0, q1, q2⟩ := hbox.out wc hR.out.hK
    have e0 : wc.cell? ⟨go, 1, none⟩ = some (.slice Ae es.length ce) := by rw [cell_of_row _ _ 1 _ 48 (0, 0) hR.out.bx]; rfl
    have hgr1 := Lib.hid (row_kept hxr.out.1 hR.out.hK hxr.out.2.1)
    go_upto_region 33 with (go_at_call 42; (with_reducible refine hRg.out.mono ?_); rintro e w9 ⟨A9, n9, c9, rfl, hb9⟩; have hx9 := bl_row hb9 hR.out.bx; have u1 : w9.cell? ⟨go, 2, none⟩ = some (.slice none 0 0) := (by rw [cell_of_row _ _ 2 _ 48 (0, 0) hx9]; rfl); have u2 : w9.frozen? ⟨go, 2, none⟩ = false := (by simp [World.frozen?, hx9]); replace hx9 := Lib.hid hx9; replace hb9 := Lib.hid hb9)
    have s2 := set_field w9 go 2 _ (.slice A9 n9 c9) 48 hx9.out
    have hBf : Hid (Below w.heap.size w (w9.setCell ⟨go, 2, none⟩ (.slice A9 n9 c9))) := Lib.hid ((bl_then hR.out.hB hR.out.hB.size hb9.out).setCell (p := ⟨go, 2, none⟩) hR.out.gw _)
    have hgr2 := (row_kept (bl_row hb9.out hgr1.out) s2.2 hxr.out.2.1)
    have hrc : Hid (SlRc (w9.setCell ⟨go, 2, none⟩ (.slice A9 n9 c9)) (.slice Ar n cr) n) := Lib.hid ((hR.out.rc.below hb9.out).grown s2.2 (ge_ne hR.out.nr hR.out.gl))
    obtain ⟨wf, hwf⟩ : ∃ W, W = w9.setCell ⟨go, 2, none⟩ (.slice A9 n9 c9) := ⟨_, rfl⟩
    have hgo3 : wf.heap[go]? = some (.cells ([.slice Ar n cr, .slice Ae es.length ce, .slice A9 n9 c9] : List Value).toArray 48 (0, 0)) := by rw [hwf]; exact s2.1
    rw [← hwf] at hBf hgr2 hrc ⊢
    replace hwf := Lib.hid hwf
    clear s2 u1 u2 e0 q0 q1 q2
    have a0 : wf.cell? ⟨go, 0, none⟩ = some (.slice Ar n cr) := by rw [cell_of_row _ _ 0 _ 48 (0, 0) hgo3]; rfl
    have a1 : wf.cell? ⟨go, 1, none⟩ = some (.slice Ae es.length ce) := by rw [cell_of_row _ _ 1 _ 48 (0, 0) hgo3]; rfl
    have a2 : wf.cell? ⟨go, 2, none⟩ = some (.slice A9 n9 c9) := by rw [cell_of_row _ _ 2 _ 48 (0, 0) hgo3]; rfl
    have b0 : wf.cell? ⟨gr, 0, none⟩ = some (.slice none 0 0) := by rw [cell_of_row _ _ 0 _ 48 (0, 0) hgr2]; rfl
    have b1 : wf.cell? ⟨gr, 1, none⟩ = some (.slice none 0 0) := by rw [cell_of_row _ _ 1 _ 48 (0, 0) hgr2]; rfl
    have b2 : wf.cell? ⟨gr, 2, none⟩ = some (.slice none 0 0) := by rw [cell_of_row _ _ 2 _ 48 (0, 0) hgr2]; rfl
    have f0 : wf.frozen? ⟨gr, 0, none⟩ = false := by simp [World.frozen?, hgr2]
    have f1 : wf.frozen? ⟨gr, 1, none⟩ = false := by simp [World.frozen?, hgr2]
    have f2 : wf.frozen? ⟨gr, 2, none⟩ = false := by simp [World.frozen?, hgr2]
    replace hgr2 := Lib.hid hgr2
    replace hgo3 := Lib.hid hgo3
    go_wp2_with fail
    have s0 := set_field wf gr 0 _ (.slice Ar n cr) 48 hgr2.out
    have s1 := set_field _ gr 1 _ (.slice Ae es.length ce) 48 s0.1
    have s2 := set_field _ gr 2 _ (.slice A9 n9 c9) 48 s1.1
    have hg3 := grown_then (grown_then s0.2 (.inl rfl) s1.2) (.inl rfl) s2.2
    have q : ∀ i, w.heap.size ≤ (⟨gr, i, none⟩ : Addr).block := fun i => hxr.out.2.2
    have hB := ((hBf.out.setCell (p := ⟨gr, 0, none⟩) (q 0) (.slice Ar n cr)).setCell (p := ⟨gr, 1, none⟩) (q 1) (.slice Ae es.length ce)).setCell (p := ⟨gr, 2, none⟩) (q 2) (.slice A9 n9 c9)
    exact bodyPost_ret (v := .agg #[.slice Ar n cr, .slice Ae es.length ce, .slice A9 n9 c9]) (res_c rfl _ _ gr 48 _ (0, 0) _ rfl s2.1 Try.underlying48 rfl (by kernel_rfl)) rfl ⟨_, _, _, n, rfl, hrc.out.grown hg3 (ge_ne hR.out.nr (by have := hgr.out; have := hgo.out; have := hR.out.gl; omega)), ⟨_, _, _, rfl⟩, ⟨_, _, _, rfl⟩, hB⟩
end Go.Proofs.Ytdhklfbelplbcaa
namespace Go.Proofs.Ytdhklfbelplbcaa
set_option linter.unusedVariables false
set_option linter.unusedSimpArgs false
open Go.RowKit
set_option maxHeartbeats 16000000 in
set_option maxRecDepth 100000 in
theorem whole_b0 (bx g2 : Nat) (tc : Int) (sl0 sl1 sl3 sl4 sl5 sl11 sl12 sl13 sl14 sl15 sl16 sl17 sl18 sl19 sl20 sl21 sl22 sl23 sl24 sl25 sl26 sl27 sl28 sl29 sl30 sl31 sl32 sl33 sl34 sl35 sl36 sl37 sl38 sl39 sl40 sl41 sl42 sl43 sl44 sl45 sl46 sl47 sl48 sl49 sl50 sl51 sl52 sl53 sl54 sl55 sl56 sl57 sl58 sl59 sl60 sl61 sl62 sl63 sl64 sl65 sl66 sl67 sl68 sl69 sl70 sl71 sl72 sl73 sl74 sl75 sl76 sl77 sl78 sl79 sl80 sl81 sl82 sl83 sl84 sl85 sl86 sl87 sl88 sl89 sl90 sl91 sl92 sl93 sl94 sl95 sl96 sl97 sl98 sl99 sl100 sl101 sl102 sl103 sl104 sl105 sl106 sl107 sl108 sl109 sl110 sl111 sl112 sl113 sl114 sl115 sl116 sl117 sl118 sl119 sl120 sl121 sl122 sl123 sl124 sl125 sl126 sl127 sl128 sl129 sl130 sl131 sl132 sl133 sl134 sl135 sl136 sl137 sl138 sl139 sl140 sl141 sl142 sl143 sl144 sl145 sl146 sl147 sl148 sl149 sl150 sl151 sl152 sl153 sl154 sl155 sl156 sl157 sl158 sl159 sl160 sl161 sl162 sl163 sl164 sl165 sl166 sl167 sl168 sl169 sl170 sl171 sl172 sl173 sl174 sl175 sl176 sl177 sl178 sl179 sl180 sl181 sl182 sl183 sl184 sl185 sl186 sl187 sl188 sl189 sl190 sl191 sl192 sl193 sl194 sl195 sl196 sl197 sl198 sl199 sl200 sl201 sl202 sl203 sl204 sl205 sl206 sl207 sl208 sl209 sl210 sl211 sl212 sl213 sl214 sl215 sl216 sl217 sl218 sl219 sl220 sl221 sl222 sl223 sl224 sl225 sl226 sl227 sl228 sl229 sl230 sl231 sl232 sl233 sl234 sl235 sl236 sl237 sl238 sl239 sl240 sl241 sl242 sl243 sl244 sl245 sl246 sl247 sl248 sl249 sl250 sl251 sl252 sl253 sl254 sl255 sl256 sl257 sl258 sl259 sl260 sl261 sl262 sl263 sl264 sl265 sl266 sl267 sl268 sl269 sl270 sl271 sl272 sl273 sl274 sl275 sl276 sl277 sl278 sl279 sl280 : Value) (W : World) (Q : Exit → Act → World → Prop) (hbx : Hid (W.cell? ⟨bx, 2, none⟩ = some (.slice (some ⟨g2, 0, none⟩) 4 4))) (h0 : 48 ≤ tc) (h1 : tc ≤ 50)
    (hQ : Hid (∀ (c : _) (a : Act) (d : Option Tmp) (v : Value) (w : World), Q (.panic c) (a.put d v) w → Q (.panic c) a w)) (hexit : Hid (∀ (go co gp cp : Nat) (u10 u35 u36 u37 u38 u39 u40 u41 u42 u43 u44 u45 u46 u47 u48 u49 u50 : Value) (W' : World), Hid (Two W W' 9 115 go co gp cp (List.replicate 4 (.string (st (allL 3 tc)))) (List.replicate 4 (.slice none 0 0))) → Q .normal ⟨#[sl0, sl1, .pointer (some ⟨bx, 0, none⟩), sl3, sl4, sl5, .int .u8 tc, .int .i64 3, .slice (some ⟨go, 0, none⟩) 4 co, .slice (some ⟨gp, 0, none⟩) 4 cp, u10, sl11, sl12, sl13, sl14, sl15, sl16, sl17, sl18, sl19, sl20, sl21, sl22, sl23, sl24, sl25, sl26, sl27, sl28, sl29, sl30, sl31, sl32, sl33, sl34, u35, u36, u37, u38, u39, u40, u41, u42, u43, u44, u45, u46, u47, u48, u49, u50, sl51, sl52, sl53, sl54, sl55, sl56, sl57, sl58, sl59, sl60, sl61, sl62, sl63, sl64, sl65, sl66, sl67, sl68, sl69, sl70, sl71, sl72, sl73, sl74, sl75, sl76, sl77, sl78, sl79, sl80, sl81, sl82, sl83, sl84, sl85, sl86, sl87, sl88, sl89, sl90, sl91, sl92, sl93, sl94, sl95, sl96, sl97, sl98, sl99, sl100, sl101, sl102, sl103, sl104, sl105, sl106, sl107, sl108, sl109, sl110, sl111, sl112, sl113, sl114, sl115, sl116, sl117, sl118, sl119, sl120, sl121, sl122, sl123, sl124, sl125, sl126, sl127, sl128, sl129, sl130, sl131, sl132, sl133, sl134, sl135, sl136, sl137, sl138, sl139, sl140, sl141, sl142, sl143, sl144, sl145, sl146, sl147, sl148, sl149, sl150, sl151, sl152, sl153, sl154, sl155, sl156, sl157, sl158, sl159, sl160, sl161, sl162, sl163, sl164, sl165, sl166, sl167, sl168, sl169, sl170, sl171, sl172, sl173, sl174, sl175, sl176, sl177, sl178, sl179, sl180, sl181, sl182, sl183, sl184, sl185, sl186, sl187, sl188, sl189, sl190, sl191, sl192, sl193, sl194, sl195, sl196, sl197, sl198, sl199, sl200, sl201, sl202, sl203, sl204, sl205, sl206, sl207, sl208, sl209, sl210, sl211, sl212, sl213, sl214, sl215, sl216, sl217, sl218, sl219, sl220, sl221, sl222, sl223, sl224, sl225, sl226, sl227, sl228, sl229, sl230, sl231, sl232, sl233, sl234, sl235, sl236, sl237, sl238, sl239, sl240, sl241, sl242, sl243, sl244, sl245, sl246, sl247, sl248, sl249, sl250, sl251, sl252, sl253, sl254, sl255, sl256, sl257, sl258, sl259, sl260, sl261, sl262, sl263, sl264, sl265, sl266, sl267, sl268, sl269, sl270, sl271, sl272, sl273, sl274, sl275, sl276, sl277, sl278, sl279, sl280], []⟩ W')) :
    (blkIn 0 Try.f43).wp Try.prog Q ⟨#[sl0, sl1, .pointer (some ⟨bx, 0, none⟩), sl3, sl4, sl5, .int .u8 tc, .int .i64 3, .slice none 0 0, .slice none 0 0, .int .i64 0, sl11, sl12, sl13, sl14, sl15, sl16, sl17, sl18, sl19, sl20, sl21, sl22, sl23, sl24, sl25, sl26, sl27, sl28, sl29, sl30, sl31, sl32, sl33, sl34, sl35, sl36, sl37, sl38, sl39, sl40, sl41, sl42, sl43, sl44, sl45, sl46, sl47, sl48, sl49, sl50, sl51, sl52, sl53, sl54, sl55, sl56, sl57, sl58, sl59, sl60, sl61, sl62, sl63, sl64, sl65, sl66, sl67, sl68, sl69, sl70, sl71, sl72, sl73, sl74, sl75, sl76, sl77, sl78, sl79, sl80, sl81, sl82, sl83, sl84, sl85, sl86, sl87, sl88, sl89, sl90, sl91, sl92, sl93, sl94, sl95, sl96, sl97, sl98, sl99, sl100, sl101, sl102, sl103, sl104, sl105, sl106, sl107, sl108, sl109, sl110, sl111, sl112, sl113, sl114, sl115, sl116, sl117, sl118, sl119, sl120, sl121, sl122, sl123, sl124, sl125, sl126, sl127, sl128, sl129, sl130, sl131, sl132, sl133, sl134, sl135, sl136, sl137, sl138, sl139, sl140, sl141, sl142, sl143, sl144, sl145, sl146, sl147, sl148, sl149, sl150, sl151, sl152, sl153, sl154, sl155, sl156, sl157, sl158, sl159, sl160, sl161, sl162, sl163, sl164, sl165, sl166, sl167, sl168, sl169, sl170, sl171, sl172, sl173, sl174, sl175, sl176, sl177, sl178, sl179, sl180, sl181, sl182, sl183, sl184, sl185, sl186, sl187, sl188, sl189, sl190, sl191, sl192, sl193, sl194, sl195, sl196, sl197, sl198, sl199, sl200, sl201, sl202, sl203, sl204, sl205, sl206, sl207, sl208, sl209, sl210, sl211, sl212, sl213, sl214, sl215, sl216, sl217, sl218, sl219, sl220, sl221, sl222, sl223, sl224, sl225, sl226, sl227, sl228, sl229, sl230, sl231, sl232, sl233, sl234, sl235, sl236, sl237, sl238, sl239, sl240, sl241, sl242, sl243, sl244, sl245, sl246, sl247, sl248, sl249, sl250, sl251, sl252, sl253, sl254, sl255, sl256, sl257, sl258, sl259, sl260, sl261, sl262, sl263, sl264, sl265, sl266, sl267, sl268, sl269, sl270, sl271, sl272, sl273, sl274, sl275, sl276, sl277, sl278, sl279, sl280], []⟩ W := by
  have hall : Hid (∀ w, Calls Try.prog 56 #[.int .i64 3, .int .u8 tc] w fun e w' => e = .returned (.string (st (allL 3 tc))) ∧ Below w.heap.size w w') := Lib.hid (fun w => refall_to (n := 3) rfl (by omega) h0 h1 w)
  obtain ⟨tp, htp⟩ : ∃ t, t = allL 3 tc := ⟨_, rfl⟩
  rw [← htp] at hall hexit
  replace htp := Lib.hid htp
  conv => arg 2; whnf
  go_wp2_with fail
  go_loopw [8, 9, 10] (fun v8 v9 i wr => ∃ k : Nat, i = .int .i64 (k : Nat) ∧ k ≤ 4 ∧ Hid (Two0 W wr 9 115 v8 v9 k k (List.replicate k (.string (st tp))) (List.replicate k (.slice none 0 0)))) (fun _ _ i _ => 4 - (intOf i).toNat)
  case atStart => exact ⟨0, rfl, by omega, Lib.hid (Two0.start W 9 115)⟩
  case round =>
    obtain ⟨k, rfl, hk, hT⟩ := hrel
    have hb := hT.out.hB
    have y2 := bl_cell hb hbx.out
    clear hb
    by_cases hlt : k < 4
    · have d1 : decide ((k : Int) < 4) = true := by simp; omega
      go_wp2_with (first
        | (go_at_call 56; (with_reducible refine (hall.out _).mono ?_); rintro e w1 ⟨rfl, hb1⟩; have hT1 := Lib.hid (hT.out.below hb1); have hz1 := hT1.out.hB.size; clear hb1)
        | (at_builtin; refine app_lit (w0 := W) W.heap.size rfl _ _ 52 9 (.string ⟨#[]⟩) 1 16 rfl Try.underlying52 info9 rfl (by decide) (by decide) u8 k _ rfl hT1.out.ox hT1.out.hB hz1 1 1 [.string (st tp)] rfl rfl (by simp [Value.oneCell']) (by omega) ?_; intro x2 w2 o2 b2 g2' a2; have hT2 := Lib.hid (hT1.out.growX o2 b2 g2' a2); have hz2 := b2.size; clear o2 b2 g2' a2)
        | (at_builtin; refine app_lit (w0 := W) W.heap.size rfl _ _ 112 115 (.slice none 0 0) 1 24 rfl Try.underlying112 info115 rfl (by decide) (by decide) u9 k _ rfl hT2.out.oy hT2.out.hB hz2 1 1 [.slice none 0 0] rfl rfl (by simp [Value.oneCell']) (by omega) ?_; intro y3 w3 o3 b3 g3' a3; have hT3 := Lib.hid (hT2.out.growY o3 b3 g3' a3); clear o3 b3 g3' a3))
      exact ⟨⟨k + 1, by go_num, by omega, Lib.hid (by rw [← rep_snoc, ← rep_snoc]; exact hT3.out)⟩, by simp [intOf]; omega⟩
    · have hk4 : k = 4 := by omega
      subst hk4
      have d1 : decide (((4 : Nat) : Int) < 4) = false := by decide
      obtain ⟨go, co, gp, cp, rfl, rfl, hD⟩ := hT.out.done
      replace hD := Lib.hid hD
      go_wp2_with fail
      exact hexit.out _ _ _ _ _ _ _ _ _ _ _ _ _ _ _ _ _ _ _ _ _ _ hD
end Go.Proofs.Ytdhklfbelplbcaa
