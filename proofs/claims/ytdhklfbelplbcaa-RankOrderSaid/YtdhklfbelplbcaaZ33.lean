/-
  f22 All: the sums of the four functions.
-/
import Derived.Test.YtdhklfbelplbcaaZ32
import Derived.Test.YtdhklfbelplbcaaZ13
import Derived.Test.YtdhklfbelplbcaaZ14
namespace Go.Proofs.Ytdhklfbelplbcaa
set_option linter.unusedVariables false
set_option linter.unusedSimpArgs false
open Go.RowKit

theorem grown_alloc_drew (w : World) (o : Obj) (row : Option Nat) : w.grownBy (w.alloc o).drew row := ⟨rfl, rfl, rfl, by show w.heap.size ≤ (w.alloc o).heap.size; rw [World.size_alloc]; omega, fun k hk _ => Below.heap_alloc w o k hk⟩
theorem at_weak {v v' : Value} {w : World} {o : Obj} (h : v'.ownBlock = v.ownBlock ∨ ∃ b, v'.ownBlock = some b ∧ (w.alloc o).drew.heap.size ≤ b) : v'.ownBlock = v.ownBlock ∨ ∃ b, v'.ownBlock = some b ∧ w.heap.size ≤ b := by
  rcases h with h | ⟨b, h1, h2⟩
  · exact .inl h
  · have h3 : (w.alloc o).drew.heap.size = w.heap.size + 1 := World.size_alloc w o
    exact .inr ⟨b, h1, by omega⟩
theorem grown_drew (w : World) (row : Option Nat) : w.grownBy w.drew row := ⟨rfl, rfl, rfl, Nat.le_refl _, fun _ _ _ => rfl⟩
def AllPost (w : World) (e : Ending) (w' : World) : Prop := ∃ v', e = .returned v' ∧ SlSum w' v' ∧ Below w.heap.size w w'
/-- one analysis' rows, as they are read -/
def RowAt (w3 : World) (bs : Nat → St) (ga : Nat) (j : Nat) : Prop :=
  ∃ g c, (tl bs j).length ≤ c ∧ c ≤ 9223372036854775807 ∧ (∀ w', Below w3.heap.size w3 w' → ∃ A, w'.cell? ⟨ga, j, none⟩ = some (.slice A (tl bs j).length c) ∧ (0 < (tl bs j).length → A = some ⟨g, 0, none⟩)) ∧
    ∀ k, k < (tl bs j).length → ∃ (f : ByteArray) (at_ pk px : Int) (nm : ByteArray) (pa pb : Value) (E : List Int), Ef 3 E ∧ nm.size ≤ 4 ∧ pa.oneCell' = true ∧ pb.oneCell' = true ∧ ∀ w', Below w3.heap.size w3 w' →
      (w'.cell? ⟨g, k * 8, none⟩ = some (.string f) ∧ w'.cell? ⟨g, k * 8 + 1, none⟩ = some (.int .i64 at_) ∧ w'.cell? ⟨g, k * 8 + 2, none⟩ = some (.int .i64 pk) ∧ w'.cell? ⟨g, k * 8 + 3, none⟩ = some (.int .i64 px) ∧ w'.cell? ⟨g, k * 8 + 4, none⟩ = some (.string nm) ∧ w'.cell? ⟨g, k * 8 + 5, none⟩ = some pa ∧ w'.cell? ⟨g, k * 8 + 6, none⟩ = some pb ∧ w'.cell? ⟨g, k * 8 + 7, none⟩ = some (.string (st E)))
theorem WhR.rowAt {w w3 : World} {bs : Nat → St} {go co ga ca : Nat} {own : Nat → List Int} (h : WhR w w3 bs go co ga ca own) {j : Nat} (hj : j < 4) : RowAt w3 bs ga j := by
  obtain ⟨A, c, xs, h1, h2, h3, h4, h5, h6, h7⟩ := h.rows j hj
  have hg : ∃ g, 0 < (tl bs j).length → A = some ⟨g, 0, none⟩ := by
    by_cases h0 : 0 < (tl bs j).length
    · obtain ⟨ad, e, -⟩ := h4 0 (by omega)
      exact ⟨ad.block, fun _ => by rw [e, ← h7 ad e]⟩
    · exact ⟨0, fun h => absurd h h0⟩
  obtain ⟨g, hg⟩ := hg
  refine ⟨g, c, h2, h3, fun w' hb => ⟨A, bl_cell hb h1, hg⟩, fun k hk => ?_⟩
  obtain ⟨pk, px, nm, pa, pb, E, e0, e1, e2, e3, e4, e5, e6, e7, hE, hn, ha, hb⟩ := h6 k hk
  obtain rfl := hg (by omega)
  have hat : ∀ o v, xs[k * 8 + o]? = some v → w3.cell? ⟨g, k * 8 + o, none⟩ = some v := fun o v hv => by
    have := h4.cells _ v hv
    rwa [add_plain] at this
  exact ⟨_, _, pk, px, nm, pa, pb, E, hE, hn, ha, hb, fun w' hb => ⟨bl_cell hb (hat 0 _ e0), bl_cell hb (hat 1 _ e1), bl_cell hb (hat 2 _ e2), bl_cell hb (hat 3 _ e3), bl_cell hb (hat 4 _ e4), bl_cell hb (hat 5 _ e5), bl_cell hb (hat 6 _ e6), bl_cell hb (hat 7 _ e7)⟩⟩
theorem RowAt.below {w3 w4 : World} {bs : Nat → St} {ga j : Nat} (h : RowAt w3 bs ga j) (hb : Below w3.heap.size w3 w4) : RowAt w4 bs ga j := by
  obtain ⟨g, c, h1, h2, h3, h4⟩ := h
  refine ⟨g, c, h1, h2, fun w' hb' => h3 w' (bl_then hb hb.size hb'), fun k hk => ?_⟩
  obtain ⟨f, at_, pk, px, nm, pa, pb, E, q1, q2, q3, q4, q5⟩ := h4 k hk
  exact ⟨f, at_, pk, px, nm, pa, pb, E, q1, q2, q3, q4, fun w' hb' => q5 w' (bl_then hb hb.size hb')⟩
set_option maxHeartbeats 64000000 in
set_option maxRecDepth 100000 in
theorem all_any (v : Value) (bs : Nat → St) (w : World) (hp : PrOk w.cell? v bs) (hok : ∀ j, j < 4 → StOk (bs j)) (hcnt : ∀ j, j < 4 → (bs j).cnt ≤ 200) :
    Calls Try.prog 22 #[v] w (AllPost w) := by
  have hp' := Lib.hid hp
  obtain ⟨A0, n0, c0, g1, g2, rfl, -, -⟩ := hp
  have hok' := Lib.hid hok
  have hcnt' := Lib.hid hcnt
  have htl : Hid (∀ j, j < 4 → (tl bs j).length ≤ 800) := Lib.hid (fun j hj => tl_len bs hok hcnt hj)
  clear hok hcnt
  have hwh : Hid (∀ (most : Bool) w', Below w.heap.size w w' → Calls Try.prog 43 #[.agg #[.slice A0 n0 c0, .slice (some ⟨g1, 0, none⟩) 3 3, .slice (some ⟨g2, 0, none⟩) 4 4], .bool most] w' (WhPost w' bs)) := Lib.hid (fun most w' hb => refwhole_any _ bs most w' (hp'.out.mono (cell_le hb)) hok'.out hcnt'.out)
  have hb1 : Hid (Below w.heap.size w (w.alloc (.cells #[.slice A0 n0 c0, .slice (some ⟨g1, 0, none⟩) 3 3, .slice (some ⟨g2, 0, none⟩) 4 4] 40))) := Lib.hid (bl_alloc (Below.refl _ _) _)
  have hbx : Hid ((w.alloc (.cells #[.slice A0 n0 c0, .slice (some ⟨g1, 0, none⟩) 3 3, .slice (some ⟨g2, 0, none⟩) 4 4] 40)).heap[w.heap.size]? = some (.cells #[.slice A0 n0 c0, .slice (some ⟨g1, 0, none⟩) 3 3, .slice (some ⟨g2, 0, none⟩) 4 4] 40 (0, 0))) := Lib.hid (heap_alloc_new w _)
  obtain ⟨w1, hw1⟩ : ∃ Z, Z = w.alloc (.cells #[.slice A0 n0 c0, .slice (some ⟨g1, 0, none⟩) 3 3, .slice (some ⟨g2, 0, none⟩) 4 4] 40) := ⟨_, rfl⟩
  rw [← hw1] at hb1 hbx
  have hrow : Hid (∀ w' : World, w'.heap[w.heap.size]? = some (.cells #[.slice A0 n0 c0, .slice (some ⟨g1, 0, none⟩) 3 3, .slice (some ⟨g2, 0, none⟩) 4 4] 40 (0, 0)) → w'.cell? ⟨w.heap.size, 0, none⟩ = some (.slice A0 n0 c0) ∧ w'.cell? ⟨w.heap.size, 1, none⟩ = some (.slice (some ⟨g1, 0, none⟩) 3 3) ∧ w'.cell? ⟨w.heap.size, 2, none⟩ = some (.slice (some ⟨g2, 0, none⟩) 4 4)) := Lib.hid (fun w' h => by
    refine ⟨?_, ?_, ?_⟩ <;> (rw [cell_of_row _ _ _ _ 40 (0, 0) h]; rfl))
  obtain ⟨x0, x1, x2⟩ := hrow.out _ hbx.out
  go_enter Try.func22, Try.ntmps22
  go_upto_region 1 with fail
  rw [← hw1]
  replace hw1 := Lib.hid hw1
  go_upto_block 0 with (first | (go_at_call_has 43 (Value.bool false); (with_reducible refine (hwh.out false _ hb1.out).mono ?_); rintro e w2 ⟨go, co, ga, ca, own, rfl, hco, hco2, hca, hca2, hR⟩; have hb2 := Lib.hid (bl_then hb1.out hb1.out.size hR.out.hB); have hbx2 := Lib.hid (bl_row hR.out.hB hbx.out); clear x0 x1 x2; obtain ⟨x0, x1, x2⟩ := hrow.out _ hbx2.out) | (go_at_call_has 43 (Value.bool true); (with_reducible refine (hwh.out true _ hb2.out).mono ?_); rintro e w3 ⟨go2, co2, ga2, ca2, own2, rfl, hdo, hdo2, hda, hda2, hR2⟩))
  have hb3 := Lib.hid (bl_then hb2.out hb2.out.size hR2.out.hB)
  have hbx3 := Lib.hid (bl_row hR2.out.hB hbx2.out)
  have hown : Hid (∀ j, j < 4 → ∀ w', Below w3.heap.size w3 w' → (w'.cell? ⟨go, j, none⟩ = some (.string (st (own j))) ∧ w'.cell? ⟨go2, j, none⟩ = some (.string (st (own2 j))))) := Lib.hid (fun j hj w' hb => by
    have q1 := (hR.out.ow.below hR2.out.hB).cells _ _ (ownV_at own j hj)
    have q2 := hR2.out.ow.cells _ _ (ownV_at own2 j hj)
    rw [add_plain] at q1 q2
    exact ⟨bl_cell hb q1, bl_cell hb q2⟩)
  have hrA : Hid (∀ j, j < 4 → RowAt w3 bs ga j) := Lib.hid (fun j hj => (hR.out.rowAt hj).below hR2.out.hB)
  have hrT : Hid (∀ j, j < 4 → RowAt w3 bs ga2 j) := Lib.hid (fun j hj => hR2.out.rowAt hj)
  clear hR hR2 x0 x1 x2 hb1 hb2 hwh hp' hok' hcnt' hbx hbx2 hw1
  go_wp2_with fail
  go_loopw [7, 8] (fun v7 v8 wr => ∃ (i : Nat) (zs : List (List Value)), v8 = .int .i64 (i : Nat) ∧ i ≤ 4 ∧ Hid (zs.length = i) ∧ Hid (AlS w3 wr v7 zs)) (fun _ v _ => 4 - (intOf v).toNat)
  case atStart => exact ⟨0, [], rfl, by omega, Lib.hid rfl, Lib.hid (AlS.start w3)⟩
  case round =>
    obtain ⟨wi, rfl⟩ : ∃ x, x = wr := ⟨_, rfl⟩
    obtain ⟨i, zs, rfl, hi, hzl, hA⟩ := hrel
    have hbi := Lib.hid (bl_row hA.out.hB hbx3.out)
    obtain ⟨x0, x1, x2⟩ := hrow.out _ hbi.out
    by_cases hlt : i < 4
    · have d1 : decide ((i : Int) < 4) = true := by simp; omega
      have i1 : (0 : Int) ≤ (i : Int) := by omega
      have i2 : (i : Int) < 4 := by omega
      have i3 : (i : Int) < (co : Int) := by omega
      have hSk : Hid (∀ w', Below wi.heap.size wi w' → (w'.cell? ⟨go, i, none⟩ = some (.string (st (own i))) ∧ w'.cell? ⟨go2, i, none⟩ = some (.string (st (own2 i))))) := Lib.hid (fun w' hb => hown.out i hlt w' (bl_then hA.out.hB hA.out.hB.size hb))
      obtain ⟨q1, c1, hn1, hm1, hf1, he1⟩ := hrA.out i hlt
      obtain ⟨q2, c2, hn2, hm2, hf2, he2⟩ := hrT.out i hlt
      have hnl := htl.out i hlt
      generalize (tl bs i).length = n at *
      replace hf1 := Lib.hid hf1
      replace he1 := Lib.hid he1
      replace hf2 := Lib.hid hf2
      replace he2 := Lib.hid he2
      go_upto_region 7 with fail
      clear x0 x1 x2
      refine wp_region_heldR (S := fun w' => Below wi.heap.size wi w') opsA7 _ (by kernel_rfl) liA7 (by kernel_rfl) nsA7 ((Below.refl wi.heap.size wi).drew) (fun hops hns hHeld => ?_)
      refine wpAnyH_takeR (i := 0) (v := ?vA7_1) hops hns rdA7_0 (by rfl) frA7_0 rfl (fun _ _ _ h => h) stA7_0 (Or.inl ⟨by kernel_rfl, ?hyA7_1⟩) (by assumption) ?restA7_1
      case hyA7_1 => (intro w hSw; obtain ⟨y0, y1⟩ := hSk.out _ hSw; clear hSw; go_simp; (try with_reducible rfl))
      try simp only [Act.put, sA, sB, sC]
      refine wpAnyH_takeR (i := 1) (v := ?vA7_2) hops hns rdA7_1 (by rfl) frA7_1 rfl (fun _ _ _ h => h) stA7_1 (Or.inl ⟨by kernel_rfl, ?hyA7_2⟩) (by assumption) ?restA7_2
      case hyA7_2 => (intro w hSw; obtain ⟨y0, y1⟩ := hSk.out _ hSw; clear hSw; go_simp; (try with_reducible rfl))
      try simp only [Act.put, sA, sB, sC]
      refine wpAnyH_takeR (i := 2) (v := ?vA7_3) hops hns rdA7_2 (by rfl) frA7_2 rfl (fun _ _ _ h => h) stA7_2 (Or.inl ⟨by kernel_rfl, ?hyA7_3⟩) (by assumption) ?restA7_3
      case hyA7_3 => (intro w hSw; obtain ⟨y0, y1⟩ := hSk.out _ hSw; clear hSw; go_simp; (try with_reducible rfl))
      try simp only [Act.put, sA, sB, sC]
      refine wpAnyH_takeR (i := 3) (v := ?vA7_4) hops hns rdA7_3 (by rfl) frA7_3 rfl (fun _ _ _ h => h) stA7_3 (Or.inl ⟨by kernel_rfl, ?hyA7_4⟩) (by assumption) ?restA7_4
      case hyA7_4 => (intro w hSw; obtain ⟨y0, y1⟩ := hSk.out _ hSw; clear hSw; go_simp; (try with_reducible rfl))
      try simp only [Act.put, sA, sB, sC]
      refine wpAnyH_takeR (i := 4) (v := ?vA7_5) hops hns rdA7_4 (by rfl) frA7_4 rfl (fun _ _ _ h => h) stA7_4 (Or.inl ⟨by kernel_rfl, ?hyA7_5⟩) (by assumption) ?restA7_5
      case hyA7_5 => (intro w hSw; obtain ⟨y0, y1⟩ := hSk.out _ hSw; clear hSw; go_simp; (try with_reducible rfl))
      try simp only [Act.put, sA, sB, sC]
      refine wpAnyH_takeR (i := 5) (v := ?vA7_6) hops hns rdA7_5 (by rfl) frA7_5 rfl (fun _ _ _ h => h) stA7_5 (Or.inl ⟨by kernel_rfl, ?hyA7_6⟩) (by assumption) ?restA7_6
      case hyA7_6 => (intro w hSw; obtain ⟨y0, y1⟩ := hSk.out _ hSw; clear hSw; go_simp; (try with_reducible rfl))
      try simp only [Act.put, sA, sB, sC]
      refine wpAnyH_takeR (i := 6) (v := ?vA7_7) hops hns rdA7_6 (by rfl) frA7_6 rfl (fun _ _ _ h => h) stA7_6 (Or.inl ⟨by kernel_rfl, ?hyA7_7⟩) (by assumption) ?restA7_7
      case hyA7_7 => (intro w hSw; obtain ⟨y0, y1⟩ := hSk.out _ hSw; clear hSw; go_simp; (try with_reducible rfl))
      try simp only [Act.put, sA, sB, sC]
      refine wpAnyH_takeR (i := 7) (v := ?vA7_8) hops hns rdA7_7 (by rfl) frA7_7 rfl (fun _ _ _ h => h) stA7_7 (Or.inl ⟨by kernel_rfl, ?hyA7_8⟩) (by assumption) ?restA7_8
      case hyA7_8 => (intro w hSw; obtain ⟨y0, y1⟩ := hSk.out _ hSw; clear hSw; go_simp; (try with_reducible rfl))
      try simp only [Act.put, sA, sB, sC]
      refine wpAnyH_takeR (i := 8) (v := ?vA7_9) hops hns rdA7_8 (by rfl) frA7_8 rfl (fun _ _ _ h => h) stA7_8 (Or.inl ⟨by kernel_rfl, ?hyA7_9⟩) (by assumption) ?restA7_9
      case hyA7_9 => (intro w hSw; obtain ⟨y0, y1⟩ := hSk.out _ hSw; clear hSw; go_simp; (try with_reducible rfl))
      try simp only [Act.put, sA, sB, sC]
      refine wpAnyH_readyR (rs := [9]) hops rdA7_9 (by simp) (AllReadyH.consR rfl stA7_9 (fun K hK => ?_) AllReadyH.nil)
      go_simp
      refine hK.out _ _ (by first | assumption | exact (bl_alloc (Below.refl _ _) _).drew | exact bl_alloc (Below.refl _ _).drew _) (fun hHeld => ?_)
      clear hK K
      try simp only [Act.put, sA, sB, sC]
      refine wpAnyH_readyR (rs := [10]) hops rdA7_10 (by simp) (AllReadyH.consR rfl stA7_10 (fun K hK => ?_) AllReadyH.nil)
      go_simp
      refine hK.out _ _ (by first | assumption | exact (bl_alloc (Below.refl _ _) _).drew | exact bl_alloc (Below.refl _ _).drew _) (fun hHeld => ?_)
      clear hK K
      try simp only [Act.put, sA, sB, sC]
      refine wpAnyH_doneR hops rdA7_11 ?_
      clear hSk
      have hS0 : Hid (SmS wi (wi.alloc (.cells #[.string (st (own i)), .string (st (own2 i)), .slice none 0 0, .slice none 0 0, .slice none 0 0] 78)).drew (st (own i)) (st (own2 i)) (.slice none 0 0) (.slice none 0 0) (.slice none 0 0) 0 0 [] [] []) := Lib.hid
        ⟨(bl_alloc (Below.refl _ _) _).drew, heap_alloc_new wi _, own_nil _ _ _ _, AcOk.nil, own_nil _ _ _ _, AqOk.nil, (fun b hb => by cases hb), SlN.nil _, (fun b hb => by cases hb)⟩
      generalize (wi.alloc (.cells #[.string (st (own i)), .string (st (own2 i)), .slice none 0 0, .slice none 0 0, .slice none 0 0] 78)).drew = wa at hS0 ⊢
      generalize st (own i) = mS at *
      generalize st (own2 i) = yS at *
      go_wp2_with fail
      go_loopw [10] (fun v10 wr => ∃ (j : Nat) (va vq vs : Value) (na nq : Nat) (ls : List ByteArray) (xa xq : List Value), v10 = .int .i64 (j : Nat) ∧ j ≤ n ∧ na ≤ j ∧ nq ≤ j ∧ ls.length ≤ j ∧ Hid (SmS wi wr mS yS va vq vs na nq ls xa xq)) (fun v _ => n - (intOf v).toNat)
      case atStart => exact ⟨0, _, _, _, 0, 0, [], [], [], rfl, Nat.zero_le _, Nat.le_refl _, Nat.le_refl _, Nat.le_refl _, hS0⟩
      case round =>
        obtain ⟨j, va, vq, vs, na, nq, ls, xa, xq, rfl, hj, hna, hnq, hls, hS⟩ := hrel
        have hB3 := Lib.hid (bl_then hA.out.hB hA.out.hB.size hS.out.hB)
        obtain ⟨P1, c1a, c1b⟩ := hf1.out wr hB3.out
        by_cases hjn : j < n
        · have d2 : decide ((j : Int) < (n : Int)) = true := by simp; omega
          have j1 : (0 : Int) ≤ (j : Int) := by omega
          have j2 : (j : Int) < (n : Int) := by omega
          obtain rfl := c1b (by omega)
          obtain ⟨f, at_, pk, px, nm, pa, pb, E, hE, hnm, hpa, hpb, hce⟩ := he1.out j hjn
          obtain ⟨y0, y1, y2, y3, y4, y5, y6, y7⟩ := hce wr hB3.out
          replace hce := Lib.hid hce
          replace hE := Lib.hid hE
          have hst1 : ∀ (W : World) (a : Addr), (store a pa .plain).run Try.prog W = stored Try.prog W a pa .plain := fun W a => run_store _ W a pa _ hpa
          have hst2 : ∀ (W : World) (a : Addr), (store a pb .plain).run Try.prog W = stored Try.prog W a pb .plain := fun W a => run_store _ W a pb _ hpb
          go_upto_block 4 with fail
          have hSb0 : Hid (SmS wi (wr.alloc (.cells #[.string f, .int .i64 at_, .int .i64 pk, .int .i64 px, .string nm, pa, pb, .string (st E)] 102)) mS yS va vq vs na nq ls xa xq) := Lib.hid (hS.out.below (bl_alloc (Below.refl _ _) _))
          have hbox0 : Hid ((wr.alloc (.cells #[.string f, .int .i64 at_, .int .i64 pk, .int .i64 px, .string nm, pa, pb, .string (st E)] 102)).heap[wr.heap.size]? = some (.cells #[.string f, .int .i64 at_, .int .i64 pk, .int .i64 px, .string nm, pa, pb, .string (st E)] 102 (0, 0))) := Lib.hid (heap_alloc_new wr _)
          have hB3b0 : Hid (Below w3.heap.size w3 (wr.alloc (.cells #[.string f, .int .i64 at_, .int .i64 pk, .int .i64 px, .string nm, pa, pb, .string (st E)] 102))) := Lib.hid (bl_then hB3.out hB3.out.size (bl_alloc (Below.refl _ _) _))
          obtain ⟨tb, htb⟩ : ∃ t, t = wr.heap.size := ⟨_, rfl⟩
          rw [← htb] at hbox0 ⊢
          obtain ⟨Wb, hWb⟩ : ∃ W, W = wr.alloc (.cells #[.string f, .int .i64 at_, .int .i64 pk, .int .i64 px, .string nm, pa, pb, .string (st E)] 102) := ⟨_, rfl⟩
          rw [← hWb] at hSb0 hbox0 hB3b0 ⊢
          have hSb := hSb0
          have hB3b := hB3b0
          have hbox : Hid (∀ W', W' = Wb → (W'.cell? ⟨tb, 0, none⟩ = some (.string f) ∧ W'.cell? ⟨tb, 1, none⟩ = some (.int .i64 at_) ∧ W'.cell? ⟨tb, 2, none⟩ = some (.int .i64 pk) ∧ W'.cell? ⟨tb, 3, none⟩ = some (.int .i64 px) ∧ W'.cell? ⟨tb, 4, none⟩ = some (.string nm) ∧ W'.cell? ⟨tb, 5, none⟩ = some pa ∧ W'.cell? ⟨tb, 6, none⟩ = some pb ∧ W'.cell? ⟨tb, 7, none⟩ = some (.string (st E)))) := Lib.hid (fun W' e => by
            subst e
            refine ⟨?_, ?_, ?_, ?_, ?_, ?_, ?_, ?_⟩ <;> (rw [cell_of_row _ _ _ _ 102 (0, 0) hbox0.out]; rfl))
          have hgc : Hid (∀ W' : World, W'.heap[wi.heap.size]? = some (.cells ([.string mS, .string yS, va, vq, vs] : List Value).toArray 78 (0, 0)) → (W'.cell? ⟨wi.heap.size, 0, none⟩ = some (.string mS) ∧ W'.cell? ⟨wi.heap.size, 1, none⟩ = some (.string yS) ∧ W'.cell? ⟨wi.heap.size, 2, none⟩ = some va ∧ W'.cell? ⟨wi.heap.size, 3, none⟩ = some vq ∧ W'.cell? ⟨wi.heap.size, 4, none⟩ = some vs)) := Lib.hid (fun W' h => by
            refine ⟨?_, ?_, ?_, ?_, ?_⟩ <;> (rw [cell_of_row _ _ _ _ 78 (0, 0) h]; rfl))
          have hvt : Hid (vq.ownBlock ≠ some tb) := Lib.hid (fun e => by have := (hS.out.oq.lt _ e).2; omega)
          replace htb := Lib.hid htb
          replace hWb := Lib.hid hWb
          clear hSb0 hbox0 hB3b0 y0 y1 y2 y3 y4 y5 y6 y7 hst1 hst2 c1a c1b hS hB3
          by_cases e1 : pk = 1
          · subst e1
            obtain ⟨z0, z1, z2, z3, z4, z5, z6, z7⟩ := hbox.out _ rfl
            obtain ⟨g0, g1', g2', g3', g4'⟩ := hgc.out _ hSb.out.bx
            go_wp2_with (at_builtin; refine app_lit (w0 := Wb) (wi.heap.size + 1) rfl _ _ 75 83 (.agg #[.string ⟨#[]⟩, .int .i64 0, .string ⟨#[]⟩, .bool false, .string ⟨#[]⟩]) 5 64 rfl Try.underlying75 info83 rfl (by decide) (by decide) va na xa rfl hSb.out.oa (Below.refl _ _) hSb.out.gs 1 1 [.string f, .int .i64 at_, .string nm, .bool false, .string (st E)] rfl rfl (by simp [Value.oneCell']) (by omega) ?_; intro v9 w9 o9 b9 g9 a9; obtain ⟨b9', c9, rfl, -, -⟩ := own_some o9 (by omega); have hx9 : w9.heap[wi.heap.size]? = _ := (g9.block _ hSb.out.gs (fun e => by have := (hSb.out.oa.lt _ e.symm).1; omega)).trans hSb.out.bx; have u1 : w9.cell? ⟨wi.heap.size, 2, none⟩ = some va := (by rw [cell_of_row _ _ 2 _ 78 (0, 0) hx9]; rfl); have u2 : w9.frozen? ⟨wi.heap.size, 2, none⟩ = false := (by simp [World.frozen?, hx9]); clear hx9; replace o9 := Lib.hid o9; replace b9 := Lib.hid b9; replace g9 := Lib.hid g9; replace a9 := Lib.hid a9)
            exact ⟨⟨j + 1, _, vq, vs, na + 1, nq, ls, _, xq, by go_num, by omega, by omega, by omega, by omega, Lib.hid (hSb.out.growA o9.out (hSb.out.ka.snoc hSb.out.oa.1 hE.out hnm) g9.out a9.out)⟩, by simp [intOf]; omega⟩
          · have e1' : (pk == 1) = false := by simpa using e1
            by_cases e2 : pk = 2
            · subst e2
              obtain ⟨z0, z1, z2, z3, z4, z5, z6, z7⟩ := hbox.out _ rfl
              obtain ⟨g0, g1', g2', g3', g4'⟩ := hgc.out _ hSb.out.bx
              go_wp2_with (at_builtin; refine app_lit (w0 := Wb) (wi.heap.size + 1) rfl _ _ 75 83 (.agg #[.string ⟨#[]⟩, .int .i64 0, .string ⟨#[]⟩, .bool false, .string ⟨#[]⟩]) 5 64 rfl Try.underlying75 info83 rfl (by decide) (by decide) va na xa rfl hSb.out.oa (Below.refl _ _) hSb.out.gs 1 1 [.string f, .int .i64 at_, .string nm, .bool true, .string (st E)] rfl rfl (by simp [Value.oneCell']) (by omega) ?_; intro v9 w9 o9 b9 g9 a9; obtain ⟨b9', c9, rfl, -, -⟩ := own_some o9 (by omega); have hx9 : w9.heap[wi.heap.size]? = _ := (g9.block _ hSb.out.gs (fun e => by have := (hSb.out.oa.lt _ e.symm).1; omega)).trans hSb.out.bx; have u1 : w9.cell? ⟨wi.heap.size, 2, none⟩ = some va := (by rw [cell_of_row _ _ 2 _ 78 (0, 0) hx9]; rfl); have u2 : w9.frozen? ⟨wi.heap.size, 2, none⟩ = false := (by simp [World.frozen?, hx9]); clear hx9; replace o9 := Lib.hid o9; replace b9 := Lib.hid b9; replace g9 := Lib.hid g9; replace a9 := Lib.hid a9)
              exact ⟨⟨j + 1, _, vq, vs, na + 1, nq, ls, _, xq, by go_num, by omega, by omega, by omega, by omega, Lib.hid (hSb.out.growA o9.out (hSb.out.ka.snoc hSb.out.oa.1 hE.out hnm) g9.out a9.out)⟩, by simp [intOf]; omega⟩
            · have e2' : (pk == 2) = false := by simpa using e2
              by_cases e3 : pk = 3
              · subst e3
                obtain ⟨P2, c2a, c2b⟩ := hf2.out Wb hB3b.out
                obtain rfl := c2b (by omega)
                obtain ⟨f2, at2, pk2, px2, nm2, pa2, pb2, E2, hE2, -, -, -, hce2⟩ := he2.out j hjn
                have hl2 : Hid (∀ w', Below w3.heap.size w3 w' → w'.cell? ⟨q2, j * 8 + 7, none⟩ = some (.string (st E2))) := Lib.hid (fun w' hb => (hce2 w' hb).2.2.2.2.2.2.2)
                replace hE2 := Lib.hid hE2
                obtain ⟨z0, z1, z2, z3, z4, z5, z6, z7⟩ := hbox.out _ rfl
                obtain ⟨g0, g1', g2', g3', g4'⟩ := hgc.out _ hSb.out.bx
                have hSq : Hid (∀ w' : World, Wb.grownBy w' vq.ownBlock → (w'.cell? ⟨wi.heap.size, 3, none⟩ = some vq ∧ w'.cell? ⟨tb, 0, none⟩ = some (.string f) ∧ w'.cell? ⟨tb, 1, none⟩ = some (.int .i64 at_) ∧ w'.cell? ⟨tb, 4, none⟩ = some (.string nm) ∧ w'.cell? ⟨ga2, i, none⟩ = some (.slice (some ⟨q2, 0, none⟩) n c2) ∧ w'.cell? ⟨q2, j * 8 + 7, none⟩ = some (.string (st E2)))) := Lib.hid (fun w' hg => by
                  have hsz := hA.out.hB.size
                  have hb := hB3b.out.grown hg hB3b.out.size (fun k hk => by have := (hSb.out.oq.lt k hk).1; omega)
                  have htq : vq.ownBlock ≠ some tb := hvt.out
                  have hk : ∀ (p : Addr) u, vq.ownBlock ≠ some p.block → Wb.cell? p = some u → w'.cell? p = some u := fun p u hne h => by
                    rw [cell_block (hg.block p.block (World.block_lt_of_cell? Wb p h) (fun e => hne e.symm))]; exact h
                  have hgq : vq.ownBlock ≠ some wi.heap.size := fun e => by have := (hSb.out.oq.lt _ e).1; omega
                  refine ⟨hk _ _ hgq g3', hk _ _ htq z0, hk _ _ htq z1, hk _ _ htq z4, ?_, hl2.out w' hb⟩
                  obtain ⟨A', r1, r2⟩ := hf2.out w' hb
                  rw [r1, r2 (by omega)])
                clear hce2 c2a c2b z0 z1 z2 z3 z4 z5 z6 z7 g0 g1' g2' g3' g4'
                go_upto_region 17 with fail
                refine wp_region_FR (S := fun w' => Wb.grownBy w' vq.ownBlock) opsA17 _ 19 (by kernel_rfl) liA17 (by kernel_rfl) nsA17 (grown_drew _ _) (fun hops hns hHeld => ?_)
                refine wpAnyF_takeR (i := 0) (v := ?vA17_1) hops hns rdA17_0 (by rfl) frA17_0 laA17_0 rfl (fun _ _ _ h => h) stA17_0 (Or.inl ⟨by kernel_rfl, ?hyA17_1⟩) (by assumption) ?restA17_1
                case hyA17_1 => (intro w hSw; obtain ⟨k0, k1, k2, k3, k4, k5⟩ := hSq.out _ hSw; clear hSw; go_simp; (try with_reducible rfl))
                try simp only [Act.put, sA, sB, sC]
                refine wpAnyF_takeR (i := 1) (v := ?vA17_2) hops hns rdA17_1 (by rfl) frA17_1 laA17_1 rfl (fun _ _ _ h => h) stA17_1 (Or.inl ⟨by kernel_rfl, ?hyA17_2⟩) (by assumption) ?restA17_2
                case hyA17_2 => (intro w hSw; obtain ⟨k0, k1, k2, k3, k4, k5⟩ := hSq.out _ hSw; clear hSw; go_simp; (try with_reducible rfl))
                try simp only [Act.put, sA, sB, sC]
                refine wpAnyF_takeR (i := 2) (v := ?vA17_3) hops hns rdA17_2 (by rfl) frA17_2 laA17_2 rfl (fun _ _ _ h => h) stA17_2 (Or.inl ⟨by kernel_rfl, ?hyA17_3⟩) (by assumption) ?restA17_3
                case hyA17_3 => (intro w hSw; obtain ⟨k0, k1, k2, k3, k4, k5⟩ := hSq.out _ hSw; clear hSw; go_simp; (try with_reducible rfl))
                try simp only [Act.put, sA, sB, sC]
                refine wpAnyF_takeR (i := 3) (v := ?vA17_4) hops hns rdA17_3 (by rfl) frA17_3 laA17_3 rfl (fun _ _ _ h => h) stA17_3 (Or.inl ⟨by kernel_rfl, ?hyA17_4⟩) (by assumption) ?restA17_4
                case hyA17_4 => (intro w hSw; obtain ⟨k0, k1, k2, k3, k4, k5⟩ := hSq.out _ hSw; clear hSw; go_simp; (try with_reducible rfl))
                try simp only [Act.put, sA, sB, sC]
                refine wpAnyF_takeR (i := 4) (v := ?vA17_5) hops hns rdA17_4 (by rfl) frA17_4 laA17_4 rfl (fun _ _ _ h => h) stA17_4 (Or.inl ⟨by kernel_rfl, ?hyA17_5⟩) (by assumption) ?restA17_5
                case hyA17_5 => (intro w hSw; obtain ⟨k0, k1, k2, k3, k4, k5⟩ := hSq.out _ hSw; clear hSw; go_simp; (try with_reducible rfl))
                try simp only [Act.put, sA, sB, sC]
                refine wpAnyF_takeR (i := 5) (v := ?vA17_6) hops hns rdA17_5 (by rfl) frA17_5 laA17_5 rfl (fun _ _ _ h => h) stA17_5 (Or.inl ⟨by kernel_rfl, ?hyA17_6⟩) (by assumption) ?restA17_6
                case hyA17_6 => (intro w hSw; obtain ⟨k0, k1, k2, k3, k4, k5⟩ := hSq.out _ hSw; clear hSw; go_simp; (try with_reducible rfl))
                try simp only [Act.put, sA, sB, sC]
                refine wpAnyF_takeR (i := 6) (v := ?vA17_7) hops hns rdA17_6 (by rfl) frA17_6 laA17_6 rfl (fun _ _ _ h => h) stA17_6 (Or.inl ⟨by kernel_rfl, ?hyA17_7⟩) (by assumption) ?restA17_7
                case hyA17_7 => (intro w hSw; obtain ⟨k0, k1, k2, k3, k4, k5⟩ := hSq.out _ hSw; clear hSw; go_simp; (try with_reducible rfl))
                try simp only [Act.put, sA, sB, sC]
                refine wpAnyF_takeR (i := 7) (v := ?vA17_8) hops hns rdA17_7 (by rfl) frA17_7 laA17_7 rfl (fun _ _ _ h => h) stA17_7 (Or.inl ⟨by kernel_rfl, ?hyA17_8⟩) (by assumption) ?restA17_8
                case hyA17_8 => (intro w hSw; obtain ⟨k0, k1, k2, k3, k4, k5⟩ := hSq.out _ hSw; clear hSw; go_simp; (try with_reducible rfl))
                try simp only [Act.put, sA, sB, sC]
                refine wpAnyF_takeR (i := 8) (v := ?vA17_9) hops hns rdA17_8 (by rfl) frA17_8 laA17_8 rfl (fun _ _ _ h => h) stA17_8 (Or.inl ⟨by kernel_rfl, ?hyA17_9⟩) (by assumption) ?restA17_9
                case hyA17_9 => (intro w hSw; obtain ⟨k0, k1, k2, k3, k4, k5⟩ := hSq.out _ hSw; clear hSw; go_simp; (try with_reducible rfl))
                try simp only [Act.put, sA, sB, sC]
                refine wpAnyF_takeR (i := 9) (v := ?vA17_10) hops hns rdA17_9 (by rfl) frA17_9 laA17_9 rfl (fun _ _ _ h => h) stA17_9 (Or.inl ⟨by kernel_rfl, ?hyA17_10⟩) (by assumption) ?restA17_10
                case hyA17_10 => (intro w hSw; obtain ⟨k0, k1, k2, k3, k4, k5⟩ := hSq.out _ hSw; clear hSw; go_simp; (try with_reducible rfl))
                try simp only [Act.put, sA, sB, sC]
                refine wpAnyF_takeR (i := 10) (v := ?vA17_11) hops hns rdA17_10 (by rfl) frA17_10 laA17_10 rfl (fun _ _ _ h => h) stA17_10 (Or.inl ⟨by kernel_rfl, ?hyA17_11⟩) (by assumption) ?restA17_11
                case hyA17_11 => (intro w hSw; obtain ⟨k0, k1, k2, k3, k4, k5⟩ := hSq.out _ hSw; clear hSw; go_simp; (try with_reducible rfl))
                try simp only [Act.put, sA, sB, sC]
                refine wpAnyF_oneR (i := 11) (v := ?vA17_12) hops rdA17_11 rfl stA17_11 (Or.inl ⟨by kernel_rfl, ?hyA17_12⟩) (by assumption) ?restA17_12
                case hyA17_12 => (intro w hSw; obtain ⟨k0, k1, k2, k3, k4, k5⟩ := hSq.out _ hSw; clear hSw; go_simp; (try with_reducible rfl))
                try simp only [Act.put, sA, sB, sC]
                refine wpAnyF_oneR (i := 12) (v := ?vA17_13) hops rdA17_12 rfl stA17_12 (Or.inl ⟨by kernel_rfl, ?hyA17_13⟩) (by assumption) ?restA17_13
                case hyA17_13 => (intro w hSw; obtain ⟨k0, k1, k2, k3, k4, k5⟩ := hSq.out _ hSw; clear hSw; go_simp; (try with_reducible rfl))
                try simp only [Act.put, sA, sB, sC]
                refine wpAnyF_oneR (i := 13) (v := ?vA17_14) hops rdA17_13 rfl stA17_13 (Or.inl ⟨by kernel_rfl, ?hyA17_14⟩) (by assumption) ?restA17_14
                case hyA17_14 => (intro w hSw; obtain ⟨k0, k1, k2, k3, k4, k5⟩ := hSq.out _ hSw; clear hSw; go_simp; (try with_reducible rfl))
                try simp only [Act.put, sA, sB, sC]
                refine wpAnyF_oneR (i := 14) (v := ?vA17_15) hops rdA17_14 rfl stA17_14 (Or.inl ⟨by kernel_rfl, ?hyA17_15⟩) (by assumption) ?restA17_15
                case hyA17_15 => (intro w hSw; obtain ⟨k0, k1, k2, k3, k4, k5⟩ := hSq.out _ hSw; clear hSw; go_simp; (try with_reducible rfl))
                try simp only [Act.put, sA, sB, sC]
                refine wpAnyF_oneR (i := 15) (v := ?vA17_16) hops rdA17_15 rfl stA17_15 (Or.inl ⟨by kernel_rfl, ?hyA17_16⟩) (by assumption) ?restA17_16
                case hyA17_16 => (intro w hSw; obtain ⟨k0, k1, k2, k3, k4, k5⟩ := hSq.out _ hSw; clear hSw; go_simp; (try with_reducible rfl))
                try simp only [Act.put, sA, sB, sC]
                refine wpAnyF_stepR (i := 16) hops rdA17_16 rfl stA17_16 (by rfl) (fun K hK => ?_)
                go_simp
                refine hK.out _ _ (by exact grown_alloc_drew _ _ _) (fun hHeld => ?_)
                clear hK K
                try simp only [Act.put, sA, sB, sC]
                refine wpAnyF_stepR (i := 17) hops rdA17_17 rfl stA17_17 (by rfl) (fun K hK => ?_)
                refine step_app (wi.heap.size + 1) rfl _ _ 76 91 (.agg #[.string ⟨#[]⟩, .int .i64 0, .string ⟨#[]⟩, .string ⟨#[]⟩]) 4 56 rfl Try.underlying76 info91 rfl (by decide) (by decide) vq nq xq rfl (own_below hSb.out.oq (bl_alloc (Below.refl _ _) _).drew) (by have := hSb.out.gs; show _ ≤ (Wb.alloc _).heap.size; rw [World.size_alloc]; omega) (some ⟨Wb.heap.size, 0, none⟩) 1 1 [.string f, .int .i64 at_, .string nm, .string (st E2)] rfl rfl (rd_new Wb [.string f, .int .i64 at_, .string nm, .string (st E2)] 91) (fun e => by cases e) (by simp [Value.oneCell']) (by omega) ?_
                intro v9 w9 o9 b9 g9 a9
                have hgw : Wb.grownBy w9 vq.ownBlock := grown_then (grown_alloc_drew Wb _ vq.ownBlock) (.inl rfl) g9
                obtain ⟨b9', c9, rfl, -, -⟩ := own_some o9 (by omega)
                have hx9 : w9.heap[wi.heap.size]? = _ := (hgw.block _ hSb.out.gs (fun e => by have := (hSb.out.oq.lt _ e.symm).1; omega)).trans hSb.out.bx
                have u1 : w9.cell? ⟨wi.heap.size, 3, none⟩ = some vq := by rw [cell_of_row _ _ 3 _ 78 (0, 0) hx9]; rfl
                have u2 : w9.frozen? ⟨wi.heap.size, 3, none⟩ = false := by simp [World.frozen?, hx9]
                clear hx9
                replace hgw := Lib.hid hgw
                replace o9 := Lib.hid o9
                replace a9 := Lib.hid a9
                clear b9 g9
                refine hK.out _ _ (by exact hgw.out) (fun hHeld => ?_)
                clear hK K
                try simp only [Act.put, sA, sB, sC]
                refine wpAnyF_oneR (i := 18) (v := ?vA17_17) hops rdA17_18 rfl stA17_18 (Or.inl ⟨by kernel_rfl, ?hyA17_17⟩) (by assumption) ?restA17_17
                case hyA17_17 => (intro w hSw; obtain ⟨k0, k1, k2, k3, k4, k5⟩ := hSq.out _ hSw; clear hSw; go_simp; (try with_reducible rfl))
                try simp only [Act.put, sA, sB, sC]
                refine wpAnyF_lastR hops rdA17_19 rfl stA17_19 (fun K hK => ?_)
                go_simp
                refine hK.out _ _ ?_
                clear hK K
                try simp only [Act.put, sA, sB, sC]
                refine wpAnyF_doneR hops rdA17_20 ?_
                clear hSq
                go_wp2_with fail
                exact ⟨⟨j + 1, va, _, vs, na, nq + 1, ls, xa, _, by go_num, by omega, by omega, by omega, by omega, Lib.hid (hSb.out.growQ o9.out (hSb.out.kq.snoc hSb.out.oq.1 hE2.out) hgw.out (at_weak a9.out))⟩, by simp [intOf]; omega⟩
              · have e3' : (pk == 3) = false := by simpa using e3
                by_cases e6 : pk = 6
                · subst e6
                  obtain ⟨z0, z1, z2, z3, z4, z5, z6, z7⟩ := hbox.out _ rfl
                  obtain ⟨A5, c5, rfl, hn5, hc5, hA5, hr5⟩ := hSb.out.sp
                  obtain ⟨g0, g1', g2', g3', g4'⟩ := hgc.out _ hSb.out.bx
                  have hwt := Lib.hid (with_any A5 c5 ls nm Wb hr5 hA5 hn5 hc5 (by omega))
                  clear hr5 hA5
                  go_wp2_with (go_at_call 44; (with_reducible refine hwt.out.mono ?_); rintro e w9 ⟨v9, rfl, hs9, hf9, hb9⟩; have hx9 : w9.heap[wi.heap.size]? = _ := (bl_row hb9 hSb.out.bx); have u1 : w9.cell? ⟨wi.heap.size, 4, none⟩ = some (.slice A5 ls.length c5) := (by rw [cell_of_row _ _ 4 _ 78 (0, 0) hx9]; rfl); have u2 : w9.frozen? ⟨wi.heap.size, 4, none⟩ = false := (by simp [World.frozen?, hx9]); clear hx9; have hs9' := Lib.hid hs9; obtain ⟨A9, c9, rfl, -, -, -, -⟩ := hs9; replace hf9 := Lib.hid hf9; replace hb9 := Lib.hid hb9)
                  exact ⟨⟨j + 1, va, vq, _, na, nq, withL ls nm, xa, xq, by go_num, by omega, by omega, by omega, by have := withL_len ls nm; omega, Lib.hid (hSb.out.growS hb9.out hs9'.out hf9.out (withL_pos _ _))⟩, by simp [intOf]; omega⟩
                · have e6' : (pk == 6) = false := by simpa using e6
                  obtain ⟨z0, z1, z2, z3, z4, z5, z6, z7⟩ := hbox.out _ rfl
                  go_wp2_with fail
                  exact ⟨⟨j + 1, va, vq, vs, na, nq, ls, xa, xq, by go_num, by omega, by omega, by omega, by omega, hSb⟩, by simp [intOf]; omega⟩
        · have hjn' : Hid (j = n) := Lib.hid (by omega)
          have d2 : decide ((j : Int) < (n : Int)) = false := by simp; omega
          obtain ⟨A5, c5, rfl, -, -, -, -⟩ := hS.out.sp
          obtain ⟨A6, c6, rfl, -, -, -, -⟩ := Rd.own hS.out.oa
          obtain ⟨A7, c7, rfl, -, -, -, -⟩ := Rd.own hS.out.oq
          have hbx9 := hS.out.bx
          have z0 : wr.cell? ⟨wi.heap.size, 0, none⟩ = some (.string mS) := by rw [cell_of_row _ _ 0 _ 78 (0, 0) hbx9]; rfl
          have z1 : wr.cell? ⟨wi.heap.size, 1, none⟩ = some (.string yS) := by rw [cell_of_row _ _ 1 _ 78 (0, 0) hbx9]; rfl
          have z2 : wr.cell? ⟨wi.heap.size, 2, none⟩ = some (.slice A6 na c6) := by rw [cell_of_row _ _ 2 _ 78 (0, 0) hbx9]; rfl
          have z3 : wr.cell? ⟨wi.heap.size, 3, none⟩ = some (.slice A7 nq c7) := by rw [cell_of_row _ _ 3 _ 78 (0, 0) hbx9]; rfl
          have z4 : wr.cell? ⟨wi.heap.size, 4, none⟩ = some (.slice A5 ls.length c5) := by rw [cell_of_row _ _ 4 _ 78 (0, 0) hbx9]; rfl
          have hz4 : zs.length ≤ 4 := by have := hzl.out; omega
          clear hbx9 c1b
          go_wp2_with (at_builtin; refine app_lit (w0 := w3) w3.heap.size rfl _ _ 50 78 (.agg #[.string ⟨#[]⟩, .string ⟨#[]⟩, .slice none 0 0, .slice none 0 0, .slice none 0 0]) 5 104 rfl Try.underlying50 info78 rfl (by decide) (by decide) u7 zs.length zs.flatten rfl (own_below hA.out.o7 hS.out.hB) hB3.out hB3.out.size 1 1 [.string mS, .string yS, .slice A6 na c6, .slice A7 nq c7, .slice A5 ls.length c5] rfl rfl (by simp [Value.oneCell']) (by omega) ?_; intro v9 w9 o9 b9 g9 a9; replace o9 := Lib.hid o9; replace b9 := Lib.hid b9; replace g9 := Lib.hid g9; replace a9 := Lib.hid a9)
          exact ⟨⟨i + 1, zs ++ [[.string mS, .string yS, .slice A6 na c6, .slice A7 nq c7, .slice A5 ls.length c5]], by go_num, by omega, Lib.hid (by simp [hzl.out]), Lib.hid (hA.out.grow hS.out (by omega) (by omega) (by have := o9.out; simpa using this) b9.out g9.out a9.out)⟩, by simp [intOf]; omega⟩
    · have hi4 : i = 4 := by omega
      subst hi4
      have d1 : decide (((4 : Nat) : Int) < 4) = false := by decide
      go_wp2_with fail
      first | go_ret | go_end0
      exact ⟨_, rfl, hA.out.out hzl.out, bl_then hb3.out hb3.out.size hA.out.hB⟩
end Go.Proofs.Ytdhklfbelplbcaa
