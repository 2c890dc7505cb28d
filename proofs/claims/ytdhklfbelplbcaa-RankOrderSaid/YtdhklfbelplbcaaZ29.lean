/-
  whole, block 6: of each function the states ahead of all that it reaches.
-/
import Derived.Test.YtdhklfbelplbcaaZ10
import Derived.Test.YtdhklfbelplbcaaZ28
namespace Go.Proofs.Ytdhklfbelplbcaa
set_option linter.unusedVariables false
set_option linter.unusedSimpArgs false
open Go.RowKit
set_option maxHeartbeats 64000000 in
set_option maxRecDepth 100000 in
theorem whole_b6 (bx g1 g2 n0 c0 gp cp : Nat) (A0 : Option Addr) (tc : Int) (bs : Nat → St) (sl0 sl1 sl3 sl4 sl5 sl8 sl10 sl11 sl12 sl13 sl14 sl17 sl18 sl19 sl20 sl21 sl22 sl23 sl24 sl25 sl26 sl27 sl28 sl29 sl30 sl31 sl32 sl33 sl34 sl35 sl36 sl37 sl38 sl39 sl40 sl41 sl42 sl43 sl44 sl45 sl46 sl47 sl48 sl49 sl50 sl51 sl52 sl53 sl54 sl55 sl56 sl57 sl58 sl59 sl60 sl61 sl62 sl63 sl64 sl65 sl66 sl67 sl68 sl69 sl70 sl71 sl72 sl73 sl74 sl75 sl76 sl77 sl78 sl79 sl80 sl81 sl82 sl83 sl84 sl85 sl86 sl87 sl88 sl89 sl90 sl91 sl92 sl93 sl94 sl95 sl96 sl97 sl98 sl99 sl100 sl101 sl102 sl103 sl104 sl105 sl106 sl107 sl108 sl109 sl110 sl111 sl112 sl113 sl114 sl115 sl116 sl117 sl118 sl119 sl120 sl121 sl122 sl123 sl124 sl125 sl126 sl127 sl128 sl129 sl130 sl131 sl132 sl133 sl134 sl135 sl136 sl137 sl138 sl139 sl140 sl141 sl142 sl143 sl144 sl145 sl146 sl147 sl148 sl149 sl150 sl151 sl152 sl153 sl154 sl155 sl156 sl157 sl158 sl159 sl160 sl161 sl162 sl163 sl164 sl165 sl166 sl167 sl168 sl169 sl170 sl171 sl172 sl173 sl174 sl175 sl176 sl177 sl178 sl179 sl180 sl181 sl182 sl183 sl184 sl185 sl186 sl187 sl188 sl189 sl190 sl191 sl192 sl193 sl194 sl195 sl196 sl197 sl198 sl199 sl200 sl201 sl202 sl203 sl204 sl205 sl206 sl207 sl208 sl209 sl210 sl211 sl212 sl213 sl214 sl215 sl216 sl217 sl218 sl219 sl220 sl221 sl222 sl223 sl224 sl225 sl226 sl227 sl228 sl229 sl230 sl231 sl232 sl233 sl234 sl235 sl236 sl237 sl238 sl239 sl240 sl241 sl242 sl243 sl244 sl245 sl246 sl247 sl248 sl249 sl250 sl251 sl252 sl253 sl254 sl255 sl256 sl257 sl258 sl259 sl260 sl261 sl262 sl263 sl264 sl265 sl266 sl267 sl268 sl269 sl270 sl271 sl272 sl273 sl274 sl275 sl276 sl277 sl278 sl279 sl280 : Value) (W : World) (Q : Exit → Act → World → Prop) (h0 : 48 ≤ tc) (h1 : tc ≤ 50) (hbx : Hid (W.heap[bx]? = some (.cells #[.slice A0 n0 c0, .slice (some ⟨g1, 0, none⟩) 3 3, .slice (some ⟨g2, 0, none⟩) 4 4] 40 (0, 0)))) (hpr : Hid (PrOk W.cell? (.agg #[.slice A0 n0 c0, .slice (some ⟨g1, 0, none⟩) 3 3, .slice (some ⟨g2, 0, none⟩) 4 4]) bs)) (hok : Hid (∀ j, j < 4 → StOk (bs j))) (hcnt : Hid (∀ j, j < 4 → (bs j).cnt ≤ 200)) (hpt : Hid (∀ j, j < 4 → ∃ A c xs, W.cell? ⟨gp, j, none⟩ = some (.slice A (ptsN (bs j)) c) ∧ ptsN (bs j) ≤ c ∧ c ≤ 9223372036854775807 ∧ Rd W A xs ∧ xs.length = ptsN (bs j) * 7 ∧ PtsOk (bs j) xs (ptsN (bs j)) ∧ ∀ a, A = some a → a = ⟨a.block, 0, none⟩))
    (hQ : Hid (∀ (c : _) (a : Act) (d : Option Tmp) (v : Value) (w : World), Q (.panic c) (a.put d v) w → Q (.panic c) a w)) (hexit : Hid (∀ (u15 u16 u17 u18 u19 u20 u21 u22 u91 u92 u93 u94 u95 u96 u97 u98 u99 u100 u101 u102 u103 u104 u105 u106 u107 u108 u109 u110 u111 u112 u113 u114 u115 u116 u117 u118 u119 u120 u121 u122 u123 u124 u125 u126 u127 u128 u129 u130 u131 u132 u133 u134 u135 u136 u137 u138 u139 u140 u141 u142 u143 u144 u145 u146 u147 u148 u149 u150 u151 u152 u153 u154 u155 u156 u157 u158 u159 u160 u161 u162 u163 u164 u165 u166 u167 u168 u169 u170 : Value) (W' : World), Hid (∃ vl, vl.length = 4 ∧ AllS W W' bs u15 vl) → Q .normal ⟨#[sl0, sl1, .pointer (some ⟨bx, 0, none⟩), sl3, sl4, sl5, .int .u8 tc, .int .i64 3, sl8, .slice (some ⟨gp, 0, none⟩) 4 cp, sl10, sl11, sl12, sl13, sl14, u15, u16, u17, u18, u19, u20, u21, u22, sl23, sl24, sl25, sl26, sl27, sl28, sl29, sl30, sl31, sl32, sl33, sl34, sl35, sl36, sl37, sl38, sl39, sl40, sl41, sl42, sl43, sl44, sl45, sl46, sl47, sl48, sl49, sl50, sl51, sl52, sl53, sl54, sl55, sl56, sl57, sl58, sl59, sl60, sl61, sl62, sl63, sl64, sl65, sl66, sl67, sl68, sl69, sl70, sl71, sl72, sl73, sl74, sl75, sl76, sl77, sl78, sl79, sl80, sl81, sl82, sl83, sl84, sl85, sl86, sl87, sl88, sl89, sl90, u91, u92, u93, u94, u95, u96, u97, u98, u99, u100, u101, u102, u103, u104, u105, u106, u107, u108, u109, u110, u111, u112, u113, u114, u115, u116, u117, u118, u119, u120, u121, u122, u123, u124, u125, u126, u127, u128, u129, u130, u131, u132, u133, u134, u135, u136, u137, u138, u139, u140, u141, u142, u143, u144, u145, u146, u147, u148, u149, u150, u151, u152, u153, u154, u155, u156, u157, u158, u159, u160, u161, u162, u163, u164, u165, u166, u167, u168, u169, u170, sl171, sl172, sl173, sl174, sl175, sl176, sl177, sl178, sl179, sl180, sl181, sl182, sl183, sl184, sl185, sl186, sl187, sl188, sl189, sl190, sl191, sl192, sl193, sl194, sl195, sl196, sl197, sl198, sl199, sl200, sl201, sl202, sl203, sl204, sl205, sl206, sl207, sl208, sl209, sl210, sl211, sl212, sl213, sl214, sl215, sl216, sl217, sl218, sl219, sl220, sl221, sl222, sl223, sl224, sl225, sl226, sl227, sl228, sl229, sl230, sl231, sl232, sl233, sl234, sl235, sl236, sl237, sl238, sl239, sl240, sl241, sl242, sl243, sl244, sl245, sl246, sl247, sl248, sl249, sl250, sl251, sl252, sl253, sl254, sl255, sl256, sl257, sl258, sl259, sl260, sl261, sl262, sl263, sl264, sl265, sl266, sl267, sl268, sl269, sl270, sl271, sl272, sl273, sl274, sl275, sl276, sl277, sl278, sl279, sl280], []⟩ W')) :
    (blkIn 6 Try.f43).wp Try.prog Q ⟨#[sl0, sl1, .pointer (some ⟨bx, 0, none⟩), sl3, sl4, sl5, .int .u8 tc, .int .i64 3, sl8, .slice (some ⟨gp, 0, none⟩) 4 cp, sl10, sl11, sl12, sl13, sl14, .slice none 0 0, .int .i64 0, sl17, sl18, sl19, sl20, sl21, sl22, sl23, sl24, sl25, sl26, sl27, sl28, sl29, sl30, sl31, sl32, sl33, sl34, sl35, sl36, sl37, sl38, sl39, sl40, sl41, sl42, sl43, sl44, sl45, sl46, sl47, sl48, sl49, sl50, sl51, sl52, sl53, sl54, sl55, sl56, sl57, sl58, sl59, sl60, sl61, sl62, sl63, sl64, sl65, sl66, sl67, sl68, sl69, sl70, sl71, sl72, sl73, sl74, sl75, sl76, sl77, sl78, sl79, sl80, sl81, sl82, sl83, sl84, sl85, sl86, sl87, sl88, sl89, sl90, sl91, sl92, sl93, sl94, sl95, sl96, sl97, sl98, sl99, sl100, sl101, sl102, sl103, sl104, sl105, sl106, sl107, sl108, sl109, sl110, sl111, sl112, sl113, sl114, sl115, sl116, sl117, sl118, sl119, sl120, sl121, sl122, sl123, sl124, sl125, sl126, sl127, sl128, sl129, sl130, sl131, sl132, sl133, sl134, sl135, sl136, sl137, sl138, sl139, sl140, sl141, sl142, sl143, sl144, sl145, sl146, sl147, sl148, sl149, sl150, sl151, sl152, sl153, sl154, sl155, sl156, sl157, sl158, sl159, sl160, sl161, sl162, sl163, sl164, sl165, sl166, sl167, sl168, sl169, sl170, sl171, sl172, sl173, sl174, sl175, sl176, sl177, sl178, sl179, sl180, sl181, sl182, sl183, sl184, sl185, sl186, sl187, sl188, sl189, sl190, sl191, sl192, sl193, sl194, sl195, sl196, sl197, sl198, sl199, sl200, sl201, sl202, sl203, sl204, sl205, sl206, sl207, sl208, sl209, sl210, sl211, sl212, sl213, sl214, sl215, sl216, sl217, sl218, sl219, sl220, sl221, sl222, sl223, sl224, sl225, sl226, sl227, sl228, sl229, sl230, sl231, sl232, sl233, sl234, sl235, sl236, sl237, sl238, sl239, sl240, sl241, sl242, sl243, sl244, sl245, sl246, sl247, sl248, sl249, sl250, sl251, sl252, sl253, sl254, sl255, sl256, sl257, sl258, sl259, sl260, sl261, sl262, sl263, sl264, sl265, sl266, sl267, sl268, sl269, sl270, sl271, sl272, sl273, sl274, sl275, sl276, sl277, sl278, sl279, sl280], []⟩ W := by
  have hall : Hid (∀ w, Calls Try.prog 56 #[.int .i64 3, .int .u8 tc] w fun e w' => e = .returned (.string (st (allL 3 tc))) ∧ Below w.heap.size w w') := Lib.hid (fun w => refall_to (n := 3) rfl (by omega) h0 h1 w)
  have htp : Hid (Ef 3 (allL 3 tc)) := Lib.hid (Ef.allc 3 h0 h1)
  generalize allL 3 tc = tp at *
  conv => arg 2; whnf
  go_wp2_with fail
  go_loopw [15, 16] (fun va v16 wr => ∃ (i : Nat) (vl : List Value), v16 = .int .i64 (i : Nat) ∧ i ≤ 4 ∧ Hid (vl.length = i) ∧ Hid (AllS W wr bs va vl)) (fun _ v _ => 4 - (intOf v).toNat)
  case atStart => exact ⟨0, [], rfl, by omega, Lib.hid rfl, Lib.hid (AllS.start W bs)⟩
  case round =>
    obtain ⟨wi, rfl⟩ : ∃ x, x = wr := ⟨_, rfl⟩
    obtain ⟨i, vl, rfl, hi, hvl, hA⟩ := hrel
    have hbr := Lib.hid (bl_row hA.out.hB hbx.out)
    have y0 : wi.cell? ⟨bx, 0, none⟩ = some (.slice A0 n0 c0) := by rw [cell_of_row _ _ 0 _ 40 (0, 0) hbr.out]; rfl
    have y1 : wi.cell? ⟨bx, 1, none⟩ = some (.slice (some ⟨g1, 0, none⟩) 3 3) := by rw [cell_of_row _ _ 1 _ 40 (0, 0) hbr.out]; rfl
    have y2 : wi.cell? ⟨bx, 2, none⟩ = some (.slice (some ⟨g2, 0, none⟩) 4 4) := by rw [cell_of_row _ _ 2 _ 40 (0, 0) hbr.out]; rfl
    by_cases hlt : i < 4
    · have d1 : decide ((i : Int) < 4) = true := by simp; omega
      have i1 : (0 : Int) ≤ (i : Int) := by omega
      have i2 : (i : Int) < 4 := by omega
      have hp1 := Lib.hid (hpr.out.mono (cell_le hA.out.hB))
      have hn1 : wi.cell? ⟨g2, i * 3, none⟩ = some (.string (fnN i)) := by
        obtain ⟨A0', n0', c0', g1', g2', he, hp2, hp3⟩ := hp1.out
        simp only [Value.agg.injEq, Array.mk.injEq, List.cons.injEq, Value.slice.injEq, Option.some.injEq, Addr.mk.injEq] at he
        obtain ⟨-, -, ⟨⟨rfl, -⟩, -⟩, -⟩ := he
        exact (hp3 i hlt).1
      have hre : Hid (∀ w', Below wi.heap.size wi w' → Calls Try.prog 50 #[(.agg #[.slice A0 n0 c0, .slice (some ⟨g1, 0, none⟩) 3 3, .slice (some ⟨g2, 0, none⟩) 4 4]), .string (fnN i)] w' fun e w'' => ∃ v', e = .returned v' ∧ SlN w'' v' (reachL bs i) ∧ (∀ b, v'.ownBlock = some b → w'.heap.size ≤ b) ∧ Below w'.heap.size w' w'') := Lib.hid (fun w' hb => reach_any (.agg #[.slice A0 n0 c0, .slice (some ⟨g1, 0, none⟩) 3 3, .slice (some ⟨g2, 0, none⟩) 4 4]) bs i hlt w' (hp1.out.mono (cell_le hb)) hok.out (fun j hj => by have := hcnt.out j hj; omega))
      have hSd : wi.drew.cell? ⟨bx, 0, none⟩ = some (.slice A0 n0 c0) ∧ wi.drew.cell? ⟨bx, 1, none⟩ = some (.slice (some ⟨g1, 0, none⟩) 3 3) ∧ wi.drew.cell? ⟨bx, 2, none⟩ = some (.slice (some ⟨g2, 0, none⟩) 4 4) ∧ wi.drew.cell? ⟨g2, i * 3, none⟩ = some (.string (fnN i)) := ⟨y0, y1, y2, hn1⟩
      have hSk : Hid (∀ w', Below wi.heap.size wi w' → (w'.cell? ⟨bx, 0, none⟩ = some (.slice A0 n0 c0) ∧ w'.cell? ⟨bx, 1, none⟩ = some (.slice (some ⟨g1, 0, none⟩) 3 3) ∧ w'.cell? ⟨bx, 2, none⟩ = some (.slice (some ⟨g2, 0, none⟩) 4 4) ∧ w'.cell? ⟨g2, i * 3, none⟩ = some (.string (fnN i)))) := Lib.hid (fun w' hb => ⟨bl_cell hb y0, bl_cell hb y1, bl_cell hb y2, bl_cell hb hn1⟩)
      go_upto_region 28 with fail
      refine wp_region_heldR (S := fun w' => w'.cell? ⟨bx, 0, none⟩ = some (.slice A0 n0 c0) ∧ w'.cell? ⟨bx, 1, none⟩ = some (.slice (some ⟨g1, 0, none⟩) 3 3) ∧ w'.cell? ⟨bx, 2, none⟩ = some (.slice (some ⟨g2, 0, none⟩) 4 4) ∧ w'.cell? ⟨g2, i * 3, none⟩ = some (.string (fnN i))) opsW28 _ (by kernel_rfl) liW28 (by kernel_rfl) nsW28 (hSd) (fun hops hns hHeld => ?_)
      refine wpAnyH_takeR (i := 0) (v := ?vW28_1) hops hns rdW28_0 (by rfl) frW28_0 rfl (fun _ _ _ h => hQ.out _ _ _ _ _ h) stW28_0 (Or.inl ⟨by kernel_rfl, ?hyW28_1⟩) (by assumption) ?restW28_1
      case hyW28_1 => (intro w hSw; (try dsimp only at hSw); go_split_ands; go_simp; (try with_reducible rfl))
      try simp only [Act.put, List.setIfInBounds_toArray, List.set_cons_zero, List.set_cons_succ]
      refine wpAnyH_takeR (i := 1) (v := ?vW28_2) hops hns rdW28_1 (by rfl) frW28_1 rfl (fun _ _ _ h => hQ.out _ _ _ _ _ h) stW28_1 (Or.inl ⟨by kernel_rfl, ?hyW28_2⟩) (by assumption) ?restW28_2
      case hyW28_2 => (intro w hSw; (try dsimp only at hSw); go_split_ands; go_simp; (try with_reducible rfl))
      try simp only [Act.put, List.setIfInBounds_toArray, List.set_cons_zero, List.set_cons_succ]
      refine wpAnyH_takeR (i := 2) (v := ?vW28_3) hops hns rdW28_2 (by rfl) frW28_2 rfl (fun _ _ _ h => hQ.out _ _ _ _ _ h) stW28_2 (Or.inl ⟨by kernel_rfl, ?hyW28_3⟩) (by assumption) ?restW28_3
      case hyW28_3 => (intro w hSw; (try dsimp only at hSw); go_split_ands; go_simp; (try with_reducible rfl))
      try simp only [Act.put, List.setIfInBounds_toArray, List.set_cons_zero, List.set_cons_succ]
      refine wpAnyH_oneR (i := 3) (v := ?vW28_4) hops rdW28_3 rfl stW28_3 (Or.inl ⟨by kernel_rfl, ?hyW28_4⟩) (by assumption) ?restW28_4
      case hyW28_4 => (intro w hSw; (try dsimp only at hSw); go_split_ands; go_simp; (try with_reducible rfl))
      try simp only [Act.put, List.setIfInBounds_toArray, List.set_cons_zero, List.set_cons_succ]
      refine wpAnyH_oneR (i := 4) (v := ?vW28_5) hops rdW28_4 rfl stW28_4 (Or.inl ⟨by kernel_rfl, ?hyW28_5⟩) (by assumption) ?restW28_5
      case hyW28_5 => (intro w hSw; (try dsimp only at hSw); go_split_ands; go_simp; (try with_reducible rfl))
      try simp only [Act.put, List.setIfInBounds_toArray, List.set_cons_zero, List.set_cons_succ]
      refine wpAnyH_oneR (i := 5) (v := ?vW28_6) hops rdW28_5 rfl stW28_5 (Or.inl ⟨by kernel_rfl, ?hyW28_6⟩) (by assumption) ?restW28_6
      case hyW28_6 => (intro w hSw; (try dsimp only at hSw); go_split_ands; go_simp; (try with_reducible rfl))
      try simp only [Act.put, List.setIfInBounds_toArray, List.set_cons_zero, List.set_cons_succ]
      refine wpAnyH_oneR (i := 6) (v := ?vW28_7) hops rdW28_6 rfl stW28_6 (Or.inl ⟨by kernel_rfl, ?hyW28_7⟩) (by assumption) ?restW28_7
      case hyW28_7 => (intro w hSw; (try dsimp only at hSw); go_split_ands; go_simp; (try with_reducible rfl))
      try simp only [Act.put, List.setIfInBounds_toArray, List.set_cons_zero, List.set_cons_succ]
      refine wpAnyH_readyR (rs := [7]) hops rdW28_7 (by simp) (AllReadyH.consR rfl stW28_7 (fun K hK => ?_) AllReadyH.nil)
      (go_simp; go_wp2_with (go_at_call 50; (with_reducible refine (hre.out _ (Below.refl _ _).drew).mono ?_); rintro e w5 ⟨v5, rfl, hs5, -, hb5⟩; obtain ⟨A5, c5, rfl, hc5, hm5, -, hr5⟩ := hs5; replace hb5 := Lib.hid (bl_then (Below.refl wi.heap.size wi).drew (Nat.le_refl _) hb5); replace hr5 := Lib.hid hr5))
      refine hK.out _ _ (by first | with_reducible exact hSd | exact hSk.out _ hb5.out) (fun hHeld => ?_)
      clear hK K
      try simp only [Act.put, List.setIfInBounds_toArray, List.set_cons_zero, List.set_cons_succ]
      refine wpAnyH_oneR (i := 8) (v := ?vW28_8) hops rdW28_8 rfl stW28_8 (Or.inl ⟨by kernel_rfl, ?hyW28_8⟩) (by assumption) ?restW28_8
      case hyW28_8 => (intro w hSw; (try dsimp only at hSw); go_split_ands; go_simp; (try with_reducible rfl))
      try simp only [Act.put, List.setIfInBounds_toArray, List.set_cons_zero, List.set_cons_succ]
      refine wpAnyH_doneR hops rdW28_9 ?_
      obtain ⟨wR, rfl⟩ : ∃ x, x = w5 := ⟨_, rfl⟩
      obtain ⟨z0, z1, z2, -⟩ := hSk.out _ hb5.out
      have hAR := Lib.hid (hA.out.below hb5.out)
      have hpR := Lib.hid (hp1.out.mono (cell_le hb5.out))
      have hrlen := reachL_len bs hok.out hlt
      have hrfn := Lib.hid (reach_all bs hok.out hlt).2.1
      obtain ⟨m, hm⟩ : ∃ m, m = (reachL bs i).length := ⟨_, rfl⟩
      rw [← hm] at hc5 hrlen ⊢
      replace hm := Lib.hid hm
      clear hSd hSk y0 y1 y2 hn1
      go_wp2_with fail
      go_loopw [17, 19] (fun v17 v19 wr => ∃ k : Nat, v19 = .int .i64 (k : Nat) ∧ k ≤ m ∧ Hid (Ld wR wr v17 (tlK bs i k))) (fun _ v _ => m - (intOf v).toNat)
      case atStart => exact ⟨0, rfl, Nat.zero_le _, Lib.hid (Ld.start wR)⟩
      case round =>
        obtain ⟨wk, rfl⟩ : ∃ x, x = wr := ⟨_, rfl⟩
        obtain ⟨k, rfl, hk, hL⟩ := hrel
        by_cases hkm : k < m
        · have d2 : decide ((k : Int) < (m : Int)) = true := by simp; omega
          have k1 : (0 : Int) ≤ (k : Int) := by omega
          have k2 : (k : Int) < (m : Int) := by omega
          have hkl : k < (reachL bs i).length := by rw [← hm.out]; exact hkm
          obtain ⟨f, hf, hrf⟩ := hrfn.out _ (List.getElem_mem hkl)
          have hfx : fnIx (reachL bs i)[k] = f := by
            have h1 := fnIx_fn (s := fnN f) ⟨f, hf, rfl⟩
            have h2 := fnN_eq (fnIx_lt (fnN f)) hf
            rw [h1] at h2
            rw [hrf]
            simpa using h2.symm
          have hstep : Hid (tlK bs i (k + 1) = tlK bs i k ++ (List.range (ptsN (bs f))).map fun j => (f, j)) := Lib.hid (by rw [tlK_succ bs i hkl]; unfold tf; rw [hfx])
          obtain ⟨ad5, rfl, hrk⟩ : ∃ ad5, A5 = some ad5 ∧ wR.cell? (ad5.add k) = some (.string (fnN f)) := by
            obtain ⟨ad, e1, e2⟩ := hr5.out k (by rw [strs_len]; exact hkl)
            refine ⟨ad, e1, ?_⟩
            rw [e2]
            simp only [strs, enc, List.getElem_map, hrf]
          replace hfx := Lib.hid hfx
          replace hrf := Lib.hid hrf
          have hfi : Hid (∀ w', Below wk.heap.size wk w' → Calls Try.prog 53 #[(.agg #[.slice A0 n0 c0, .slice (some ⟨g1, 0, none⟩) 3 3, .slice (some ⟨g2, 0, none⟩) 4 4]), .string (fnN f)] w' fun e w'' => e = .returned (.int .i64 (f : Nat)) ∧ Below w'.heap.size w' w'') := Lib.hid (fun w' hb => find_any (.agg #[.slice A0 n0 c0, .slice (some ⟨g1, 0, none⟩) 3 3, .slice (some ⟨g2, 0, none⟩) 4 4]) bs f hf w' (hpR.out.mono (cell_le (bl_then hL.out.hB hL.out.hB.size hb))))
          have hSd : wk.drew.cell? ⟨bx, 0, none⟩ = some (.slice A0 n0 c0) ∧ wk.drew.cell? ⟨bx, 1, none⟩ = some (.slice (some ⟨g1, 0, none⟩) 3 3) ∧ wk.drew.cell? ⟨bx, 2, none⟩ = some (.slice (some ⟨g2, 0, none⟩) 4 4) ∧ wk.drew.cell? (ad5.add k) = some (.string (fnN f)) := ⟨bl_cell hL.out.hB z0, bl_cell hL.out.hB z1, bl_cell hL.out.hB z2, bl_cell hL.out.hB hrk⟩
          have hSk : Hid (∀ w', Below wk.heap.size wk w' → (w'.cell? ⟨bx, 0, none⟩ = some (.slice A0 n0 c0) ∧ w'.cell? ⟨bx, 1, none⟩ = some (.slice (some ⟨g1, 0, none⟩) 3 3) ∧ w'.cell? ⟨bx, 2, none⟩ = some (.slice (some ⟨g2, 0, none⟩) 4 4) ∧ w'.cell? (ad5.add k) = some (.string (fnN f)))) := Lib.hid (fun w' hb => ⟨bl_cell hb hSd.1, bl_cell hb hSd.2.1, bl_cell hb hSd.2.2.1, bl_cell hb hSd.2.2.2⟩)
          go_upto_region 32 with fail
          refine wp_region_heldR (S := fun w' => w'.cell? ⟨bx, 0, none⟩ = some (.slice A0 n0 c0) ∧ w'.cell? ⟨bx, 1, none⟩ = some (.slice (some ⟨g1, 0, none⟩) 3 3) ∧ w'.cell? ⟨bx, 2, none⟩ = some (.slice (some ⟨g2, 0, none⟩) 4 4) ∧ w'.cell? (ad5.add k) = some (.string (fnN f))) opsW32 _ (by kernel_rfl) liW32 (by kernel_rfl) nsW32 (hSd) (fun hops hns hHeld => ?_)
          refine wpAnyH_takeR (i := 0) (v := ?vW32_1) hops hns rdW32_0 (by rfl) frW32_0 rfl (fun _ _ _ h => hQ.out _ _ _ _ _ h) stW32_0 (Or.inl ⟨by kernel_rfl, ?hyW32_1⟩) (by assumption) ?restW32_1
          case hyW32_1 => (intro w hSw; (try dsimp only at hSw); go_split_ands; go_simp; (try with_reducible rfl))
          try simp only [Act.put, List.setIfInBounds_toArray, List.set_cons_zero, List.set_cons_succ]
          refine wpAnyH_takeR (i := 1) (v := ?vW32_2) hops hns rdW32_1 (by rfl) frW32_1 rfl (fun _ _ _ h => hQ.out _ _ _ _ _ h) stW32_1 (Or.inl ⟨by kernel_rfl, ?hyW32_2⟩) (by assumption) ?restW32_2
          case hyW32_2 => (intro w hSw; (try dsimp only at hSw); go_split_ands; go_simp; (try with_reducible rfl))
          try simp only [Act.put, List.setIfInBounds_toArray, List.set_cons_zero, List.set_cons_succ]
          refine wpAnyH_oneR (i := 2) (v := ?vW32_3) hops rdW32_2 rfl stW32_2 (Or.inl ⟨by kernel_rfl, ?hyW32_3⟩) (by assumption) ?restW32_3
          case hyW32_3 => (intro w hSw; (try dsimp only at hSw); go_split_ands; go_simp; (try with_reducible rfl))
          try simp only [Act.put, List.setIfInBounds_toArray, List.set_cons_zero, List.set_cons_succ]
          refine wpAnyH_oneR (i := 3) (v := ?vW32_4) hops rdW32_3 rfl stW32_3 (Or.inl ⟨by kernel_rfl, ?hyW32_4⟩) (by assumption) ?restW32_4
          case hyW32_4 => (intro w hSw; (try dsimp only at hSw); go_split_ands; go_simp; (try with_reducible rfl))
          try simp only [Act.put, List.setIfInBounds_toArray, List.set_cons_zero, List.set_cons_succ]
          refine wpAnyH_oneR (i := 4) (v := ?vW32_5) hops rdW32_4 rfl stW32_4 (Or.inl ⟨by kernel_rfl, ?hyW32_5⟩) (by assumption) ?restW32_5
          case hyW32_5 => (intro w hSw; (try dsimp only at hSw); go_split_ands; go_simp; (try with_reducible rfl))
          try simp only [Act.put, List.setIfInBounds_toArray, List.set_cons_zero, List.set_cons_succ]
          refine wpAnyH_readyR (rs := [5]) hops rdW32_5 (by simp) (AllReadyH.consR rfl stW32_5 (fun K hK => ?_) AllReadyH.nil)
          (go_simp; go_wp2_with (go_at_call 53; (with_reducible refine (hfi.out _ (Below.refl _ _).drew).mono ?_); rintro e w6 ⟨rfl, hb6⟩; replace hb6 := Lib.hid (bl_then (Below.refl wk.heap.size wk).drew (Nat.le_refl _) hb6)))
          refine hK.out _ _ (by first | with_reducible exact hSd | exact hSk.out _ hb6.out) (fun hHeld => ?_)
          clear hK K
          try simp only [Act.put, List.setIfInBounds_toArray, List.set_cons_zero, List.set_cons_succ]
          refine wpAnyH_oneR (i := 6) (v := ?vW32_6) hops rdW32_6 rfl stW32_6 (Or.inl ⟨by kernel_rfl, ?hyW32_6⟩) (by assumption) ?restW32_6
          case hyW32_6 => (intro w hSw; (try dsimp only at hSw); go_split_ands; go_simp; (try with_reducible rfl))
          try simp only [Act.put, List.setIfInBounds_toArray, List.set_cons_zero, List.set_cons_succ]
          refine wpAnyH_doneR hops rdW32_7 ?_
          have hL6 := Lib.hid (hL.out.below hb6.out)
          clear hSd hSk hL hfi
          obtain ⟨A7, c7, x7, hc7a, hc7b, hc7c, hr7, hx7, hp7, ha7⟩ := hpt.out f hf
          have hBR : Hid (Below W.heap.size W wR) := Lib.hid hAR.out.hB
          have hcp := bl_cell hBR.out hc7a
          have hr7R := Lib.hid (hr7.below hBR.out)
          have hpf := ptsN_le (bs f)
          have hcf := hcnt.out f hf
          have hkl8 := tlK_len bs hok.out hcnt.out hlt k
          replace hp7 := Lib.hid hp7
          replace ha7 := Lib.hid ha7
          replace hx7 := Lib.hid hx7
          have f1 : (0 : Int) ≤ (f : Int) := by omega
          have f2 : (f : Int) < 4 := by omega
          clear hr7 hc7a
          obtain ⟨n7, hn7⟩ : ∃ n, n = ptsN (bs f) := ⟨_, rfl⟩
          rw [← hn7] at hc7b hcp hpf hstep hx7 hp7
          replace hn7 := Lib.hid hn7
          go_wp2_with fail
          go_loopw [17, 21] (fun v17 v21 wr => ∃ j : Nat, v21 = .int .i64 (j : Nat) ∧ j ≤ n7 ∧ Hid (Ld wR wr v17 (tlK bs i k ++ (List.range j).map fun j => (f, j)))) (fun _ v _ => n7 - (intOf v).toNat)
          case atStart => exact ⟨0, rfl, Nat.zero_le _, Lib.hid (by simpa using hL6.out)⟩
          case round =>
            obtain ⟨wj, rfl⟩ : ∃ x, x = wr := ⟨_, rfl⟩
            obtain ⟨j, rfl, hj, hLj⟩ := hrel
            have hcpj := bl_cell hLj.out.hB hcp
            by_cases hjn : j < n7
            · have d3 : decide ((j : Int) < (n7 : Int)) = true := by simp; omega
              have j1 : (0 : Int) ≤ (j : Int) := by omega
              have j2 : (j : Int) < (n7 : Int) := by omega
              obtain ⟨q, rfl⟩ : ∃ q, A7 = some ⟨q, 0, none⟩ := by
                obtain ⟨ad, e1, -⟩ := hr7R.out (j * 7) (by rw [hx7.out]; omega)
                exact ⟨ad.block, by rw [e1, ← ha7.out ad e1]⟩
              obtain ⟨pk, px, pnm, pva, pvb, pE, e0, e1, e2, e3, e4, e5, e6, hpE, hpn, -, hpa, hpb⟩ := hp7.out j hjn
              have hat : ∀ c v, x7[j * 7 + c]? = some v → wR.cell? ⟨q, j * 7 + c, none⟩ = some v := fun c v h => by
                have := hr7R.out.cells _ v h
                rwa [add_plain] at this
              have hSk : Hid (∀ w', Below wR.heap.size wR w' → (w'.cell? (ad5.add k) = some (.string (fnN f)) ∧ w'.cell? ⟨gp, f, none⟩ = some (.slice (some ⟨q, 0, none⟩) n7 c7) ∧ w'.cell? ⟨q, j * 7, none⟩ = some (.int .i64 pk) ∧ w'.cell? ⟨q, j * 7 + 1, none⟩ = some (.int .i64 px) ∧ w'.cell? ⟨q, j * 7 + 2, none⟩ = some (.string pnm) ∧ w'.cell? ⟨q, j * 7 + 3, none⟩ = some pva ∧ w'.cell? ⟨q, j * 7 + 4, none⟩ = some pvb ∧ w'.cell? ⟨q, j * 7 + 5, none⟩ = some (.int .i64 (j : Nat)))) := Lib.hid (fun w' hb => ⟨bl_cell hb hrk, bl_cell hb hcp, bl_cell hb (hat 0 _ e0), bl_cell hb (hat 1 _ e1), bl_cell hb (hat 2 _ e2), bl_cell hb (hat 3 _ e3), bl_cell hb (hat 4 _ e4), bl_cell hb (hat 5 _ e5)⟩)
              have he6 := bl_cell hLj.out.hB (hat 6 _ e6)
              replace hpE := Lib.hid hpE
              have hpo : Hid (pva.oneCell' = true ∧ pvb.oneCell' = true) := Lib.hid ⟨hpa, hpb⟩
              clear e0 e1 e2 e3 e4 e5 e6 hat hpa hpb
              obtain ⟨L, hLe⟩ : ∃ L, L = tlK bs i k ++ (List.range j).map fun j => (f, j) := ⟨_, rfl⟩
              rw [← hLe] at hLj
              have hLl : L.length ≤ 1000 := by rw [hLe]; simp; omega
              have hLs : Hid (tlK bs i k ++ (List.range (j + 1)).map (fun j => (f, j)) = L ++ [(f, j)]) := Lib.hid (by rw [hLe, List.range_succ]; simp)
              replace hLe := Lib.hid hLe
              by_cases hfi : f = i
              · have dfi : ((f : Int) == (i : Int)) = true := by simp; omega
                replace hfi := Lib.hid hfi
                go_upto_region 39 with (go_at_call 56; (with_reducible refine (hall.out _).mono ?_); rintro e w8 ⟨rfl, hb8⟩; have hL8 := Lib.hid (hLj.out.below hb8); replace he6 := bl_cell hb8 he6; replace hcpj := bl_cell hb8 hcpj; clear hb8)
                obtain ⟨xl, hxl, hxo⟩ := hL8.out.ex
                replace hxl := Lib.hid hxl
                replace hxo := Lib.hid hxo
                clear he6 hcpj
                have hSd : w8.drew.cell? (ad5.add k) = some (.string (fnN f)) ∧ w8.drew.cell? ⟨gp, f, none⟩ = some (.slice (some ⟨q, 0, none⟩) n7 c7) ∧ w8.drew.cell? ⟨q, j * 7, none⟩ = some (.int .i64 pk) ∧ w8.drew.cell? ⟨q, j * 7 + 1, none⟩ = some (.int .i64 px) ∧ w8.drew.cell? ⟨q, j * 7 + 2, none⟩ = some (.string pnm) ∧ w8.drew.cell? ⟨q, j * 7 + 3, none⟩ = some pva ∧ w8.drew.cell? ⟨q, j * 7 + 4, none⟩ = some pvb ∧ w8.drew.cell? ⟨q, j * 7 + 5, none⟩ = some (.int .i64 (j : Nat)) := hSk.out w8.drew hL8.out.hB.drew
                refine wp_region_heldR (S := fun w' => w'.cell? (ad5.add k) = some (.string (fnN f)) ∧ w'.cell? ⟨gp, f, none⟩ = some (.slice (some ⟨q, 0, none⟩) n7 c7) ∧ w'.cell? ⟨q, j * 7, none⟩ = some (.int .i64 pk) ∧ w'.cell? ⟨q, j * 7 + 1, none⟩ = some (.int .i64 px) ∧ w'.cell? ⟨q, j * 7 + 2, none⟩ = some (.string pnm) ∧ w'.cell? ⟨q, j * 7 + 3, none⟩ = some pva ∧ w'.cell? ⟨q, j * 7 + 4, none⟩ = some pvb ∧ w'.cell? ⟨q, j * 7 + 5, none⟩ = some (.int .i64 (j : Nat))) opsW39 _ (by kernel_rfl) liW39 (by kernel_rfl) nsW39 (hSd) (fun hops hns hHeld => ?_)
                refine wpAnyH_takeR (i := 0) (v := ?vW39a_1) hops hns rdW39_0 (by rfl) frW39_0 rfl (fun _ _ _ h => hQ.out _ _ _ _ _ h) stW39_0 (Or.inl ⟨by kernel_rfl, ?hyW39a_1⟩) (by assumption) ?restW39a_1
                case hyW39a_1 => (intro w hSw; (try dsimp only at hSw); go_split_ands; go_simp; (try with_reducible rfl))
                try simp only [Act.put, List.setIfInBounds_toArray, List.set_cons_zero, List.set_cons_succ]
                refine wpAnyH_takeR (i := 1) (v := ?vW39a_2) hops hns rdW39_1 (by rfl) frW39_1 rfl (fun _ _ _ h => hQ.out _ _ _ _ _ h) stW39_1 (Or.inl ⟨by kernel_rfl, ?hyW39a_2⟩) (by assumption) ?restW39a_2
                case hyW39a_2 => (intro w hSw; (try dsimp only at hSw); go_split_ands; go_simp; (try with_reducible rfl))
                try simp only [Act.put, List.setIfInBounds_toArray, List.set_cons_zero, List.set_cons_succ]
                refine wpAnyH_takeR (i := 2) (v := ?vW39a_3) hops hns rdW39_2 (by rfl) frW39_2 rfl (fun _ _ _ h => hQ.out _ _ _ _ _ h) stW39_2 (Or.inl ⟨by kernel_rfl, ?hyW39a_3⟩) (by assumption) ?restW39a_3
                case hyW39a_3 => (intro w hSw; (try dsimp only at hSw); go_split_ands; go_simp; (try with_reducible rfl))
                try simp only [Act.put, List.setIfInBounds_toArray, List.set_cons_zero, List.set_cons_succ]
                refine wpAnyH_takeR (i := 3) (v := ?vW39a_4) hops hns rdW39_3 (by rfl) frW39_3 rfl (fun _ _ _ h => hQ.out _ _ _ _ _ h) stW39_3 (Or.inl ⟨by kernel_rfl, ?hyW39a_4⟩) (by assumption) ?restW39a_4
                case hyW39a_4 => (intro w hSw; (try dsimp only at hSw); go_split_ands; go_simp; (try with_reducible rfl))
                try simp only [Act.put, List.setIfInBounds_toArray, List.set_cons_zero, List.set_cons_succ]
                refine wpAnyH_takeR (i := 4) (v := ?vW39a_5) hops hns rdW39_4 (by rfl) frW39_4 rfl (fun _ _ _ h => hQ.out _ _ _ _ _ h) stW39_4 (Or.inl ⟨by kernel_rfl, ?hyW39a_5⟩) (by assumption) ?restW39a_5
                case hyW39a_5 => (intro w hSw; (try dsimp only at hSw); go_split_ands; go_simp; (try with_reducible rfl))
                try simp only [Act.put, List.setIfInBounds_toArray, List.set_cons_zero, List.set_cons_succ]
                refine wpAnyH_takeR (i := 5) (v := ?vW39a_6) hops hns rdW39_5 (by rfl) frW39_5 rfl (fun _ _ _ h => hQ.out _ _ _ _ _ h) stW39_5 (Or.inl ⟨by kernel_rfl, ?hyW39a_6⟩) (by assumption) ?restW39a_6
                case hyW39a_6 => (intro w hSw; (try dsimp only at hSw); go_split_ands; go_simp; (try with_reducible rfl))
                try simp only [Act.put, List.setIfInBounds_toArray, List.set_cons_zero, List.set_cons_succ]
                refine wpAnyH_takeR (i := 6) (v := ?vW39a_7) hops hns rdW39_6 (by rfl) frW39_6 rfl (fun _ _ _ h => hQ.out _ _ _ _ _ h) stW39_6 (Or.inl ⟨by kernel_rfl, ?hyW39a_7⟩) (by assumption) ?restW39a_7
                case hyW39a_7 => (intro w hSw; (try dsimp only at hSw); go_split_ands; go_simp; (try with_reducible rfl))
                try simp only [Act.put, List.setIfInBounds_toArray, List.set_cons_zero, List.set_cons_succ]
                refine wpAnyH_takeR (i := 7) (v := ?vW39a_8) hops hns rdW39_7 (by rfl) frW39_7 rfl (fun _ _ _ h => hQ.out _ _ _ _ _ h) stW39_7 (Or.inl ⟨by kernel_rfl, ?hyW39a_8⟩) (by assumption) ?restW39a_8
                case hyW39a_8 => (intro w hSw; (try dsimp only at hSw); go_split_ands; go_simp; (try with_reducible rfl))
                try simp only [Act.put, List.setIfInBounds_toArray, List.set_cons_zero, List.set_cons_succ]
                refine wpAnyH_takeR (i := 8) (v := ?vW39a_9) hops hns rdW39_8 (by rfl) frW39_8 rfl (fun _ _ _ h => hQ.out _ _ _ _ _ h) stW39_8 (Or.inl ⟨by kernel_rfl, ?hyW39a_9⟩) (by assumption) ?restW39a_9
                case hyW39a_9 => (intro w hSw; (try dsimp only at hSw); go_split_ands; go_simp; (try with_reducible rfl))
                try simp only [Act.put, List.setIfInBounds_toArray, List.set_cons_zero, List.set_cons_succ]
                refine wpAnyH_takeR (i := 9) (v := ?vW39a_10) hops hns rdW39_9 (by rfl) frW39_9 rfl (fun _ _ _ h => hQ.out _ _ _ _ _ h) stW39_9 (Or.inl ⟨by kernel_rfl, ?hyW39a_10⟩) (by assumption) ?restW39a_10
                case hyW39a_10 => (intro w hSw; (try dsimp only at hSw); go_split_ands; go_simp; (try with_reducible rfl))
                try simp only [Act.put, List.setIfInBounds_toArray, List.set_cons_zero, List.set_cons_succ]
                refine wpAnyH_takeR (i := 10) (v := ?vW39a_11) hops hns rdW39_10 (by rfl) frW39_10 rfl (fun _ _ _ h => hQ.out _ _ _ _ _ h) stW39_10 (Or.inl ⟨by kernel_rfl, ?hyW39a_11⟩) (by assumption) ?restW39a_11
                case hyW39a_11 => (intro w hSw; (try dsimp only at hSw); go_split_ands; go_simp; (try with_reducible rfl))
                try simp only [Act.put, List.setIfInBounds_toArray, List.set_cons_zero, List.set_cons_succ]
                refine wpAnyH_takeR (i := 11) (v := ?vW39a_12) hops hns rdW39_11 (by rfl) frW39_11 rfl (fun _ _ _ h => hQ.out _ _ _ _ _ h) stW39_11 (Or.inl ⟨by kernel_rfl, ?hyW39a_12⟩) (by assumption) ?restW39a_12
                case hyW39a_12 => (intro w hSw; (try dsimp only at hSw); go_split_ands; go_simp; (try with_reducible rfl))
                try simp only [Act.put, List.setIfInBounds_toArray, List.set_cons_zero, List.set_cons_succ]
                refine wpAnyH_takeR (i := 12) (v := ?vW39a_13) hops hns rdW39_12 (by rfl) frW39_12 rfl (fun _ _ _ h => hQ.out _ _ _ _ _ h) stW39_12 (Or.inl ⟨by kernel_rfl, ?hyW39a_13⟩) (by assumption) ?restW39a_13
                case hyW39a_13 => (intro w hSw; (try dsimp only at hSw); go_split_ands; go_simp; (try with_reducible rfl))
                try simp only [Act.put, List.setIfInBounds_toArray, List.set_cons_zero, List.set_cons_succ]
                refine wpAnyH_takeR (i := 13) (v := ?vW39a_14) hops hns rdW39_13 (by rfl) frW39_13 rfl (fun _ _ _ h => hQ.out _ _ _ _ _ h) stW39_13 (Or.inl ⟨by kernel_rfl, ?hyW39a_14⟩) (by assumption) ?restW39a_14
                case hyW39a_14 => (intro w hSw; (try dsimp only at hSw); go_split_ands; go_simp; (try with_reducible rfl))
                try simp only [Act.put, List.setIfInBounds_toArray, List.set_cons_zero, List.set_cons_succ]
                refine wpAnyH_takeR (i := 14) (v := ?vW39a_15) hops hns rdW39_14 (by rfl) frW39_14 rfl (fun _ _ _ h => hQ.out _ _ _ _ _ h) stW39_14 (Or.inl ⟨by kernel_rfl, ?hyW39a_15⟩) (by assumption) ?restW39a_15
                case hyW39a_15 => (intro w hSw; (try dsimp only at hSw); go_split_ands; go_simp; (try with_reducible rfl))
                try simp only [Act.put, List.setIfInBounds_toArray, List.set_cons_zero, List.set_cons_succ]
                refine wpAnyH_takeR (i := 15) (v := ?vW39a_16) hops hns rdW39_15 (by rfl) frW39_15 rfl (fun _ _ _ h => hQ.out _ _ _ _ _ h) stW39_15 (Or.inl ⟨by kernel_rfl, ?hyW39a_16⟩) (by assumption) ?restW39a_16
                case hyW39a_16 => (intro w hSw; (try dsimp only at hSw); go_split_ands; go_simp; (try with_reducible rfl))
                try simp only [Act.put, List.setIfInBounds_toArray, List.set_cons_zero, List.set_cons_succ]
                refine wpAnyH_takeR (i := 16) (v := ?vW39a_17) hops hns rdW39_16 (by rfl) frW39_16 rfl (fun _ _ _ h => hQ.out _ _ _ _ _ h) stW39_16 (Or.inl ⟨by kernel_rfl, ?hyW39a_17⟩) (by assumption) ?restW39a_17
                case hyW39a_17 => (intro w hSw; (try dsimp only at hSw); go_split_ands; go_simp; (try with_reducible rfl))
                try simp only [Act.put, List.setIfInBounds_toArray, List.set_cons_zero, List.set_cons_succ]
                refine wpAnyH_takeR (i := 17) (v := ?vW39a_18) hops hns rdW39_17 (by rfl) frW39_17 rfl (fun _ _ _ h => hQ.out _ _ _ _ _ h) stW39_17 (Or.inl ⟨by kernel_rfl, ?hyW39a_18⟩) (by assumption) ?restW39a_18
                case hyW39a_18 => (intro w hSw; (try dsimp only at hSw); go_split_ands; go_simp; (try with_reducible rfl))
                try simp only [Act.put, List.setIfInBounds_toArray, List.set_cons_zero, List.set_cons_succ]
                refine wpAnyH_takeR (i := 18) (v := ?vW39a_19) hops hns rdW39_18 (by rfl) frW39_18 rfl (fun _ _ _ h => hQ.out _ _ _ _ _ h) stW39_18 (Or.inl ⟨by kernel_rfl, ?hyW39a_19⟩) (by assumption) ?restW39a_19
                case hyW39a_19 => (intro w hSw; (try dsimp only at hSw); go_split_ands; go_simp; (try with_reducible rfl))
                try simp only [Act.put, List.setIfInBounds_toArray, List.set_cons_zero, List.set_cons_succ]
                refine wpAnyH_takeR (i := 19) (v := ?vW39a_20) hops hns rdW39_19 (by rfl) frW39_19 rfl (fun _ _ _ h => hQ.out _ _ _ _ _ h) stW39_19 (Or.inl ⟨by kernel_rfl, ?hyW39a_20⟩) (by assumption) ?restW39a_20
                case hyW39a_20 => (intro w hSw; (try dsimp only at hSw); go_split_ands; go_simp; (try with_reducible rfl))
                try simp only [Act.put, List.setIfInBounds_toArray, List.set_cons_zero, List.set_cons_succ]
                refine wpAnyH_takeR (i := 20) (v := ?vW39a_21) hops hns rdW39_20 (by rfl) frW39_20 rfl (fun _ _ _ h => hQ.out _ _ _ _ _ h) stW39_20 (Or.inl ⟨by kernel_rfl, ?hyW39a_21⟩) (by assumption) ?restW39a_21
                case hyW39a_21 => (intro w hSw; (try dsimp only at hSw); go_split_ands; go_simp; (try with_reducible rfl))
                try simp only [Act.put, List.setIfInBounds_toArray, List.set_cons_zero, List.set_cons_succ]
                refine wpAnyH_takeR (i := 21) (v := ?vW39a_22) hops hns rdW39_21 (by rfl) frW39_21 rfl (fun _ _ _ h => hQ.out _ _ _ _ _ h) stW39_21 (Or.inl ⟨by kernel_rfl, ?hyW39a_22⟩) (by assumption) ?restW39a_22
                case hyW39a_22 => (intro w hSw; (try dsimp only at hSw); go_split_ands; go_simp; (try with_reducible rfl))
                try simp only [Act.put, List.setIfInBounds_toArray, List.set_cons_zero, List.set_cons_succ]
                refine wpAnyH_oneR (i := 22) (v := ?vW39a_23) hops rdW39_22 rfl stW39_22 (Or.inl ⟨by kernel_rfl, ?hyW39a_23⟩) (by assumption) ?restW39a_23
                case hyW39a_23 => (intro w hSw; (try dsimp only at hSw); go_split_ands; go_simp; (try with_reducible rfl))
                try simp only [Act.put, List.setIfInBounds_toArray, List.set_cons_zero, List.set_cons_succ]
                refine wpAnyH_oneR (i := 23) (v := ?vW39a_24) hops rdW39_23 rfl stW39_23 (Or.inl ⟨by kernel_rfl, ?hyW39a_24⟩) (by assumption) ?restW39a_24
                case hyW39a_24 => (intro w hSw; (try dsimp only at hSw); go_split_ands; go_simp; (try with_reducible rfl))
                try simp only [Act.put, List.setIfInBounds_toArray, List.set_cons_zero, List.set_cons_succ]
                refine wpAnyH_readyR (rs := [24]) hops rdW39_24 (by simp) (AllReadyH.consR rfl stW39_24 (fun K hK => ?_) AllReadyH.nil)
                go_simp
                refine hK.out _ _ (by first | with_reducible exact hSd | exact hSk.out _ (Ld.below hL8.out (bl_alloc (Below.refl _ _) _)).hB.drew) (fun hHeld => ?_)
                clear hK K
                try simp only [Act.put, List.setIfInBounds_toArray, List.set_cons_zero, List.set_cons_succ]
                refine wpAnyH_readyR (rs := [25]) hops rdW39_25 (by simp) (AllReadyH.consR rfl stW39_25 (fun K hK => ?_) AllReadyH.nil)
                refine step_app wR.heap.size rfl _ _ 98 102 (.agg #[.string ⟨#[]⟩, .int .i64 0, .int .i64 0, .int .i64 0, .string ⟨#[]⟩, .slice none 0 0, .slice none 0 0, .string ⟨#[]⟩]) 8 120 rfl Try.underlying98 info102 rfl (by decide) (by decide) u17 L.length xl rfl (own_below hxl.out (bl_alloc (Below.refl _ _) _).drew) (by show _ ≤ (w8.alloc _).heap.size; rw [World.size_alloc]; have := hL8.out.hB.size; omega) (some ⟨w8.heap.size, 0, none⟩) 1 1 [.string (fnN f), .int .i64 (j : Nat), .int .i64 pk, .int .i64 px, .string pnm, pva, pvb, .string (st pE)] rfl rfl (rd_new w8 [.string (fnN f), .int .i64 (j : Nat), .int .i64 pk, .int .i64 px, .string pnm, pva, pvb, .string (st pE)] 102) (fun e => by cases e) (to_one hpo.out.1 hpo.out.2) (by omega) ?_
                intro v9 w9 ho9 hb9 hg9 hat9
                replace hb9 : Below wR.heap.size wR w9 := (Ld.below hL8.out (bl_alloc (Below.refl _ _) _)).hB.drew.trans hb9
                have hto9 := Lib.hid (hxo.out.snoc (f := f) (j := j) (k := pk) (x := px) (nm := pnm) hxl.out.1 hpE.out hpn hpo.out.1 hpo.out.2)
                replace ho9 := Lib.hid ho9
                replace hg9 := Lib.hid hg9
                replace hat9 := Lib.hid hat9
                refine hK.out _ _ (by first | with_reducible exact hSd | exact hSk.out _ hb9) (fun hHeld => ?_)
                clear hK K
                try simp only [Act.put, List.setIfInBounds_toArray, List.set_cons_zero, List.set_cons_succ]
                refine wpAnyH_oneR (i := 26) (v := ?vW39a_25) hops rdW39_26 rfl stW39_26 (Or.inl ⟨by kernel_rfl, ?hyW39a_25⟩) (by assumption) ?restW39a_25
                case hyW39a_25 => (intro w hSw; (try dsimp only at hSw); go_split_ands; go_simp; (try with_reducible rfl))
                try simp only [Act.put, List.setIfInBounds_toArray, List.set_cons_zero, List.set_cons_succ]
                refine wpAnyH_doneR hops rdW39_27 ?_
                clear hSd
                go_wp2_with fail
                exact ⟨⟨j + 1, by go_num, by omega, Lib.hid (by rw [hLs.out]; exact ⟨hb9, _, (by simpa using ho9.out), hto9.out⟩)⟩, by simp [intOf]; omega⟩
              · have dfi : ((f : Int) == (i : Int)) = false := by simp; omega
                replace hfi := Lib.hid hfi
                go_upto_region 39 with (go_at_call 56; (with_reducible refine (hall.out _).mono ?_); rintro e w8 ⟨rfl, hb8⟩; have hL8 := Lib.hid (hLj.out.below hb8); replace he6 := bl_cell hb8 he6; replace hcpj := bl_cell hb8 hcpj; clear hb8)
                obtain ⟨xl, hxl, hxo⟩ := hL8.out.ex
                replace hxl := Lib.hid hxl
                replace hxo := Lib.hid hxo
                clear he6 hcpj
                have hSd : w8.drew.cell? (ad5.add k) = some (.string (fnN f)) ∧ w8.drew.cell? ⟨gp, f, none⟩ = some (.slice (some ⟨q, 0, none⟩) n7 c7) ∧ w8.drew.cell? ⟨q, j * 7, none⟩ = some (.int .i64 pk) ∧ w8.drew.cell? ⟨q, j * 7 + 1, none⟩ = some (.int .i64 px) ∧ w8.drew.cell? ⟨q, j * 7 + 2, none⟩ = some (.string pnm) ∧ w8.drew.cell? ⟨q, j * 7 + 3, none⟩ = some pva ∧ w8.drew.cell? ⟨q, j * 7 + 4, none⟩ = some pvb ∧ w8.drew.cell? ⟨q, j * 7 + 5, none⟩ = some (.int .i64 (j : Nat)) := hSk.out w8.drew hL8.out.hB.drew
                refine wp_region_heldR (S := fun w' => w'.cell? (ad5.add k) = some (.string (fnN f)) ∧ w'.cell? ⟨gp, f, none⟩ = some (.slice (some ⟨q, 0, none⟩) n7 c7) ∧ w'.cell? ⟨q, j * 7, none⟩ = some (.int .i64 pk) ∧ w'.cell? ⟨q, j * 7 + 1, none⟩ = some (.int .i64 px) ∧ w'.cell? ⟨q, j * 7 + 2, none⟩ = some (.string pnm) ∧ w'.cell? ⟨q, j * 7 + 3, none⟩ = some pva ∧ w'.cell? ⟨q, j * 7 + 4, none⟩ = some pvb ∧ w'.cell? ⟨q, j * 7 + 5, none⟩ = some (.int .i64 (j : Nat))) opsW39 _ (by kernel_rfl) liW39 (by kernel_rfl) nsW39 (hSd) (fun hops hns hHeld => ?_)
                refine wpAnyH_takeR (i := 0) (v := ?vW39b_1) hops hns rdW39_0 (by rfl) frW39_0 rfl (fun _ _ _ h => hQ.out _ _ _ _ _ h) stW39_0 (Or.inl ⟨by kernel_rfl, ?hyW39b_1⟩) (by assumption) ?restW39b_1
                case hyW39b_1 => (intro w hSw; (try dsimp only at hSw); go_split_ands; go_simp; (try with_reducible rfl))
                try simp only [Act.put, List.setIfInBounds_toArray, List.set_cons_zero, List.set_cons_succ]
                refine wpAnyH_takeR (i := 1) (v := ?vW39b_2) hops hns rdW39_1 (by rfl) frW39_1 rfl (fun _ _ _ h => hQ.out _ _ _ _ _ h) stW39_1 (Or.inl ⟨by kernel_rfl, ?hyW39b_2⟩) (by assumption) ?restW39b_2
                case hyW39b_2 => (intro w hSw; (try dsimp only at hSw); go_split_ands; go_simp; (try with_reducible rfl))
                try simp only [Act.put, List.setIfInBounds_toArray, List.set_cons_zero, List.set_cons_succ]
                refine wpAnyH_takeR (i := 2) (v := ?vW39b_3) hops hns rdW39_2 (by rfl) frW39_2 rfl (fun _ _ _ h => hQ.out _ _ _ _ _ h) stW39_2 (Or.inl ⟨by kernel_rfl, ?hyW39b_3⟩) (by assumption) ?restW39b_3
                case hyW39b_3 => (intro w hSw; (try dsimp only at hSw); go_split_ands; go_simp; (try with_reducible rfl))
                try simp only [Act.put, List.setIfInBounds_toArray, List.set_cons_zero, List.set_cons_succ]
                refine wpAnyH_takeR (i := 3) (v := ?vW39b_4) hops hns rdW39_3 (by rfl) frW39_3 rfl (fun _ _ _ h => hQ.out _ _ _ _ _ h) stW39_3 (Or.inl ⟨by kernel_rfl, ?hyW39b_4⟩) (by assumption) ?restW39b_4
                case hyW39b_4 => (intro w hSw; (try dsimp only at hSw); go_split_ands; go_simp; (try with_reducible rfl))
                try simp only [Act.put, List.setIfInBounds_toArray, List.set_cons_zero, List.set_cons_succ]
                refine wpAnyH_takeR (i := 4) (v := ?vW39b_5) hops hns rdW39_4 (by rfl) frW39_4 rfl (fun _ _ _ h => hQ.out _ _ _ _ _ h) stW39_4 (Or.inl ⟨by kernel_rfl, ?hyW39b_5⟩) (by assumption) ?restW39b_5
                case hyW39b_5 => (intro w hSw; (try dsimp only at hSw); go_split_ands; go_simp; (try with_reducible rfl))
                try simp only [Act.put, List.setIfInBounds_toArray, List.set_cons_zero, List.set_cons_succ]
                refine wpAnyH_takeR (i := 5) (v := ?vW39b_6) hops hns rdW39_5 (by rfl) frW39_5 rfl (fun _ _ _ h => hQ.out _ _ _ _ _ h) stW39_5 (Or.inl ⟨by kernel_rfl, ?hyW39b_6⟩) (by assumption) ?restW39b_6
                case hyW39b_6 => (intro w hSw; (try dsimp only at hSw); go_split_ands; go_simp; (try with_reducible rfl))
                try simp only [Act.put, List.setIfInBounds_toArray, List.set_cons_zero, List.set_cons_succ]
                refine wpAnyH_takeR (i := 6) (v := ?vW39b_7) hops hns rdW39_6 (by rfl) frW39_6 rfl (fun _ _ _ h => hQ.out _ _ _ _ _ h) stW39_6 (Or.inl ⟨by kernel_rfl, ?hyW39b_7⟩) (by assumption) ?restW39b_7
                case hyW39b_7 => (intro w hSw; (try dsimp only at hSw); go_split_ands; go_simp; (try with_reducible rfl))
                try simp only [Act.put, List.setIfInBounds_toArray, List.set_cons_zero, List.set_cons_succ]
                refine wpAnyH_takeR (i := 7) (v := ?vW39b_8) hops hns rdW39_7 (by rfl) frW39_7 rfl (fun _ _ _ h => hQ.out _ _ _ _ _ h) stW39_7 (Or.inl ⟨by kernel_rfl, ?hyW39b_8⟩) (by assumption) ?restW39b_8
                case hyW39b_8 => (intro w hSw; (try dsimp only at hSw); go_split_ands; go_simp; (try with_reducible rfl))
                try simp only [Act.put, List.setIfInBounds_toArray, List.set_cons_zero, List.set_cons_succ]
                refine wpAnyH_takeR (i := 8) (v := ?vW39b_9) hops hns rdW39_8 (by rfl) frW39_8 rfl (fun _ _ _ h => hQ.out _ _ _ _ _ h) stW39_8 (Or.inl ⟨by kernel_rfl, ?hyW39b_9⟩) (by assumption) ?restW39b_9
                case hyW39b_9 => (intro w hSw; (try dsimp only at hSw); go_split_ands; go_simp; (try with_reducible rfl))
                try simp only [Act.put, List.setIfInBounds_toArray, List.set_cons_zero, List.set_cons_succ]
                refine wpAnyH_takeR (i := 9) (v := ?vW39b_10) hops hns rdW39_9 (by rfl) frW39_9 rfl (fun _ _ _ h => hQ.out _ _ _ _ _ h) stW39_9 (Or.inl ⟨by kernel_rfl, ?hyW39b_10⟩) (by assumption) ?restW39b_10
                case hyW39b_10 => (intro w hSw; (try dsimp only at hSw); go_split_ands; go_simp; (try with_reducible rfl))
                try simp only [Act.put, List.setIfInBounds_toArray, List.set_cons_zero, List.set_cons_succ]
                refine wpAnyH_takeR (i := 10) (v := ?vW39b_11) hops hns rdW39_10 (by rfl) frW39_10 rfl (fun _ _ _ h => hQ.out _ _ _ _ _ h) stW39_10 (Or.inl ⟨by kernel_rfl, ?hyW39b_11⟩) (by assumption) ?restW39b_11
                case hyW39b_11 => (intro w hSw; (try dsimp only at hSw); go_split_ands; go_simp; (try with_reducible rfl))
                try simp only [Act.put, List.setIfInBounds_toArray, List.set_cons_zero, List.set_cons_succ]
                refine wpAnyH_takeR (i := 11) (v := ?vW39b_12) hops hns rdW39_11 (by rfl) frW39_11 rfl (fun _ _ _ h => hQ.out _ _ _ _ _ h) stW39_11 (Or.inl ⟨by kernel_rfl, ?hyW39b_12⟩) (by assumption) ?restW39b_12
                case hyW39b_12 => (intro w hSw; (try dsimp only at hSw); go_split_ands; go_simp; (try with_reducible rfl))
                try simp only [Act.put, List.setIfInBounds_toArray, List.set_cons_zero, List.set_cons_succ]
                refine wpAnyH_takeR (i := 12) (v := ?vW39b_13) hops hns rdW39_12 (by rfl) frW39_12 rfl (fun _ _ _ h => hQ.out _ _ _ _ _ h) stW39_12 (Or.inl ⟨by kernel_rfl, ?hyW39b_13⟩) (by assumption) ?restW39b_13
                case hyW39b_13 => (intro w hSw; (try dsimp only at hSw); go_split_ands; go_simp; (try with_reducible rfl))
                try simp only [Act.put, List.setIfInBounds_toArray, List.set_cons_zero, List.set_cons_succ]
                refine wpAnyH_takeR (i := 13) (v := ?vW39b_14) hops hns rdW39_13 (by rfl) frW39_13 rfl (fun _ _ _ h => hQ.out _ _ _ _ _ h) stW39_13 (Or.inl ⟨by kernel_rfl, ?hyW39b_14⟩) (by assumption) ?restW39b_14
                case hyW39b_14 => (intro w hSw; (try dsimp only at hSw); go_split_ands; go_simp; (try with_reducible rfl))
                try simp only [Act.put, List.setIfInBounds_toArray, List.set_cons_zero, List.set_cons_succ]
                refine wpAnyH_takeR (i := 14) (v := ?vW39b_15) hops hns rdW39_14 (by rfl) frW39_14 rfl (fun _ _ _ h => hQ.out _ _ _ _ _ h) stW39_14 (Or.inl ⟨by kernel_rfl, ?hyW39b_15⟩) (by assumption) ?restW39b_15
                case hyW39b_15 => (intro w hSw; (try dsimp only at hSw); go_split_ands; go_simp; (try with_reducible rfl))
                try simp only [Act.put, List.setIfInBounds_toArray, List.set_cons_zero, List.set_cons_succ]
                refine wpAnyH_takeR (i := 15) (v := ?vW39b_16) hops hns rdW39_15 (by rfl) frW39_15 rfl (fun _ _ _ h => hQ.out _ _ _ _ _ h) stW39_15 (Or.inl ⟨by kernel_rfl, ?hyW39b_16⟩) (by assumption) ?restW39b_16
                case hyW39b_16 => (intro w hSw; (try dsimp only at hSw); go_split_ands; go_simp; (try with_reducible rfl))
                try simp only [Act.put, List.setIfInBounds_toArray, List.set_cons_zero, List.set_cons_succ]
                refine wpAnyH_takeR (i := 16) (v := ?vW39b_17) hops hns rdW39_16 (by rfl) frW39_16 rfl (fun _ _ _ h => hQ.out _ _ _ _ _ h) stW39_16 (Or.inl ⟨by kernel_rfl, ?hyW39b_17⟩) (by assumption) ?restW39b_17
                case hyW39b_17 => (intro w hSw; (try dsimp only at hSw); go_split_ands; go_simp; (try with_reducible rfl))
                try simp only [Act.put, List.setIfInBounds_toArray, List.set_cons_zero, List.set_cons_succ]
                refine wpAnyH_takeR (i := 17) (v := ?vW39b_18) hops hns rdW39_17 (by rfl) frW39_17 rfl (fun _ _ _ h => hQ.out _ _ _ _ _ h) stW39_17 (Or.inl ⟨by kernel_rfl, ?hyW39b_18⟩) (by assumption) ?restW39b_18
                case hyW39b_18 => (intro w hSw; (try dsimp only at hSw); go_split_ands; go_simp; (try with_reducible rfl))
                try simp only [Act.put, List.setIfInBounds_toArray, List.set_cons_zero, List.set_cons_succ]
                refine wpAnyH_takeR (i := 18) (v := ?vW39b_19) hops hns rdW39_18 (by rfl) frW39_18 rfl (fun _ _ _ h => hQ.out _ _ _ _ _ h) stW39_18 (Or.inl ⟨by kernel_rfl, ?hyW39b_19⟩) (by assumption) ?restW39b_19
                case hyW39b_19 => (intro w hSw; (try dsimp only at hSw); go_split_ands; go_simp; (try with_reducible rfl))
                try simp only [Act.put, List.setIfInBounds_toArray, List.set_cons_zero, List.set_cons_succ]
                refine wpAnyH_takeR (i := 19) (v := ?vW39b_20) hops hns rdW39_19 (by rfl) frW39_19 rfl (fun _ _ _ h => hQ.out _ _ _ _ _ h) stW39_19 (Or.inl ⟨by kernel_rfl, ?hyW39b_20⟩) (by assumption) ?restW39b_20
                case hyW39b_20 => (intro w hSw; (try dsimp only at hSw); go_split_ands; go_simp; (try with_reducible rfl))
                try simp only [Act.put, List.setIfInBounds_toArray, List.set_cons_zero, List.set_cons_succ]
                refine wpAnyH_takeR (i := 20) (v := ?vW39b_21) hops hns rdW39_20 (by rfl) frW39_20 rfl (fun _ _ _ h => hQ.out _ _ _ _ _ h) stW39_20 (Or.inl ⟨by kernel_rfl, ?hyW39b_21⟩) (by assumption) ?restW39b_21
                case hyW39b_21 => (intro w hSw; (try dsimp only at hSw); go_split_ands; go_simp; (try with_reducible rfl))
                try simp only [Act.put, List.setIfInBounds_toArray, List.set_cons_zero, List.set_cons_succ]
                refine wpAnyH_takeR (i := 21) (v := ?vW39b_22) hops hns rdW39_21 (by rfl) frW39_21 rfl (fun _ _ _ h => hQ.out _ _ _ _ _ h) stW39_21 (Or.inl ⟨by kernel_rfl, ?hyW39b_22⟩) (by assumption) ?restW39b_22
                case hyW39b_22 => (intro w hSw; (try dsimp only at hSw); go_split_ands; go_simp; (try with_reducible rfl))
                try simp only [Act.put, List.setIfInBounds_toArray, List.set_cons_zero, List.set_cons_succ]
                refine wpAnyH_oneR (i := 22) (v := ?vW39b_23) hops rdW39_22 rfl stW39_22 (Or.inl ⟨by kernel_rfl, ?hyW39b_23⟩) (by assumption) ?restW39b_23
                case hyW39b_23 => (intro w hSw; (try dsimp only at hSw); go_split_ands; go_simp; (try with_reducible rfl))
                try simp only [Act.put, List.setIfInBounds_toArray, List.set_cons_zero, List.set_cons_succ]
                refine wpAnyH_oneR (i := 23) (v := ?vW39b_24) hops rdW39_23 rfl stW39_23 (Or.inl ⟨by kernel_rfl, ?hyW39b_24⟩) (by assumption) ?restW39b_24
                case hyW39b_24 => (intro w hSw; (try dsimp only at hSw); go_split_ands; go_simp; (try with_reducible rfl))
                try simp only [Act.put, List.setIfInBounds_toArray, List.set_cons_zero, List.set_cons_succ]
                refine wpAnyH_readyR (rs := [24]) hops rdW39_24 (by simp) (AllReadyH.consR rfl stW39_24 (fun K hK => ?_) AllReadyH.nil)
                go_simp
                refine hK.out _ _ (by first | with_reducible exact hSd | exact hSk.out _ (Ld.below hL8.out (bl_alloc (Below.refl _ _) _)).hB.drew) (fun hHeld => ?_)
                clear hK K
                try simp only [Act.put, List.setIfInBounds_toArray, List.set_cons_zero, List.set_cons_succ]
                refine wpAnyH_readyR (rs := [25]) hops rdW39_25 (by simp) (AllReadyH.consR rfl stW39_25 (fun K hK => ?_) AllReadyH.nil)
                refine step_app wR.heap.size rfl _ _ 98 102 (.agg #[.string ⟨#[]⟩, .int .i64 0, .int .i64 0, .int .i64 0, .string ⟨#[]⟩, .slice none 0 0, .slice none 0 0, .string ⟨#[]⟩]) 8 120 rfl Try.underlying98 info102 rfl (by decide) (by decide) u17 L.length xl rfl (own_below hxl.out (bl_alloc (Below.refl _ _) _).drew) (by show _ ≤ (w8.alloc _).heap.size; rw [World.size_alloc]; have := hL8.out.hB.size; omega) (some ⟨w8.heap.size, 0, none⟩) 1 1 [.string (fnN f), .int .i64 (j : Nat), .int .i64 pk, .int .i64 px, .string pnm, pva, pvb, .string (st tp)] rfl rfl (rd_new w8 [.string (fnN f), .int .i64 (j : Nat), .int .i64 pk, .int .i64 px, .string pnm, pva, pvb, .string (st tp)] 102) (fun e => by cases e) (to_one hpo.out.1 hpo.out.2) (by omega) ?_
                intro v9 w9 ho9 hb9 hg9 hat9
                replace hb9 : Below wR.heap.size wR w9 := (Ld.below hL8.out (bl_alloc (Below.refl _ _) _)).hB.drew.trans hb9
                have hto9 := Lib.hid (hxo.out.snoc (f := f) (j := j) (k := pk) (x := px) (nm := pnm) hxl.out.1 htp.out hpn hpo.out.1 hpo.out.2)
                replace ho9 := Lib.hid ho9
                replace hg9 := Lib.hid hg9
                replace hat9 := Lib.hid hat9
                refine hK.out _ _ (by first | with_reducible exact hSd | exact hSk.out _ hb9) (fun hHeld => ?_)
                clear hK K
                try simp only [Act.put, List.setIfInBounds_toArray, List.set_cons_zero, List.set_cons_succ]
                refine wpAnyH_oneR (i := 26) (v := ?vW39b_25) hops rdW39_26 rfl stW39_26 (Or.inl ⟨by kernel_rfl, ?hyW39b_25⟩) (by assumption) ?restW39b_25
                case hyW39b_25 => (intro w hSw; (try dsimp only at hSw); go_split_ands; go_simp; (try with_reducible rfl))
                try simp only [Act.put, List.setIfInBounds_toArray, List.set_cons_zero, List.set_cons_succ]
                refine wpAnyH_doneR hops rdW39_27 ?_
                clear hSd
                go_wp2_with fail
                exact ⟨⟨j + 1, by go_num, by omega, Lib.hid (by rw [hLs.out]; exact ⟨hb9, _, (by simpa using ho9.out), hto9.out⟩)⟩, by simp [intOf]; omega⟩
            · have hjn7 : j = n7 := by omega
              subst hjn7
              have d3 : decide ((j : Int) < (j : Int)) = false := by simp
              go_wp2_with fail
              exact ⟨⟨k + 1, by go_num, by omega, Lib.hid (by rw [hstep.out]; exact hLj.out)⟩, by simp [intOf]; omega⟩
        · have hkm' : k = m := by omega
          subst hkm'
          have d2 : decide ((k : Int) < (k : Int)) = false := by simp
          have hLt : Hid (Ld wR wk u17 (tl bs vl.length)) := Lib.hid (by rw [hvl.out, ← tlK_all, ← hm.out]; exact hL.out)
          have hAk := Lib.hid (hAR.out.below hL.out.hB)
          obtain ⟨A8, n8, c8, rfl⟩ : ∃ A n c, u17 = .slice A n c := by
            obtain ⟨xl, hxl, -⟩ := hL.out.ex
            obtain ⟨A, c, e, -⟩ := Rd.own hxl
            exact ⟨A, _, c, e⟩
          have hvl4 : vl.length ≤ 4 := by have := hvl.out; omega
          go_wp2_with (at_builtin; refine app_lit (w0 := W) W.heap.size rfl _ _ 95 98 (.slice none 0 0) 1 24 rfl Try.underlying95 info98 rfl (by decide) (by decide) u15 vl.length vl rfl hAk.out.oa hAk.out.hB hAk.out.hB.size 1 1 [.slice A8 n8 c8] rfl rfl (by simp [Value.oneCell']) (by omega) ?_; intro v9 w9 o9 b9 g9 a9; replace o9 := Lib.hid o9; replace b9 := Lib.hid b9; replace g9 := Lib.hid g9; replace a9 := Lib.hid a9)
          exact ⟨⟨i + 1, vl ++ [.slice A8 n8 c8], by go_num, by omega, Lib.hid (by simp [hvl.out]), Lib.hid (hAR.out.grow (Below.refl _ _) hLt.out o9.out b9.out g9.out a9.out)⟩, by simp [intOf]; omega⟩
    · have hi4 : i = 4 := by omega
      subst hi4
      have d1 : decide (((4 : Nat) : Int) < 4) = false := by decide
      go_wp2_with fail
      exact hexit.out _ _ _ _ _ _ _ _ _ _ _ _ _ _ _ _ _ _ _ _ _ _ _ _ _ _ _ _ _ _ _ _ _ _ _ _ _ _ _ _ _ _ _ _ _ _ _ _ _ _ _ _ _ _ _ _ _ _ _ _ _ _ _ _ _ _ _ _ _ _ _ _ _ _ _ _ _ _ _ _ _ _ _ _ _ _ _ _ _ (Lib.hid ⟨vl, hvl.out, hA.out⟩)
end Go.Proofs.Ytdhklfbelplbcaa
