/-
  whole, block 12: the states ahead of all Sites, till nothing changes.
-/
import Derived.Test.YtdhklfbelplbcaaZ30
namespace Go.Proofs.Ytdhklfbelplbcaa
set_option linter.unusedVariables false
set_option linter.unusedSimpArgs false
open Go.RowKit
set_option maxHeartbeats 64000000 in
set_option maxRecDepth 100000 in
theorem whole_b12 (W0 : World) (bx g1 g2 n0 c0 gp cp ga ca : Nat) (A0 : Option Addr) (most : Bool) (bs : Nat → St) (vl : List Value) (Es0 : Nat → Nat → List Int) (sl0 sl3 sl4 sl5 sl6 sl7 sl8 sl10 sl11 sl12 sl13 sl14 sl16 sl17 sl18 sl19 sl20 sl21 sl22 sl24 sl25 sl26 sl27 sl28 sl29 sl30 sl31 sl32 sl33 sl34 sl35 sl36 sl37 sl38 sl39 sl40 sl41 sl42 sl43 sl44 sl45 sl46 sl47 sl48 sl49 sl50 sl51 sl52 sl53 sl54 sl55 sl56 sl57 sl58 sl59 sl60 sl61 sl62 sl63 sl64 sl65 sl66 sl67 sl68 sl69 sl70 sl71 sl72 sl73 sl74 sl75 sl76 sl77 sl78 sl79 sl80 sl81 sl82 sl83 sl84 sl85 sl86 sl87 sl88 sl89 sl90 sl91 sl92 sl93 sl94 sl95 sl96 sl97 sl98 sl99 sl100 sl101 sl102 sl103 sl104 sl105 sl106 sl107 sl108 sl109 sl110 sl111 sl112 sl113 sl114 sl115 sl116 sl117 sl118 sl119 sl120 sl121 sl122 sl123 sl124 sl125 sl126 sl127 sl128 sl129 sl130 sl131 sl132 sl133 sl134 sl135 sl136 sl137 sl138 sl139 sl140 sl141 sl142 sl143 sl144 sl145 sl146 sl147 sl148 sl149 sl150 sl151 sl152 sl153 sl154 sl155 sl156 sl157 sl158 sl159 sl160 sl161 sl162 sl163 sl164 sl165 sl166 sl167 sl168 sl169 sl170 sl171 sl172 sl173 sl174 sl175 sl176 sl177 sl178 sl179 sl180 sl181 sl182 sl183 sl184 sl185 sl186 sl187 sl188 sl189 sl190 sl191 sl192 sl193 sl194 sl195 sl196 sl197 sl198 sl199 sl200 sl201 sl202 sl203 sl204 sl205 sl206 sl207 sl208 sl209 sl210 sl211 sl212 sl213 sl214 sl215 sl216 sl217 sl218 sl219 sl220 sl221 sl222 sl223 sl224 sl225 sl226 sl227 sl228 sl229 sl230 sl231 sl232 sl233 sl234 sl235 sl236 sl237 sl238 sl239 sl240 sl241 sl242 sl243 sl244 sl245 sl246 sl247 sl248 sl249 sl250 sl251 sl252 sl253 sl254 sl255 sl256 sl257 sl258 sl259 sl260 sl261 sl262 sl263 sl264 sl265 sl266 sl267 sl268 sl269 sl270 sl271 sl272 sl273 sl274 sl275 sl276 sl277 sl278 sl279 sl280 : Value) (W : World) (Q : Exit → Act → World → Prop) (hbx : Hid (W0.heap[bx]? = some (.cells #[.slice A0 n0 c0, .slice (some ⟨g1, 0, none⟩) 3 3, .slice (some ⟨g2, 0, none⟩) 4 4] 40 (0, 0)))) (hpr : Hid (PrOk W0.cell? (.agg #[.slice A0 n0 c0, .slice (some ⟨g1, 0, none⟩) 3 3, .slice (some ⟨g2, 0, none⟩) 4 4]) bs)) (hok : Hid (∀ j, j < 4 → StOk (bs j))) (hcnt : Hid (∀ j, j < 4 → (bs j).cnt ≤ 200)) (hpt : Hid (∀ j, j < 4 → ∃ A c xs, W0.cell? ⟨gp, j, none⟩ = some (.slice A (ptsN (bs j)) c) ∧ ptsN (bs j) ≤ c ∧ c ≤ 9223372036854775807 ∧ Rd W0 A xs ∧ xs.length = ptsN (bs j) * 7 ∧ PtsOk (bs j) xs (ptsN (bs j)) ∧ ∀ a, A = some a → a = ⟨a.block, 0, none⟩)) (hF0 : Hid (FxS W0 W bs ga ca vl Es0))
    (hQ : Hid (∀ (c : _) (a : Act) (d : Option Tmp) (v : Value) (w : World), Q (.panic c) (a.put d v) w → Q (.panic c) a w)) (hexit : Hid (∀ (u23 u24 u25 u26 u27 u28 u29 u30 u171 u172 u173 u174 u175 u176 u177 u178 u179 u180 u181 u182 u183 u184 u185 u186 u187 u188 u189 u190 u191 u192 u193 u194 u195 u196 u197 u198 u199 u200 u201 u202 u203 u204 u205 u206 u207 u208 u209 u210 u211 u212 u213 u214 u215 u216 u217 u218 u219 u220 u221 u222 u223 u224 u225 u226 u227 u228 u229 u230 u231 u232 u233 u234 u235 u236 u237 u238 u239 u240 u241 u242 u243 u244 u245 u246 u247 u248 u249 u250 u251 u252 u253 u254 u255 u256 u257 u258 u259 u260 u261 u262 u263 u264 u265 u266 u267 u268 u269 u270 u271 u272 u273 u274 u275 u276 u277 u278 : Value) (W' : World), Hid (∃ Es, FxS W0 W' bs ga ca vl Es) → Q .normal ⟨#[sl0, .bool most, .pointer (some ⟨bx, 0, none⟩), sl3, sl4, sl5, sl6, sl7, sl8, .slice (some ⟨gp, 0, none⟩) 4 cp, sl10, sl11, sl12, sl13, sl14, .slice (some ⟨ga, 0, none⟩) 4 ca, sl16, sl17, sl18, sl19, sl20, sl21, sl22, u23, u24, u25, u26, u27, u28, u29, u30, sl31, sl32, sl33, sl34, sl35, sl36, sl37, sl38, sl39, sl40, sl41, sl42, sl43, sl44, sl45, sl46, sl47, sl48, sl49, sl50, sl51, sl52, sl53, sl54, sl55, sl56, sl57, sl58, sl59, sl60, sl61, sl62, sl63, sl64, sl65, sl66, sl67, sl68, sl69, sl70, sl71, sl72, sl73, sl74, sl75, sl76, sl77, sl78, sl79, sl80, sl81, sl82, sl83, sl84, sl85, sl86, sl87, sl88, sl89, sl90, sl91, sl92, sl93, sl94, sl95, sl96, sl97, sl98, sl99, sl100, sl101, sl102, sl103, sl104, sl105, sl106, sl107, sl108, sl109, sl110, sl111, sl112, sl113, sl114, sl115, sl116, sl117, sl118, sl119, sl120, sl121, sl122, sl123, sl124, sl125, sl126, sl127, sl128, sl129, sl130, sl131, sl132, sl133, sl134, sl135, sl136, sl137, sl138, sl139, sl140, sl141, sl142, sl143, sl144, sl145, sl146, sl147, sl148, sl149, sl150, sl151, sl152, sl153, sl154, sl155, sl156, sl157, sl158, sl159, sl160, sl161, sl162, sl163, sl164, sl165, sl166, sl167, sl168, sl169, sl170, u171, u172, u173, u174, u175, u176, u177, u178, u179, u180, u181, u182, u183, u184, u185, u186, u187, u188, u189, u190, u191, u192, u193, u194, u195, u196, u197, u198, u199, u200, u201, u202, u203, u204, u205, u206, u207, u208, u209, u210, u211, u212, u213, u214, u215, u216, u217, u218, u219, u220, u221, u222, u223, u224, u225, u226, u227, u228, u229, u230, u231, u232, u233, u234, u235, u236, u237, u238, u239, u240, u241, u242, u243, u244, u245, u246, u247, u248, u249, u250, u251, u252, u253, u254, u255, u256, u257, u258, u259, u260, u261, u262, u263, u264, u265, u266, u267, u268, u269, u270, u271, u272, u273, u274, u275, u276, u277, u278, sl279, sl280], []⟩ W')) :
    (blkIn 12 Try.f43).wp Try.prog Q ⟨#[sl0, .bool most, .pointer (some ⟨bx, 0, none⟩), sl3, sl4, sl5, sl6, sl7, sl8, .slice (some ⟨gp, 0, none⟩) 4 cp, sl10, sl11, sl12, sl13, sl14, .slice (some ⟨ga, 0, none⟩) 4 ca, sl16, sl17, sl18, sl19, sl20, sl21, sl22, .bool true, sl24, sl25, sl26, sl27, sl28, sl29, sl30, sl31, sl32, sl33, sl34, sl35, sl36, sl37, sl38, sl39, sl40, sl41, sl42, sl43, sl44, sl45, sl46, sl47, sl48, sl49, sl50, sl51, sl52, sl53, sl54, sl55, sl56, sl57, sl58, sl59, sl60, sl61, sl62, sl63, sl64, sl65, sl66, sl67, sl68, sl69, sl70, sl71, sl72, sl73, sl74, sl75, sl76, sl77, sl78, sl79, sl80, sl81, sl82, sl83, sl84, sl85, sl86, sl87, sl88, sl89, sl90, sl91, sl92, sl93, sl94, sl95, sl96, sl97, sl98, sl99, sl100, sl101, sl102, sl103, sl104, sl105, sl106, sl107, sl108, sl109, sl110, sl111, sl112, sl113, sl114, sl115, sl116, sl117, sl118, sl119, sl120, sl121, sl122, sl123, sl124, sl125, sl126, sl127, sl128, sl129, sl130, sl131, sl132, sl133, sl134, sl135, sl136, sl137, sl138, sl139, sl140, sl141, sl142, sl143, sl144, sl145, sl146, sl147, sl148, sl149, sl150, sl151, sl152, sl153, sl154, sl155, sl156, sl157, sl158, sl159, sl160, sl161, sl162, sl163, sl164, sl165, sl166, sl167, sl168, sl169, sl170, sl171, sl172, sl173, sl174, sl175, sl176, sl177, sl178, sl179, sl180, sl181, sl182, sl183, sl184, sl185, sl186, sl187, sl188, sl189, sl190, sl191, sl192, sl193, sl194, sl195, sl196, sl197, sl198, sl199, sl200, sl201, sl202, sl203, sl204, sl205, sl206, sl207, sl208, sl209, sl210, sl211, sl212, sl213, sl214, sl215, sl216, sl217, sl218, sl219, sl220, sl221, sl222, sl223, sl224, sl225, sl226, sl227, sl228, sl229, sl230, sl231, sl232, sl233, sl234, sl235, sl236, sl237, sl238, sl239, sl240, sl241, sl242, sl243, sl244, sl245, sl246, sl247, sl248, sl249, sl250, sl251, sl252, sl253, sl254, sl255, sl256, sl257, sl258, sl259, sl260, sl261, sl262, sl263, sl264, sl265, sl266, sl267, sl268, sl269, sl270, sl271, sl272, sl273, sl274, sl275, sl276, sl277, sl278, sl279, sl280], []⟩ W := by
  conv => arg 2; whnf
  go_wp2_with fail
  go_loopg [23] (2 * mu2 most bs Es0 + 1) (fun k v23 wr => ∃ (Es : Nat → Nat → List Int) (ag : Bool), v23 = .bool ag ∧ k = 2 * mu2 most bs Es + (if ag then 1 else 0) ∧ Hid (FxS W0 wr bs ga ca vl Es))
  case atStart => exact ⟨Es0, true, rfl, rfl, hF0⟩
  case round =>
    obtain ⟨Es1, ag0, rfl, hgk, hF1⟩ := hrel
    cases ag0 with
    | false =>
      clear hgk
      go_wp2_with fail
      exact hexit.out _ _ _ _ _ _ _ _ _ _ _ _ _ _ _ _ _ _ _ _ _ _ _ _ _ _ _ _ _ _ _ _ _ _ _ _ _ _ _ _ _ _ _ _ _ _ _ _ _ _ _ _ _ _ _ _ _ _ _ _ _ _ _ _ _ _ _ _ _ _ _ _ _ _ _ _ _ _ _ _ _ _ _ _ _ _ _ _ _ _ _ _ _ _ _ _ _ _ _ _ _ _ _ _ _ _ _ _ _ _ _ _ _ _ _ _ _ (Lib.hid ⟨Es1, hF1.out⟩)
    | true =>
      have hgk' : Hid (gk = 2 * mu2 most bs Es1 + 1) := Lib.hid (by simpa using hgk)
      clear hgk
      obtain ⟨wq, rfl⟩ : ∃ x, x = wr := ⟨_, rfl⟩
      go_wp2_with fail
      go_loopw [23, 24] (fun v23 v24 wr => ∃ (Es : Nat → Nat → List Int) (ag : Bool) (i : Nat), v23 = .bool ag ∧ v24 = .int .i64 (i : Nat) ∧ i ≤ 4 ∧ Hid (FxS W0 wr bs ga ca vl Es) ∧ Hid (mu2 most bs Es ≤ mu2 most bs Es1 ∧ (ag = true → mu2 most bs Es < mu2 most bs Es1))) (fun _ v _ => 4 - (intOf v).toNat)
      case atStart => exact ⟨Es1, false, 0, rfl, rfl, by omega, hF1, Lib.hid ⟨Nat.le_refl _, (fun h => by cases h)⟩⟩
      case round =>
        obtain ⟨wi, rfl⟩ : ∃ x, x = wr := ⟨_, rfl⟩
        obtain ⟨Es2, ag2, i, rfl, rfl, hi, hF2, hmu2⟩ := hrel
        have y2i := bl_cell hF2.out.hB (show W0.cell? ⟨bx, 2, none⟩ = some (.slice (some ⟨g2, 0, none⟩) 4 4) by rw [cell_of_row _ _ 2 _ 40 (0, 0) hbx.out]; rfl)
        by_cases hlt : i < 4
        · have d1 : decide ((i : Int) < 4) = true := by simp; omega
          have i1 : (0 : Int) ≤ (i : Int) := by omega
          have i2 : (i : Int) < 4 := by omega
          obtain ⟨A7, c7, x7, hc7a, hc7b, hc7c, hr7, hx7, hp7, ha7⟩ := hpt.out i hlt
          have hc7i := bl_cell hF2.out.hB hc7a
          have hpf := ptsN_le (bs i)
          have hcf := hcnt.out i hlt
          replace hp7 := Lib.hid hp7
          replace ha7 := Lib.hid ha7
          replace hx7 := Lib.hid hx7
          replace hr7 := Lib.hid hr7
          obtain ⟨n7, hn7⟩ : ∃ n, n = ptsN (bs i) := ⟨_, rfl⟩
          rw [← hn7] at hc7b hc7a hc7i hpf hx7 hp7
          replace hn7 := Lib.hid hn7
          go_wp2_with fail
          go_loopw [23, 25] (fun v23 v25 wr => ∃ (Es : Nat → Nat → List Int) (ag : Bool) (c : Nat), v23 = .bool ag ∧ v25 = .int .i64 (c : Nat) ∧ c ≤ n7 ∧ Hid (FxS W0 wr bs ga ca vl Es) ∧ Hid (mu2 most bs Es ≤ mu2 most bs Es1 ∧ (ag = true → mu2 most bs Es < mu2 most bs Es1))) (fun _ v _ => n7 - (intOf v).toNat)
          case atStart => exact ⟨Es2, ag2, 0, rfl, rfl, Nat.zero_le _, hF2, hmu2⟩
          case round =>
            obtain ⟨wc, rfl⟩ : ∃ x, x = wr := ⟨_, rfl⟩
            obtain ⟨Es3, ag3, c, rfl, rfl, hc, hF3, hmu3⟩ := hrel
            have hcpc := bl_cell hF3.out.hB hc7a
            clear hc7i y2i
            by_cases hcn : c < n7
            · have d2 : decide ((c : Int) < (n7 : Int)) = true := by simp; omega
              have j1 : (0 : Int) ≤ (c : Int) := by omega
              have j2 : (c : Int) < (n7 : Int) := by omega
              obtain ⟨q, rfl⟩ : ∃ q, A7 = some ⟨q, 0, none⟩ := by
                obtain ⟨ad, e1, -⟩ := hr7.out (c * 7) (by rw [hx7.out]; omega)
                exact ⟨ad.block, by rw [e1, ← ha7.out ad e1]⟩
              obtain ⟨pk, px, pnm, pva, pvb, pE, e0, -, e2, -, -, -, e6, hpE, -, hpk, -, -⟩ := hp7.out c hcn
              have hat : ∀ o v, x7[c * 7 + o]? = some v → W0.cell? ⟨q, c * 7 + o, none⟩ = some v := fun o v h => by
                have := hr7.out.cells _ v h
                rwa [add_plain] at this
              have q0 : W0.cell? ⟨q, c * 7, none⟩ = some (.int .i64 pk) := hat 0 _ e0
              have q2 := hat 2 _ e2
              have q6 := hat 6 _ e6
              have q0c := bl_cell hF3.out.hB q0
              replace hpE := Lib.hid hpE
              clear e0 e2 e6 hat
              by_cases hk5 : pk = 5
              · subst hk5
                obtain ⟨hfn, hins⟩ := hpk rfl
                have hsub := Lib.hid (tl_sub bs (reach_call bs hok.out hlt hins hfn))
                obtain ⟨f, hf, rfl⟩ := hfn
                have hfx : fnIx (fnN f) = f := by
                  have h1 := fnIx_fn (s := fnN f) ⟨f, hf, rfl⟩
                  have h2 := fnN_eq (fnIx_lt (fnN f)) hf
                  rw [h1] at h2
                  simpa using h2.symm
                rw [hfx] at hsub
                replace hfx := Lib.hid hfx
                obtain ⟨Af, cf, hcfc, hvlf⟩ := hF3.out.sl hf
                obtain ⟨nf, hnf⟩ : ∃ n, n = (tl bs f).length := ⟨_, rfl⟩
                have hnfb := tl_len bs hok.out hcnt.out hf
                rw [← hnf] at hcfc hvlf hnfb
                replace hnf := Lib.hid hnf
                replace hvlf := Lib.hid hvlf
                have f1 : (0 : Int) ≤ (f : Int) := by omega
                have f2 : (f : Int) < 4 := by omega
                clear hpk hins
                have hfi : Hid (∀ w', Below wc.heap.size wc w' → Calls Try.prog 53 #[(.agg #[.slice A0 n0 c0, .slice (some ⟨g1, 0, none⟩) 3 3, .slice (some ⟨g2, 0, none⟩) 4 4]), .string (fnN f)] w' fun e w'' => e = .returned (.int .i64 (f : Nat)) ∧ Below w'.heap.size w' w'') := Lib.hid (fun w' hb => find_any (.agg #[.slice A0 n0 c0, .slice (some ⟨g1, 0, none⟩) 3 3, .slice (some ⟨g2, 0, none⟩) 4 4]) bs f hf w' (hpr.out.mono (cell_le (bl_then hF3.out.hB hF3.out.hB.size hb))))
                have hSk : Hid (∀ w', Below wc.heap.size wc w' → (w'.cell? ⟨bx, 0, none⟩ = some (.slice A0 n0 c0) ∧ w'.cell? ⟨bx, 1, none⟩ = some (.slice (some ⟨g1, 0, none⟩) 3 3) ∧ w'.cell? ⟨bx, 2, none⟩ = some (.slice (some ⟨g2, 0, none⟩) 4 4) ∧ w'.cell? ⟨gp, i, none⟩ = some (.slice (some ⟨q, 0, none⟩) n7 c7) ∧ w'.cell? ⟨q, c * 7 + 2, none⟩ = some (.string (fnN f)) ∧ w'.cell? ⟨ga, f, none⟩ = some (.slice Af nf cf))) := Lib.hid (fun w' hb => ⟨bl_cell hb (bl_cell hF3.out.hB (by rw [cell_of_row _ _ 0 _ 40 (0, 0) hbx.out]; rfl)), bl_cell hb (bl_cell hF3.out.hB (by rw [cell_of_row _ _ 1 _ 40 (0, 0) hbx.out]; rfl)), bl_cell hb (bl_cell hF3.out.hB (by rw [cell_of_row _ _ 2 _ 40 (0, 0) hbx.out]; rfl)), bl_cell hb hcpc, bl_cell hb (bl_cell hF3.out.hB q2), bl_cell hb hcfc⟩)
                have hSd : wc.drew.cell? ⟨bx, 0, none⟩ = some (.slice A0 n0 c0) ∧ wc.drew.cell? ⟨bx, 1, none⟩ = some (.slice (some ⟨g1, 0, none⟩) 3 3) ∧ wc.drew.cell? ⟨bx, 2, none⟩ = some (.slice (some ⟨g2, 0, none⟩) 4 4) ∧ wc.drew.cell? ⟨gp, i, none⟩ = some (.slice (some ⟨q, 0, none⟩) n7 c7) ∧ wc.drew.cell? ⟨q, c * 7 + 2, none⟩ = some (.string (fnN f)) ∧ wc.drew.cell? ⟨ga, f, none⟩ = some (.slice Af nf cf) := hSk.out _ (Below.refl _ _).drew
                go_upto_region 51 with fail
                refine wp_region_heldR (S := fun w' => w'.cell? ⟨bx, 0, none⟩ = some (.slice A0 n0 c0) ∧ w'.cell? ⟨bx, 1, none⟩ = some (.slice (some ⟨g1, 0, none⟩) 3 3) ∧ w'.cell? ⟨bx, 2, none⟩ = some (.slice (some ⟨g2, 0, none⟩) 4 4) ∧ w'.cell? ⟨gp, i, none⟩ = some (.slice (some ⟨q, 0, none⟩) n7 c7) ∧ w'.cell? ⟨q, c * 7 + 2, none⟩ = some (.string (fnN f)) ∧ w'.cell? ⟨ga, f, none⟩ = some (.slice Af nf cf)) opsW51 _ (by kernel_rfl) liW51 (by kernel_rfl) nsW51 (hSd) (fun hops hns hHeld => ?_)
                refine wpAnyH_takeR (i := 0) (v := ?vW51_1) hops hns rdW51_0 (by rfl) frW51_0 rfl (fun _ _ _ h => hQ.out _ _ _ _ _ h) stW51_0 (Or.inl ⟨by kernel_rfl, ?hyW51_1⟩) (by assumption) ?restW51_1
                case hyW51_1 => (intro w hSw; (try dsimp only at hSw); go_split_ands; go_simp; (try with_reducible rfl))
                try simp only [Act.put, List.setIfInBounds_toArray, List.set_cons_zero, List.set_cons_succ]
                refine wpAnyH_takeR (i := 1) (v := ?vW51_2) hops hns rdW51_1 (by rfl) frW51_1 rfl (fun _ _ _ h => hQ.out _ _ _ _ _ h) stW51_1 (Or.inl ⟨by kernel_rfl, ?hyW51_2⟩) (by assumption) ?restW51_2
                case hyW51_2 => (intro w hSw; (try dsimp only at hSw); go_split_ands; go_simp; (try with_reducible rfl))
                try simp only [Act.put, List.setIfInBounds_toArray, List.set_cons_zero, List.set_cons_succ]
                refine wpAnyH_takeR (i := 2) (v := ?vW51_3) hops hns rdW51_2 (by rfl) frW51_2 rfl (fun _ _ _ h => hQ.out _ _ _ _ _ h) stW51_2 (Or.inl ⟨by kernel_rfl, ?hyW51_3⟩) (by assumption) ?restW51_3
                case hyW51_3 => (intro w hSw; (try dsimp only at hSw); go_split_ands; go_simp; (try with_reducible rfl))
                try simp only [Act.put, List.setIfInBounds_toArray, List.set_cons_zero, List.set_cons_succ]
                refine wpAnyH_takeR (i := 3) (v := ?vW51_4) hops hns rdW51_3 (by rfl) frW51_3 rfl (fun _ _ _ h => hQ.out _ _ _ _ _ h) stW51_3 (Or.inl ⟨by kernel_rfl, ?hyW51_4⟩) (by assumption) ?restW51_4
                case hyW51_4 => (intro w hSw; (try dsimp only at hSw); go_split_ands; go_simp; (try with_reducible rfl))
                try simp only [Act.put, List.setIfInBounds_toArray, List.set_cons_zero, List.set_cons_succ]
                refine wpAnyH_takeR (i := 4) (v := ?vW51_5) hops hns rdW51_4 (by rfl) frW51_4 rfl (fun _ _ _ h => hQ.out _ _ _ _ _ h) stW51_4 (Or.inl ⟨by kernel_rfl, ?hyW51_5⟩) (by assumption) ?restW51_5
                case hyW51_5 => (intro w hSw; (try dsimp only at hSw); go_split_ands; go_simp; (try with_reducible rfl))
                try simp only [Act.put, List.setIfInBounds_toArray, List.set_cons_zero, List.set_cons_succ]
                refine wpAnyH_takeR (i := 5) (v := ?vW51_6) hops hns rdW51_5 (by rfl) frW51_5 rfl (fun _ _ _ h => hQ.out _ _ _ _ _ h) stW51_5 (Or.inl ⟨by kernel_rfl, ?hyW51_6⟩) (by assumption) ?restW51_6
                case hyW51_6 => (intro w hSw; (try dsimp only at hSw); go_split_ands; go_simp; (try with_reducible rfl))
                try simp only [Act.put, List.setIfInBounds_toArray, List.set_cons_zero, List.set_cons_succ]
                refine wpAnyH_oneR (i := 6) (v := ?vW51_7) hops rdW51_6 rfl stW51_6 (Or.inl ⟨by kernel_rfl, ?hyW51_7⟩) (by assumption) ?restW51_7
                case hyW51_7 => (intro w hSw; (try dsimp only at hSw); go_split_ands; go_simp; (try with_reducible rfl))
                try simp only [Act.put, List.setIfInBounds_toArray, List.set_cons_zero, List.set_cons_succ]
                refine wpAnyH_oneR (i := 7) (v := ?vW51_8) hops rdW51_7 rfl stW51_7 (Or.inl ⟨by kernel_rfl, ?hyW51_8⟩) (by assumption) ?restW51_8
                case hyW51_8 => (intro w hSw; (try dsimp only at hSw); go_split_ands; go_simp; (try with_reducible rfl))
                try simp only [Act.put, List.setIfInBounds_toArray, List.set_cons_zero, List.set_cons_succ]
                refine wpAnyH_oneR (i := 8) (v := ?vW51_9) hops rdW51_8 rfl stW51_8 (Or.inl ⟨by kernel_rfl, ?hyW51_9⟩) (by assumption) ?restW51_9
                case hyW51_9 => (intro w hSw; (try dsimp only at hSw); go_split_ands; go_simp; (try with_reducible rfl))
                try simp only [Act.put, List.setIfInBounds_toArray, List.set_cons_zero, List.set_cons_succ]
                refine wpAnyH_oneR (i := 9) (v := ?vW51_10) hops rdW51_9 rfl stW51_9 (Or.inl ⟨by kernel_rfl, ?hyW51_10⟩) (by assumption) ?restW51_10
                case hyW51_10 => (intro w hSw; (try dsimp only at hSw); go_split_ands; go_simp; (try with_reducible rfl))
                try simp only [Act.put, List.setIfInBounds_toArray, List.set_cons_zero, List.set_cons_succ]
                refine wpAnyH_oneR (i := 10) (v := ?vW51_11) hops rdW51_10 rfl stW51_10 (Or.inl ⟨by kernel_rfl, ?hyW51_11⟩) (by assumption) ?restW51_11
                case hyW51_11 => (intro w hSw; (try dsimp only at hSw); go_split_ands; go_simp; (try with_reducible rfl))
                try simp only [Act.put, List.setIfInBounds_toArray, List.set_cons_zero, List.set_cons_succ]
                refine wpAnyH_readyR (rs := [11]) hops rdW51_11 (by simp) (AllReadyH.consR rfl stW51_11 (fun K hK => ?_) AllReadyH.nil)
                (go_simp; go_wp2_with (go_at_call 53; (with_reducible refine (hfi.out _ (Below.refl _ _).drew).mono ?_); rintro e w5 ⟨rfl, hb5⟩; replace hb5 := Lib.hid (bl_then (Below.refl wc.heap.size wc).drew (Nat.le_refl _) hb5)))
                refine hK.out _ _ (by first | with_reducible exact hSd | exact hSk.out _ hb5.out) (fun hHeld => ?_)
                clear hK K
                try simp only [Act.put, List.setIfInBounds_toArray, List.set_cons_zero, List.set_cons_succ]
                refine wpAnyH_oneR (i := 12) (v := ?vW51_12) hops rdW51_12 rfl stW51_12 (Or.inl ⟨by kernel_rfl, ?hyW51_12⟩) (by assumption) ?restW51_12
                case hyW51_12 => (intro w hSw; (try dsimp only at hSw); go_split_ands; go_simp; (try with_reducible rfl))
                try simp only [Act.put, List.setIfInBounds_toArray, List.set_cons_zero, List.set_cons_succ]
                refine wpAnyH_oneR (i := 13) (v := ?vW51_13) hops rdW51_13 rfl stW51_13 (Or.inl ⟨by kernel_rfl, ?hyW51_13⟩) (by assumption) ?restW51_13
                case hyW51_13 => (intro w hSw; (try dsimp only at hSw); go_split_ands; go_simp; (try with_reducible rfl))
                try simp only [Act.put, List.setIfInBounds_toArray, List.set_cons_zero, List.set_cons_succ]
                refine wpAnyH_oneR (i := 14) (v := ?vW51_14) hops rdW51_14 rfl stW51_14 (Or.inl ⟨by kernel_rfl, ?hyW51_14⟩) (by assumption) ?restW51_14
                case hyW51_14 => (intro w hSw; (try dsimp only at hSw); go_split_ands; go_simp; (try with_reducible rfl))
                try simp only [Act.put, List.setIfInBounds_toArray, List.set_cons_zero, List.set_cons_succ]
                refine wpAnyH_doneR hops rdW51_15 ?_
                have hF5 := Lib.hid (hF3.out.below hb5.out)
                clear hSd hSk hfi hcpc q0c hcfc
                go_wp2_with fail
                go_loopw [23, 27] (fun v23 v27 wr => ∃ (Es : Nat → Nat → List Int) (ag : Bool) (j : Nat), v23 = .bool ag ∧ v27 = .int .i64 (j : Nat) ∧ j ≤ nf ∧ Hid (FxS W0 wr bs ga ca vl Es) ∧ Hid (mu2 most bs Es ≤ mu2 most bs Es1 ∧ (ag = true → mu2 most bs Es < mu2 most bs Es1))) (fun _ v _ => nf - (intOf v).toNat)
                case atStart => exact ⟨Es3, ag3, 0, rfl, rfl, Nat.zero_le _, hF5, hmu3⟩
                case round =>
                  obtain ⟨wj, rfl⟩ : ∃ x, x = wr := ⟨_, rfl⟩
                  obtain ⟨Es4, ag4, j, rfl, rfl, hj, hF4, hmu4⟩ := hrel
                  by_cases hjn : j < nf
                  · have d3 : decide ((j : Int) < (nf : Int)) = true := by simp; omega
                    have j3 : (0 : Int) ≤ (j : Int) := by omega
                    have j4 : (j : Int) < (nf : Int) := by omega
                    have hjl : j < (tl bs f).length := by rw [← hnf.out]; exact hjn
                    obtain ⟨kk, hkk, hke⟩ := List.getElem_of_mem (hsub.out _ (List.getElem_mem hjl))
                    obtain ⟨gf, cf', hgf, hvf, hrf⟩ := hF4.out.row hf (by omega)
                    have hAf := hvf.symm.trans hvlf.out
                    rw [← hnf.out] at hAf
                    simp only [Value.slice.injEq, true_and] at hAf
                    obtain ⟨hAf1, rfl⟩ := hAf
                    subst hAf1
                    obtain ⟨hp0, hp1, hp7', -, hEf⟩ := hrf j hjl
                    obtain ⟨gi, ci, hci, hvi, hri⟩ := hF4.out.row hlt (by omega)
                    obtain ⟨ni, hni⟩ : ∃ n, n = (tl bs i).length := ⟨_, rfl⟩
                    have hnib := tl_len bs hok.out hcnt.out hlt
                    rw [← hni] at hci hvi hkk hnib
                    have hri' : Hid (∀ k, ∀ hk : k < (tl bs i).length, wj.cell? ⟨gi, k * 8, none⟩ = some (.string (fnN (tl bs i)[k].1)) ∧ wj.cell? ⟨gi, k * 8 + 1, none⟩ = some (.int .i64 ((tl bs i)[k].2 : Nat)) ∧ wj.cell? ⟨gi, k * 8 + 7, none⟩ = some (.string (st (Es4 i k))) ∧ wj.frozen? ⟨gi, k * 8 + 7, none⟩ = false ∧ Ef 3 (Es4 i k)) := Lib.hid hri
                    replace hni := Lib.hid hni
                    replace hvi := Lib.hid hvi
                    replace hvf := Lib.hid hvf
                    have hpa4 := tl_fn bs _ (List.getElem_mem hjl)
                    obtain ⟨pa, hpa⟩ : ∃ x, x = (tl bs f)[j].1 := ⟨_, rfl⟩
                    obtain ⟨pb, hpb⟩ : ∃ x, x = (tl bs f)[j].2 := ⟨_, rfl⟩
                    rw [← hpa] at hp0 hpa4
                    rw [← hpb] at hp1
                    have hkp : Hid (∀ hk : kk < (tl bs i).length, (tl bs i)[kk] = (pa, pb)) := Lib.hid (fun hk => by rw [hpa, hpb]; exact hke)
                    replace hEf := Lib.hid hEf
                    replace hpa := Lib.hid hpa
                    replace hpb := Lib.hid hpb
                    clear hrf hri hke hgf
                    go_wp2_with fail
                    go_loopw [28] (fun v28 wr => ∃ k : Nat, v28 = .int .i64 (k : Nat) ∧ k ≤ kk ∧ Hid (Below wj.heap.size wj wr)) (fun v _ => kk - (intOf v).toNat)
                    case atStart => exact ⟨0, rfl, Nat.zero_le _, Lib.hid (Below.refl _ _)⟩
                    case round =>
                      obtain ⟨k, rfl, hk, hbs⟩ := hrel
                      have hkl : k < (tl bs i).length := by rw [← hni.out]; omega
                      obtain ⟨hk0, hk1, hk7, hkf, hkE⟩ := hri'.out k hkl
                      have hka4 := tl_fn bs _ (List.getElem_mem hkl)
                      have k1 : (0 : Int) ≤ (k : Int) := by omega
                      have k2 : (k : Int) < (ni : Int) := by omega
                      obtain ⟨ka, hka⟩ : ∃ x, x = (tl bs i)[k].1 := ⟨_, rfl⟩
                      obtain ⟨kb, hkb⟩ : ∃ x, x = (tl bs i)[k].2 := ⟨_, rfl⟩
                      rw [← hka] at hk0 hka4
                      rw [← hkb] at hk1
                      have hkk' : Hid (k = kk → ka = pa ∧ kb = pb) := Lib.hid (fun e => by subst e; have h := hkp.out hkl; rw [hka, hkb, h]; exact ⟨rfl, rfl⟩)
                      have hee : ((fnN ka).toList == (fnN pa).toList) = decide (ka = pa) := fnN_eq hka4 hpa4
                      replace hka := Lib.hid hka
                      replace hkb := Lib.hid hkb
                      replace hkE := Lib.hid hkE
                      by_cases heq : ka = pa ∧ kb = pb
                      · have dee : ((fnN ka).toList == (fnN pa).toList) = true := by rw [hee]; simp [heq.1]
                        have dei : ((kb : Int) == (pb : Int)) = true := by simp; omega
                        have dii : decide ((kb : Int) = (pb : Int)) = true := by simp; omega
                        clear hee
                        replace heq := Lib.hid heq
                        go_upto_region 56 with fail
                        have hSd : wr.drew.cell? ⟨ga, i, none⟩ = some (.slice (some ⟨gi, 0, none⟩) ni ci) ∧ wr.drew.cell? ⟨gi, k * 8, none⟩ = some (.string (fnN ka)) ∧ wr.drew.cell? ⟨gi, k * 8 + 1, none⟩ = some (.int .i64 (kb : Nat)) ∧ wr.drew.cell? ⟨gf, j * 8, none⟩ = some (.string (fnN pa)) ∧ wr.drew.cell? ⟨gf, j * 8 + 1, none⟩ = some (.int .i64 (pb : Nat)) := ⟨bl_cell hbs.out.drew hci, bl_cell hbs.out.drew hk0, bl_cell hbs.out.drew hk1, bl_cell hbs.out.drew hp0, bl_cell hbs.out.drew hp1⟩
                        refine wp_region_heldR (S := fun w' => w'.cell? ⟨ga, i, none⟩ = some (.slice (some ⟨gi, 0, none⟩) ni ci) ∧ w'.cell? ⟨gi, k * 8, none⟩ = some (.string (fnN ka)) ∧ w'.cell? ⟨gi, k * 8 + 1, none⟩ = some (.int .i64 (kb : Nat)) ∧ w'.cell? ⟨gf, j * 8, none⟩ = some (.string (fnN pa)) ∧ w'.cell? ⟨gf, j * 8 + 1, none⟩ = some (.int .i64 (pb : Nat))) opsW56 _ (by kernel_rfl) liW56 (by kernel_rfl) nsW56 (hSd) (fun hops hns hHeld => ?_)
                        refine wpAnyH_takeR (i := 0) (v := ?vW56a_1) hops hns rdW56_0 (by rfl) frW56_0 rfl (fun _ _ _ h => hQ.out _ _ _ _ _ h) stW56_0 (Or.inl ⟨by kernel_rfl, ?hyW56a_1⟩) (by assumption) ?restW56a_1
                        case hyW56a_1 => (intro w hSw; (try dsimp only at hSw); go_split_ands; go_simp; (try with_reducible rfl))
                        try simp only [Act.put, List.setIfInBounds_toArray, List.set_cons_zero, List.set_cons_succ]
                        refine wpAnyH_takeR (i := 1) (v := ?vW56a_2) hops hns rdW56_1 (by rfl) frW56_1 rfl (fun _ _ _ h => hQ.out _ _ _ _ _ h) stW56_1 (Or.inl ⟨by kernel_rfl, ?hyW56a_2⟩) (by assumption) ?restW56a_2
                        case hyW56a_2 => (intro w hSw; (try dsimp only at hSw); go_split_ands; go_simp; (try with_reducible rfl))
                        try simp only [Act.put, List.setIfInBounds_toArray, List.set_cons_zero, List.set_cons_succ]
                        refine wpAnyH_takeR (i := 2) (v := ?vW56a_3) hops hns rdW56_2 (by rfl) frW56_2 rfl (fun _ _ _ h => hQ.out _ _ _ _ _ h) stW56_2 (Or.inl ⟨by kernel_rfl, ?hyW56a_3⟩) (by assumption) ?restW56a_3
                        case hyW56a_3 => (intro w hSw; (try dsimp only at hSw); go_split_ands; go_simp; (try with_reducible rfl))
                        try simp only [Act.put, List.setIfInBounds_toArray, List.set_cons_zero, List.set_cons_succ]
                        refine wpAnyH_takeR (i := 3) (v := ?vW56a_4) hops hns rdW56_3 (by rfl) frW56_3 rfl (fun _ _ _ h => hQ.out _ _ _ _ _ h) stW56_3 (Or.inl ⟨by kernel_rfl, ?hyW56a_4⟩) (by assumption) ?restW56a_4
                        case hyW56a_4 => (intro w hSw; (try dsimp only at hSw); go_split_ands; go_simp; (try with_reducible rfl))
                        try simp only [Act.put, List.setIfInBounds_toArray, List.set_cons_zero, List.set_cons_succ]
                        refine wpAnyH_takeR (i := 4) (v := ?vW56a_5) hops hns rdW56_4 (by rfl) frW56_4 rfl (fun _ _ _ h => hQ.out _ _ _ _ _ h) stW56_4 (Or.inl ⟨by kernel_rfl, ?hyW56a_5⟩) (by assumption) ?restW56a_5
                        case hyW56a_5 => (intro w hSw; (try dsimp only at hSw); go_split_ands; go_simp; (try with_reducible rfl))
                        try simp only [Act.put, List.setIfInBounds_toArray, List.set_cons_zero, List.set_cons_succ]
                        refine wpAnyH_takeR (i := 5) (v := ?vW56a_6) hops hns rdW56_5 (by rfl) frW56_5 rfl (fun _ _ _ h => hQ.out _ _ _ _ _ h) stW56_5 (Or.inl ⟨by kernel_rfl, ?hyW56a_6⟩) (by assumption) ?restW56a_6
                        case hyW56a_6 => (intro w hSw; (try dsimp only at hSw); go_split_ands; go_simp; (try with_reducible rfl))
                        try simp only [Act.put, List.setIfInBounds_toArray, List.set_cons_zero, List.set_cons_succ]
                        refine wpAnyH_takeR (i := 6) (v := ?vW56a_7) hops hns rdW56_6 (by rfl) frW56_6 rfl (fun _ _ _ h => hQ.out _ _ _ _ _ h) stW56_6 (Or.inl ⟨by kernel_rfl, ?hyW56a_7⟩) (by assumption) ?restW56a_7
                        case hyW56a_7 => (intro w hSw; (try dsimp only at hSw); go_split_ands; go_simp; (try with_reducible rfl))
                        try simp only [Act.put, List.setIfInBounds_toArray, List.set_cons_zero, List.set_cons_succ]
                        refine wpAnyH_takeR (i := 7) (v := ?vW56a_8) hops hns rdW56_7 (by rfl) frW56_7 rfl (fun _ _ _ h => hQ.out _ _ _ _ _ h) stW56_7 (Or.inl ⟨by kernel_rfl, ?hyW56a_8⟩) (by assumption) ?restW56a_8
                        case hyW56a_8 => (intro w hSw; (try dsimp only at hSw); go_split_ands; go_simp; (try with_reducible rfl))
                        try simp only [Act.put, List.setIfInBounds_toArray, List.set_cons_zero, List.set_cons_succ]
                        refine wpAnyH_takeR (i := 8) (v := ?vW56a_9) hops hns rdW56_8 (by rfl) frW56_8 rfl (fun _ _ _ h => hQ.out _ _ _ _ _ h) stW56_8 (Or.inl ⟨by kernel_rfl, ?hyW56a_9⟩) (by assumption) ?restW56a_9
                        case hyW56a_9 => (intro w hSw; (try dsimp only at hSw); go_split_ands; go_simp; (try with_reducible rfl))
                        try simp only [Act.put, List.setIfInBounds_toArray, List.set_cons_zero, List.set_cons_succ]
                        refine wpAnyH_oneR (i := 9) (v := ?vW56a_10) hops rdW56_9 rfl stW56_9 (Or.inl ⟨by kernel_rfl, ?hyW56a_10⟩) (by assumption) ?restW56a_10
                        case hyW56a_10 => (intro w hSw; (try dsimp only at hSw); go_split_ands; go_simp; (try with_reducible rfl))
                        try simp only [Act.put, List.setIfInBounds_toArray, List.set_cons_zero, List.set_cons_succ]
                        refine wpAnyH_oneR (i := 10) (v := ?vW56a_11) hops rdW56_10 rfl stW56_10 (Or.inl ⟨by kernel_rfl, ?hyW56a_11⟩) (by assumption) ?restW56a_11
                        case hyW56a_11 => (intro w hSw; (try dsimp only at hSw); go_split_ands; go_simp; (try with_reducible rfl))
                        try simp only [Act.put, List.setIfInBounds_toArray, List.set_cons_zero, List.set_cons_succ]
                        refine wpAnyH_oneR (i := 11) (v := ?vW56a_12) hops rdW56_11 rfl stW56_11 (Or.inl ⟨by kernel_rfl, ?hyW56a_12⟩) (by assumption) ?restW56a_12
                        case hyW56a_12 => (intro w hSw; (try dsimp only at hSw); go_split_ands; go_simp; (try with_reducible rfl))
                        try simp only [Act.put, List.setIfInBounds_toArray, List.set_cons_zero, List.set_cons_succ]
                        refine wpAnyH_oneR (i := 12) (v := ?vW56a_13) hops rdW56_12 rfl stW56_12 (Or.inl ⟨by kernel_rfl, ?hyW56a_13⟩) (by assumption) ?restW56a_13
                        case hyW56a_13 => (intro w hSw; (try dsimp only at hSw); go_split_ands; go_simp; (try with_reducible rfl))
                        try simp only [Act.put, List.setIfInBounds_toArray, List.set_cons_zero, List.set_cons_succ]
                        refine wpAnyH_oneR (i := 13) (v := ?vW56a_14) hops rdW56_13 rfl stW56_13 (Or.inl ⟨by kernel_rfl, ?hyW56a_14⟩) (by assumption) ?restW56a_14
                        case hyW56a_14 => (intro w hSw; (try dsimp only at hSw); go_split_ands; go_simp; (try with_reducible rfl))
                        try simp only [Act.put, List.setIfInBounds_toArray, List.set_cons_zero, List.set_cons_succ]
                        refine wpAnyH_doneR hops rdW56_14 ?_
                        clear hSd
                        obtain ⟨E1, hE1⟩ : ∃ E, E = Es4 i k := ⟨_, rfl⟩
                        obtain ⟨E2, hE2⟩ : ∃ E, E = Es4 f j := ⟨_, rfl⟩
                        rw [← hE1] at hkE hk7
                        rw [← hE2] at hEf hp7'
                        replace hE1 := Lib.hid hE1
                        replace hE2 := Lib.hid hE2
                        have hm3 : Hid ((3 : Nat) ≤ 1000) := Lib.hid (by omega)
                        have hT := Lib.hid (hpE.out.tn hEf.out)
                        have hth : Hid (∀ w', Calls Try.prog 59 #[.string (st pE), .string (st E2)] w' fun e w'' => e = .returned (.string (st (thenL pE E2))) ∧ Below w'.heap.size w' w'') := Lib.hid (fun w' => refthen_e (m := 3) (Lib.hid rfl) hpE hEf hm3 w')
                        obtain ⟨T, hTe⟩ : ∃ T, T = thenL pE E2 := ⟨_, rfl⟩
                        rw [← hTe] at hth hT
                        replace hTe := Lib.hid hTe
                        have hbo : Hid (∀ w', w'.cell? ⟨wr.heap.size, 3, none⟩ = some (.bool most) → Calls Try.prog 58 #[.pointer (some ⟨wr.heap.size, 0, none⟩), .string (st E1), .string (st T)] w' fun e w'' => e = .returned (.string (st (bothL most E1 T))) ∧ Below w'.heap.size w' w'') := Lib.hid (fun w' hm => both_any wr.heap.size most E1 T hkE.out hT.out w' hm)
                        have hei := Lib.hid (Ef.both most hkE.out hT.out)
                        have hle := Lib.hid (leD.both (most := most) hkE.out hT.out)
                        generalize bothL most E1 T = ei at *
                        go_upto_region 59 with fail
                        obtain ⟨wb, hwb⟩ : ∃ Z, Z = (wr.alloc (.cells #[.slice none 0 0, .slice none 0 0, .slice none 0 0, .bool most, .slice none 0 0, .slice none 0 0] 117)).drew := ⟨_, rfl⟩
                        have hbb : Hid (Below wj.heap.size wj wb) := Lib.hid (by rw [hwb]; exact (bl_alloc hbs.out _).drew)
                        have hb3 : wb.cell? ⟨wr.heap.size, 3, none⟩ = some (.bool most) := by rw [hwb]; show (wr.alloc _).cell? _ = _; rw [cell_of_row _ _ 3 _ 117 (0, 0) (heap_alloc_new wr _)]; rfl
                        rw [← hwb]
                        replace hwb := Lib.hid hwb
                        have hSk : Hid (∀ w', Below wb.heap.size wb w' → (w'.cell? ⟨ga, i, none⟩ = some (.slice (some ⟨gi, 0, none⟩) ni ci) ∧ w'.cell? ⟨gi, k * 8 + 7, none⟩ = some (.string (st E1)) ∧ w'.cell? ⟨gp, i, none⟩ = some (.slice (some ⟨q, 0, none⟩) n7 c7) ∧ w'.cell? ⟨q, c * 7 + 6, none⟩ = some (.string (st pE)) ∧ w'.cell? ⟨gf, j * 8 + 7, none⟩ = some (.string (st E2)) ∧ w'.cell? ⟨wr.heap.size, 3, none⟩ = some (.bool most))) := Lib.hid (fun w' hb => ⟨bl_cell hb (bl_cell hbb.out hci), bl_cell hb (bl_cell hbb.out hk7), bl_cell hb (bl_cell hbb.out (bl_cell hF4.out.hB hc7a)), bl_cell hb (bl_cell hbb.out (bl_cell hF4.out.hB q6)), bl_cell hb (bl_cell hbb.out hp7'), bl_cell hb hb3⟩)
                        have hSd : wb.drew.cell? ⟨ga, i, none⟩ = some (.slice (some ⟨gi, 0, none⟩) ni ci) ∧ wb.drew.cell? ⟨gi, k * 8 + 7, none⟩ = some (.string (st E1)) ∧ wb.drew.cell? ⟨gp, i, none⟩ = some (.slice (some ⟨q, 0, none⟩) n7 c7) ∧ wb.drew.cell? ⟨q, c * 7 + 6, none⟩ = some (.string (st pE)) ∧ wb.drew.cell? ⟨gf, j * 8 + 7, none⟩ = some (.string (st E2)) ∧ wb.drew.cell? ⟨wr.heap.size, 3, none⟩ = some (.bool most) := hSk.out _ (Below.refl _ _).drew
                        refine wp_region_heldR (S := fun w' => w'.cell? ⟨ga, i, none⟩ = some (.slice (some ⟨gi, 0, none⟩) ni ci) ∧ w'.cell? ⟨gi, k * 8 + 7, none⟩ = some (.string (st E1)) ∧ w'.cell? ⟨gp, i, none⟩ = some (.slice (some ⟨q, 0, none⟩) n7 c7) ∧ w'.cell? ⟨q, c * 7 + 6, none⟩ = some (.string (st pE)) ∧ w'.cell? ⟨gf, j * 8 + 7, none⟩ = some (.string (st E2)) ∧ w'.cell? ⟨wr.heap.size, 3, none⟩ = some (.bool most)) opsW59 _ (by kernel_rfl) liW59 (by kernel_rfl) nsW59 (hSd) (fun hops hns hHeld => ?_)
                        refine wpAnyH_takeR (i := 0) (v := ?vW59_1) hops hns rdW59_0 (by rfl) frW59_0 rfl (fun _ _ _ h => hQ.out _ _ _ _ _ h) stW59_0 (Or.inl ⟨by kernel_rfl, ?hyW59_1⟩) (by assumption) ?restW59_1
                        case hyW59_1 => (intro w hSw; (try dsimp only at hSw); go_split_ands; go_simp; (try with_reducible rfl))
                        try simp only [Act.put, List.setIfInBounds_toArray, List.set_cons_zero, List.set_cons_succ]
                        refine wpAnyH_takeR (i := 1) (v := ?vW59_2) hops hns rdW59_1 (by rfl) frW59_1 rfl (fun _ _ _ h => hQ.out _ _ _ _ _ h) stW59_1 (Or.inl ⟨by kernel_rfl, ?hyW59_2⟩) (by assumption) ?restW59_2
                        case hyW59_2 => (intro w hSw; (try dsimp only at hSw); go_split_ands; go_simp; (try with_reducible rfl))
                        try simp only [Act.put, List.setIfInBounds_toArray, List.set_cons_zero, List.set_cons_succ]
                        refine wpAnyH_takeR (i := 2) (v := ?vW59_3) hops hns rdW59_2 (by rfl) frW59_2 rfl (fun _ _ _ h => hQ.out _ _ _ _ _ h) stW59_2 (Or.inl ⟨by kernel_rfl, ?hyW59_3⟩) (by assumption) ?restW59_3
                        case hyW59_3 => (intro w hSw; (try dsimp only at hSw); go_split_ands; go_simp; (try with_reducible rfl))
                        try simp only [Act.put, List.setIfInBounds_toArray, List.set_cons_zero, List.set_cons_succ]
                        refine wpAnyH_takeR (i := 3) (v := ?vW59_4) hops hns rdW59_3 (by rfl) frW59_3 rfl (fun _ _ _ h => hQ.out _ _ _ _ _ h) stW59_3 (Or.inl ⟨by kernel_rfl, ?hyW59_4⟩) (by assumption) ?restW59_4
                        case hyW59_4 => (intro w hSw; (try dsimp only at hSw); go_split_ands; go_simp; (try with_reducible rfl))
                        try simp only [Act.put, List.setIfInBounds_toArray, List.set_cons_zero, List.set_cons_succ]
                        refine wpAnyH_takeR (i := 4) (v := ?vW59_5) hops hns rdW59_4 (by rfl) frW59_4 rfl (fun _ _ _ h => hQ.out _ _ _ _ _ h) stW59_4 (Or.inl ⟨by kernel_rfl, ?hyW59_5⟩) (by assumption) ?restW59_5
                        case hyW59_5 => (intro w hSw; (try dsimp only at hSw); go_split_ands; go_simp; (try with_reducible rfl))
                        try simp only [Act.put, List.setIfInBounds_toArray, List.set_cons_zero, List.set_cons_succ]
                        refine wpAnyH_takeR (i := 5) (v := ?vW59_6) hops hns rdW59_5 (by rfl) frW59_5 rfl (fun _ _ _ h => hQ.out _ _ _ _ _ h) stW59_5 (Or.inl ⟨by kernel_rfl, ?hyW59_6⟩) (by assumption) ?restW59_6
                        case hyW59_6 => (intro w hSw; (try dsimp only at hSw); go_split_ands; go_simp; (try with_reducible rfl))
                        try simp only [Act.put, List.setIfInBounds_toArray, List.set_cons_zero, List.set_cons_succ]
                        refine wpAnyH_takeR (i := 6) (v := ?vW59_7) hops hns rdW59_6 (by rfl) frW59_6 rfl (fun _ _ _ h => hQ.out _ _ _ _ _ h) stW59_6 (Or.inl ⟨by kernel_rfl, ?hyW59_7⟩) (by assumption) ?restW59_7
                        case hyW59_7 => (intro w hSw; (try dsimp only at hSw); go_split_ands; go_simp; (try with_reducible rfl))
                        try simp only [Act.put, List.setIfInBounds_toArray, List.set_cons_zero, List.set_cons_succ]
                        refine wpAnyH_takeR (i := 7) (v := ?vW59_8) hops hns rdW59_7 (by rfl) frW59_7 rfl (fun _ _ _ h => hQ.out _ _ _ _ _ h) stW59_7 (Or.inl ⟨by kernel_rfl, ?hyW59_8⟩) (by assumption) ?restW59_8
                        case hyW59_8 => (intro w hSw; (try dsimp only at hSw); go_split_ands; go_simp; (try with_reducible rfl))
                        try simp only [Act.put, List.setIfInBounds_toArray, List.set_cons_zero, List.set_cons_succ]
                        refine wpAnyH_takeR (i := 8) (v := ?vW59_9) hops hns rdW59_8 (by rfl) frW59_8 rfl (fun _ _ _ h => hQ.out _ _ _ _ _ h) stW59_8 (Or.inl ⟨by kernel_rfl, ?hyW59_9⟩) (by assumption) ?restW59_9
                        case hyW59_9 => (intro w hSw; (try dsimp only at hSw); go_split_ands; go_simp; (try with_reducible rfl))
                        try simp only [Act.put, List.setIfInBounds_toArray, List.set_cons_zero, List.set_cons_succ]
                        refine wpAnyH_takeR (i := 9) (v := ?vW59_10) hops hns rdW59_9 (by rfl) frW59_9 rfl (fun _ _ _ h => hQ.out _ _ _ _ _ h) stW59_9 (Or.inl ⟨by kernel_rfl, ?hyW59_10⟩) (by assumption) ?restW59_10
                        case hyW59_10 => (intro w hSw; (try dsimp only at hSw); go_split_ands; go_simp; (try with_reducible rfl))
                        try simp only [Act.put, List.setIfInBounds_toArray, List.set_cons_zero, List.set_cons_succ]
                        refine wpAnyH_takeR (i := 10) (v := ?vW59_11) hops hns rdW59_10 (by rfl) frW59_10 rfl (fun _ _ _ h => hQ.out _ _ _ _ _ h) stW59_10 (Or.inl ⟨by kernel_rfl, ?hyW59_11⟩) (by assumption) ?restW59_11
                        case hyW59_11 => (intro w hSw; (try dsimp only at hSw); go_split_ands; go_simp; (try with_reducible rfl))
                        try simp only [Act.put, List.setIfInBounds_toArray, List.set_cons_zero, List.set_cons_succ]
                        refine wpAnyH_takeR (i := 11) (v := ?vW59_12) hops hns rdW59_11 (by rfl) frW59_11 rfl (fun _ _ _ h => hQ.out _ _ _ _ _ h) stW59_11 (Or.inl ⟨by kernel_rfl, ?hyW59_12⟩) (by assumption) ?restW59_12
                        case hyW59_12 => (intro w hSw; (try dsimp only at hSw); go_split_ands; go_simp; (try with_reducible rfl))
                        try simp only [Act.put, List.setIfInBounds_toArray, List.set_cons_zero, List.set_cons_succ]
                        refine wpAnyH_takeR (i := 12) (v := ?vW59_13) hops hns rdW59_12 (by rfl) frW59_12 rfl (fun _ _ _ h => hQ.out _ _ _ _ _ h) stW59_12 (Or.inl ⟨by kernel_rfl, ?hyW59_13⟩) (by assumption) ?restW59_13
                        case hyW59_13 => (intro w hSw; (try dsimp only at hSw); go_split_ands; go_simp; (try with_reducible rfl))
                        try simp only [Act.put, List.setIfInBounds_toArray, List.set_cons_zero, List.set_cons_succ]
                        refine wpAnyH_takeR (i := 13) (v := ?vW59_14) hops hns rdW59_13 (by rfl) frW59_13 rfl (fun _ _ _ h => hQ.out _ _ _ _ _ h) stW59_13 (Or.inl ⟨by kernel_rfl, ?hyW59_14⟩) (by assumption) ?restW59_14
                        case hyW59_14 => (intro w hSw; (try dsimp only at hSw); go_split_ands; go_simp; (try with_reducible rfl))
                        try simp only [Act.put, List.setIfInBounds_toArray, List.set_cons_zero, List.set_cons_succ]
                        refine wpAnyH_takeR (i := 14) (v := ?vW59_15) hops hns rdW59_14 (by rfl) frW59_14 rfl (fun _ _ _ h => hQ.out _ _ _ _ _ h) stW59_14 (Or.inl ⟨by kernel_rfl, ?hyW59_15⟩) (by assumption) ?restW59_15
                        case hyW59_15 => (intro w hSw; (try dsimp only at hSw); go_split_ands; go_simp; (try with_reducible rfl))
                        try simp only [Act.put, List.setIfInBounds_toArray, List.set_cons_zero, List.set_cons_succ]
                        refine wpAnyH_takeR (i := 15) (v := ?vW59_16) hops hns rdW59_15 (by rfl) frW59_15 rfl (fun _ _ _ h => hQ.out _ _ _ _ _ h) stW59_15 (Or.inl ⟨by kernel_rfl, ?hyW59_16⟩) (by assumption) ?restW59_16
                        case hyW59_16 => (intro w hSw; (try dsimp only at hSw); go_split_ands; go_simp; (try with_reducible rfl))
                        try simp only [Act.put, List.setIfInBounds_toArray, List.set_cons_zero, List.set_cons_succ]
                        refine wpAnyH_takeR (i := 16) (v := ?vW59_17) hops hns rdW59_16 (by rfl) frW59_16 rfl (fun _ _ _ h => hQ.out _ _ _ _ _ h) stW59_16 (Or.inl ⟨by kernel_rfl, ?hyW59_17⟩) (by assumption) ?restW59_17
                        case hyW59_17 => (intro w hSw; (try dsimp only at hSw); go_split_ands; go_simp; (try with_reducible rfl))
                        try simp only [Act.put, List.setIfInBounds_toArray, List.set_cons_zero, List.set_cons_succ]
                        refine wpAnyH_takeR (i := 17) (v := ?vW59_18) hops hns rdW59_17 (by rfl) frW59_17 rfl (fun _ _ _ h => hQ.out _ _ _ _ _ h) stW59_17 (Or.inl ⟨by kernel_rfl, ?hyW59_18⟩) (by assumption) ?restW59_18
                        case hyW59_18 => (intro w hSw; (try dsimp only at hSw); go_split_ands; go_simp; (try with_reducible rfl))
                        try simp only [Act.put, List.setIfInBounds_toArray, List.set_cons_zero, List.set_cons_succ]
                        refine wpAnyH_oneR (i := 18) (v := ?vW59_19) hops rdW59_18 rfl stW59_18 (Or.inl ⟨by kernel_rfl, ?hyW59_19⟩) (by assumption) ?restW59_19
                        case hyW59_19 => (intro w hSw; (try dsimp only at hSw); go_split_ands; go_simp; (try with_reducible rfl))
                        try simp only [Act.put, List.setIfInBounds_toArray, List.set_cons_zero, List.set_cons_succ]
                        refine wpAnyH_oneR (i := 19) (v := ?vW59_20) hops rdW59_19 rfl stW59_19 (Or.inl ⟨by kernel_rfl, ?hyW59_20⟩) (by assumption) ?restW59_20
                        case hyW59_20 => (intro w hSw; (try dsimp only at hSw); go_split_ands; go_simp; (try with_reducible rfl))
                        try simp only [Act.put, List.setIfInBounds_toArray, List.set_cons_zero, List.set_cons_succ]
                        refine wpAnyH_oneR (i := 20) (v := ?vW59_21) hops rdW59_20 rfl stW59_20 (Or.inl ⟨by kernel_rfl, ?hyW59_21⟩) (by assumption) ?restW59_21
                        case hyW59_21 => (intro w hSw; (try dsimp only at hSw); go_split_ands; go_simp; (try with_reducible rfl))
                        try simp only [Act.put, List.setIfInBounds_toArray, List.set_cons_zero, List.set_cons_succ]
                        refine wpAnyH_oneR (i := 21) (v := ?vW59_22) hops rdW59_21 rfl stW59_21 (Or.inl ⟨by kernel_rfl, ?hyW59_22⟩) (by assumption) ?restW59_22
                        case hyW59_22 => (intro w hSw; (try dsimp only at hSw); go_split_ands; go_simp; (try with_reducible rfl))
                        try simp only [Act.put, List.setIfInBounds_toArray, List.set_cons_zero, List.set_cons_succ]
                        refine wpAnyH_readyR (rs := [22]) hops rdW59_22 (by simp) (AllReadyH.consR rfl stW59_22 (fun K hK => ?_) AllReadyH.nil)
                        (go_simp; go_wp2_with (go_at_call 59; (with_reducible refine (hth.out _).mono ?_); rintro e w6 ⟨rfl, hb6⟩; replace hb6 := Lib.hid (bl_then (Below.refl wb.heap.size wb).drew (Nat.le_refl _) hb6)))
                        refine hK.out _ _ (by first | with_reducible exact hSd | exact hSk.out _ hb6.out | exact hSk.out _ hb8.out) (fun hHeld => ?_)
                        clear hK K
                        try simp only [Act.put, List.setIfInBounds_toArray, List.set_cons_zero, List.set_cons_succ]
                        refine wpAnyH_readyR (rs := [23]) hops rdW59_23 (by simp) (AllReadyH.consR rfl stW59_23 (fun K hK => ?_) AllReadyH.nil)
                        (go_simp; go_wp2_with (go_at_call 58; (with_reducible refine (hbo.out _ (hSk.out _ hb6.out).2.2.2.2.2).mono ?_); rintro e w8 ⟨rfl, hb8⟩; replace hb8 := Lib.hid (bl_then hb6.out hb6.out.size hb8)))
                        refine hK.out _ _ (by first | with_reducible exact hSd | exact hSk.out _ hb6.out | exact hSk.out _ hb8.out) (fun hHeld => ?_)
                        clear hK K
                        try simp only [Act.put, List.setIfInBounds_toArray, List.set_cons_zero, List.set_cons_succ]
                        refine wpAnyH_oneR (i := 24) (v := ?vW59_23) hops rdW59_24 rfl stW59_24 (Or.inl ⟨by kernel_rfl, ?hyW59_23⟩) (by assumption) ?restW59_23
                        case hyW59_23 => (intro w hSw; (try dsimp only at hSw); go_split_ands; go_simp; (try with_reducible rfl))
                        try simp only [Act.put, List.setIfInBounds_toArray, List.set_cons_zero, List.set_cons_succ]
                        refine wpAnyH_doneR hops rdW59_25 ?_
                        have hF8 := Lib.hid (hF4.out.below (bl_then hbb.out hbb.out.size hb8.out))
                        obtain ⟨u0, u7, -⟩ := hSk.out _ hb8.out
                        have hvi2 : Hid (vl[i]'(by rw [hF4.out.len]; exact hlt) = .slice (some ⟨gi, 0, none⟩) (tl bs i).length ci) := Lib.hid (by rw [← hni.out]; exact hvi.out)
                        have u8f : w8.frozen? ⟨gi, k * 8 + 7, none⟩ = false := by
                          obtain ⟨g', c', -, hv', hr'⟩ := hF8.out.row hlt (by omega)
                          rw [hvi2.out] at hv'
                          simp only [Value.slice.injEq, Option.some.injEq, Addr.mk.injEq, true_and, and_true] at hv'
                          obtain ⟨rfl, -⟩ := hv'
                          exact (hr' k hkl).2.2.2.1
                        clear hSd hSk hth hbo hci hk0 hk1 hk7 hkf hp0 hp1 hp7' hb3
                        by_cases heq2 : ei = E1
                        · have dd : ((st ei).toList == (st E1).toList) = true := by rw [eqS_ef hei.out hkE.out]; simp [heq2]
                          replace heq2 := Lib.hid heq2
                          go_wp2_with fail
                          exact ⟨⟨Es4, ag4, j + 1, rfl, by go_num, by omega, hF8, hmu4⟩, by simp [intOf]; omega⟩
                        · have dd : ((st ei).toList == (st E1).toList) = false := by rw [eqS_ef hei.out hkE.out]; simp [heq2]
                          have hmu5 : Hid (mu2 most bs (upd2 Es4 i k ei) ≤ mu2 most bs Es1 ∧ (true = true → mu2 most bs (upd2 Es4 i k ei) < mu2 most bs Es1)) := Lib.hid (by
                            have h1 := mu2_upd (most := most) (Es := Es4) hlt hkl hei.out (by rw [← hE1.out]; exact hkE.out) (by rw [← hE1.out]; exact hle.out) (by rw [← hE1.out]; exact heq2)
                            have h2 := hmu4.out.1
                            exact ⟨by omega, fun _ => by omega⟩)
                          replace heq2 := Lib.hid heq2
                          go_wp2_with fail
                          exact ⟨⟨upd2 Es4 i k ei, true, j + 1, rfl, by go_num, by omega, Lib.hid (hF8.out.setE hlt hkl hvi2.out hei.out), hmu5⟩, by simp [intOf]; omega⟩
                      · have hkn : k + 1 ≤ kk := by
                          have : k ≠ kk := fun e => heq (hkk'.out e)
                          omega
                        by_cases hkp1 : ka = pa
                        · have dee : ((fnN ka).toList == (fnN pa).toList) = true := by rw [hee]; simp [hkp1]
                          have dei : ((kb : Int) == (pb : Int)) = false := by
                            have : kb ≠ pb := fun e => heq ⟨hkp1, e⟩
                            simp; omega
                          have dii : decide ((kb : Int) = (pb : Int)) = false := by
                            have : kb ≠ pb := fun e => heq ⟨hkp1, e⟩
                            simp; omega
                          clear hee
                          replace heq := Lib.hid heq
                          replace hkp1 := Lib.hid hkp1
                          go_upto_region 56 with fail
                          have hSd : wr.drew.cell? ⟨ga, i, none⟩ = some (.slice (some ⟨gi, 0, none⟩) ni ci) ∧ wr.drew.cell? ⟨gi, k * 8, none⟩ = some (.string (fnN ka)) ∧ wr.drew.cell? ⟨gi, k * 8 + 1, none⟩ = some (.int .i64 (kb : Nat)) ∧ wr.drew.cell? ⟨gf, j * 8, none⟩ = some (.string (fnN pa)) ∧ wr.drew.cell? ⟨gf, j * 8 + 1, none⟩ = some (.int .i64 (pb : Nat)) := ⟨bl_cell hbs.out.drew hci, bl_cell hbs.out.drew hk0, bl_cell hbs.out.drew hk1, bl_cell hbs.out.drew hp0, bl_cell hbs.out.drew hp1⟩
                          refine wp_region_heldR (S := fun w' => w'.cell? ⟨ga, i, none⟩ = some (.slice (some ⟨gi, 0, none⟩) ni ci) ∧ w'.cell? ⟨gi, k * 8, none⟩ = some (.string (fnN ka)) ∧ w'.cell? ⟨gi, k * 8 + 1, none⟩ = some (.int .i64 (kb : Nat)) ∧ w'.cell? ⟨gf, j * 8, none⟩ = some (.string (fnN pa)) ∧ w'.cell? ⟨gf, j * 8 + 1, none⟩ = some (.int .i64 (pb : Nat))) opsW56 _ (by kernel_rfl) liW56 (by kernel_rfl) nsW56 (hSd) (fun hops hns hHeld => ?_)
                          refine wpAnyH_takeR (i := 0) (v := ?vW56b_1) hops hns rdW56_0 (by rfl) frW56_0 rfl (fun _ _ _ h => hQ.out _ _ _ _ _ h) stW56_0 (Or.inl ⟨by kernel_rfl, ?hyW56b_1⟩) (by assumption) ?restW56b_1
                          case hyW56b_1 => (intro w hSw; (try dsimp only at hSw); go_split_ands; go_simp; (try with_reducible rfl))
                          try simp only [Act.put, List.setIfInBounds_toArray, List.set_cons_zero, List.set_cons_succ]
                          refine wpAnyH_takeR (i := 1) (v := ?vW56b_2) hops hns rdW56_1 (by rfl) frW56_1 rfl (fun _ _ _ h => hQ.out _ _ _ _ _ h) stW56_1 (Or.inl ⟨by kernel_rfl, ?hyW56b_2⟩) (by assumption) ?restW56b_2
                          case hyW56b_2 => (intro w hSw; (try dsimp only at hSw); go_split_ands; go_simp; (try with_reducible rfl))
                          try simp only [Act.put, List.setIfInBounds_toArray, List.set_cons_zero, List.set_cons_succ]
                          refine wpAnyH_takeR (i := 2) (v := ?vW56b_3) hops hns rdW56_2 (by rfl) frW56_2 rfl (fun _ _ _ h => hQ.out _ _ _ _ _ h) stW56_2 (Or.inl ⟨by kernel_rfl, ?hyW56b_3⟩) (by assumption) ?restW56b_3
                          case hyW56b_3 => (intro w hSw; (try dsimp only at hSw); go_split_ands; go_simp; (try with_reducible rfl))
                          try simp only [Act.put, List.setIfInBounds_toArray, List.set_cons_zero, List.set_cons_succ]
                          refine wpAnyH_takeR (i := 3) (v := ?vW56b_4) hops hns rdW56_3 (by rfl) frW56_3 rfl (fun _ _ _ h => hQ.out _ _ _ _ _ h) stW56_3 (Or.inl ⟨by kernel_rfl, ?hyW56b_4⟩) (by assumption) ?restW56b_4
                          case hyW56b_4 => (intro w hSw; (try dsimp only at hSw); go_split_ands; go_simp; (try with_reducible rfl))
                          try simp only [Act.put, List.setIfInBounds_toArray, List.set_cons_zero, List.set_cons_succ]
                          refine wpAnyH_takeR (i := 4) (v := ?vW56b_5) hops hns rdW56_4 (by rfl) frW56_4 rfl (fun _ _ _ h => hQ.out _ _ _ _ _ h) stW56_4 (Or.inl ⟨by kernel_rfl, ?hyW56b_5⟩) (by assumption) ?restW56b_5
                          case hyW56b_5 => (intro w hSw; (try dsimp only at hSw); go_split_ands; go_simp; (try with_reducible rfl))
                          try simp only [Act.put, List.setIfInBounds_toArray, List.set_cons_zero, List.set_cons_succ]
                          refine wpAnyH_takeR (i := 5) (v := ?vW56b_6) hops hns rdW56_5 (by rfl) frW56_5 rfl (fun _ _ _ h => hQ.out _ _ _ _ _ h) stW56_5 (Or.inl ⟨by kernel_rfl, ?hyW56b_6⟩) (by assumption) ?restW56b_6
                          case hyW56b_6 => (intro w hSw; (try dsimp only at hSw); go_split_ands; go_simp; (try with_reducible rfl))
                          try simp only [Act.put, List.setIfInBounds_toArray, List.set_cons_zero, List.set_cons_succ]
                          refine wpAnyH_takeR (i := 6) (v := ?vW56b_7) hops hns rdW56_6 (by rfl) frW56_6 rfl (fun _ _ _ h => hQ.out _ _ _ _ _ h) stW56_6 (Or.inl ⟨by kernel_rfl, ?hyW56b_7⟩) (by assumption) ?restW56b_7
                          case hyW56b_7 => (intro w hSw; (try dsimp only at hSw); go_split_ands; go_simp; (try with_reducible rfl))
                          try simp only [Act.put, List.setIfInBounds_toArray, List.set_cons_zero, List.set_cons_succ]
                          refine wpAnyH_takeR (i := 7) (v := ?vW56b_8) hops hns rdW56_7 (by rfl) frW56_7 rfl (fun _ _ _ h => hQ.out _ _ _ _ _ h) stW56_7 (Or.inl ⟨by kernel_rfl, ?hyW56b_8⟩) (by assumption) ?restW56b_8
                          case hyW56b_8 => (intro w hSw; (try dsimp only at hSw); go_split_ands; go_simp; (try with_reducible rfl))
                          try simp only [Act.put, List.setIfInBounds_toArray, List.set_cons_zero, List.set_cons_succ]
                          refine wpAnyH_takeR (i := 8) (v := ?vW56b_9) hops hns rdW56_8 (by rfl) frW56_8 rfl (fun _ _ _ h => hQ.out _ _ _ _ _ h) stW56_8 (Or.inl ⟨by kernel_rfl, ?hyW56b_9⟩) (by assumption) ?restW56b_9
                          case hyW56b_9 => (intro w hSw; (try dsimp only at hSw); go_split_ands; go_simp; (try with_reducible rfl))
                          try simp only [Act.put, List.setIfInBounds_toArray, List.set_cons_zero, List.set_cons_succ]
                          refine wpAnyH_oneR (i := 9) (v := ?vW56b_10) hops rdW56_9 rfl stW56_9 (Or.inl ⟨by kernel_rfl, ?hyW56b_10⟩) (by assumption) ?restW56b_10
                          case hyW56b_10 => (intro w hSw; (try dsimp only at hSw); go_split_ands; go_simp; (try with_reducible rfl))
                          try simp only [Act.put, List.setIfInBounds_toArray, List.set_cons_zero, List.set_cons_succ]
                          refine wpAnyH_oneR (i := 10) (v := ?vW56b_11) hops rdW56_10 rfl stW56_10 (Or.inl ⟨by kernel_rfl, ?hyW56b_11⟩) (by assumption) ?restW56b_11
                          case hyW56b_11 => (intro w hSw; (try dsimp only at hSw); go_split_ands; go_simp; (try with_reducible rfl))
                          try simp only [Act.put, List.setIfInBounds_toArray, List.set_cons_zero, List.set_cons_succ]
                          refine wpAnyH_oneR (i := 11) (v := ?vW56b_12) hops rdW56_11 rfl stW56_11 (Or.inl ⟨by kernel_rfl, ?hyW56b_12⟩) (by assumption) ?restW56b_12
                          case hyW56b_12 => (intro w hSw; (try dsimp only at hSw); go_split_ands; go_simp; (try with_reducible rfl))
                          try simp only [Act.put, List.setIfInBounds_toArray, List.set_cons_zero, List.set_cons_succ]
                          refine wpAnyH_oneR (i := 12) (v := ?vW56b_13) hops rdW56_12 rfl stW56_12 (Or.inl ⟨by kernel_rfl, ?hyW56b_13⟩) (by assumption) ?restW56b_13
                          case hyW56b_13 => (intro w hSw; (try dsimp only at hSw); go_split_ands; go_simp; (try with_reducible rfl))
                          try simp only [Act.put, List.setIfInBounds_toArray, List.set_cons_zero, List.set_cons_succ]
                          refine wpAnyH_oneR (i := 13) (v := ?vW56b_14) hops rdW56_13 rfl stW56_13 (Or.inl ⟨by kernel_rfl, ?hyW56b_14⟩) (by assumption) ?restW56b_14
                          case hyW56b_14 => (intro w hSw; (try dsimp only at hSw); go_split_ands; go_simp; (try with_reducible rfl))
                          try simp only [Act.put, List.setIfInBounds_toArray, List.set_cons_zero, List.set_cons_succ]
                          refine wpAnyH_doneR hops rdW56_14 ?_
                          clear hSd
                          go_wp2_with fail
                          exact ⟨⟨k + 1, by go_num, hkn, Lib.hid hbs.out.drew⟩, by simp [intOf]; omega⟩
                        · have dee : ((fnN ka).toList == (fnN pa).toList) = false := by rw [hee]; simp [hkp1]
                          clear hee
                          replace heq := Lib.hid heq
                          replace hkp1 := Lib.hid hkp1
                          go_upto_region 56 with fail
                          have hSd : wr.drew.cell? ⟨ga, i, none⟩ = some (.slice (some ⟨gi, 0, none⟩) ni ci) ∧ wr.drew.cell? ⟨gi, k * 8, none⟩ = some (.string (fnN ka)) ∧ wr.drew.cell? ⟨gi, k * 8 + 1, none⟩ = some (.int .i64 (kb : Nat)) ∧ wr.drew.cell? ⟨gf, j * 8, none⟩ = some (.string (fnN pa)) ∧ wr.drew.cell? ⟨gf, j * 8 + 1, none⟩ = some (.int .i64 (pb : Nat)) := ⟨bl_cell hbs.out.drew hci, bl_cell hbs.out.drew hk0, bl_cell hbs.out.drew hk1, bl_cell hbs.out.drew hp0, bl_cell hbs.out.drew hp1⟩
                          refine wp_region_heldR (S := fun w' => w'.cell? ⟨ga, i, none⟩ = some (.slice (some ⟨gi, 0, none⟩) ni ci) ∧ w'.cell? ⟨gi, k * 8, none⟩ = some (.string (fnN ka)) ∧ w'.cell? ⟨gi, k * 8 + 1, none⟩ = some (.int .i64 (kb : Nat)) ∧ w'.cell? ⟨gf, j * 8, none⟩ = some (.string (fnN pa)) ∧ w'.cell? ⟨gf, j * 8 + 1, none⟩ = some (.int .i64 (pb : Nat))) opsW56 _ (by kernel_rfl) liW56 (by kernel_rfl) nsW56 (hSd) (fun hops hns hHeld => ?_)
                          refine wpAnyH_takeR (i := 0) (v := ?vW56c_1) hops hns rdW56_0 (by rfl) frW56_0 rfl (fun _ _ _ h => hQ.out _ _ _ _ _ h) stW56_0 (Or.inl ⟨by kernel_rfl, ?hyW56c_1⟩) (by assumption) ?restW56c_1
                          case hyW56c_1 => (intro w hSw; (try dsimp only at hSw); go_split_ands; go_simp; (try with_reducible rfl))
                          try simp only [Act.put, List.setIfInBounds_toArray, List.set_cons_zero, List.set_cons_succ]
                          refine wpAnyH_takeR (i := 1) (v := ?vW56c_2) hops hns rdW56_1 (by rfl) frW56_1 rfl (fun _ _ _ h => hQ.out _ _ _ _ _ h) stW56_1 (Or.inl ⟨by kernel_rfl, ?hyW56c_2⟩) (by assumption) ?restW56c_2
                          case hyW56c_2 => (intro w hSw; (try dsimp only at hSw); go_split_ands; go_simp; (try with_reducible rfl))
                          try simp only [Act.put, List.setIfInBounds_toArray, List.set_cons_zero, List.set_cons_succ]
                          refine wpAnyH_takeR (i := 2) (v := ?vW56c_3) hops hns rdW56_2 (by rfl) frW56_2 rfl (fun _ _ _ h => hQ.out _ _ _ _ _ h) stW56_2 (Or.inl ⟨by kernel_rfl, ?hyW56c_3⟩) (by assumption) ?restW56c_3
                          case hyW56c_3 => (intro w hSw; (try dsimp only at hSw); go_split_ands; go_simp; (try with_reducible rfl))
                          try simp only [Act.put, List.setIfInBounds_toArray, List.set_cons_zero, List.set_cons_succ]
                          refine wpAnyH_takeR (i := 3) (v := ?vW56c_4) hops hns rdW56_3 (by rfl) frW56_3 rfl (fun _ _ _ h => hQ.out _ _ _ _ _ h) stW56_3 (Or.inl ⟨by kernel_rfl, ?hyW56c_4⟩) (by assumption) ?restW56c_4
                          case hyW56c_4 => (intro w hSw; (try dsimp only at hSw); go_split_ands; go_simp; (try with_reducible rfl))
                          try simp only [Act.put, List.setIfInBounds_toArray, List.set_cons_zero, List.set_cons_succ]
                          refine wpAnyH_takeR (i := 4) (v := ?vW56c_5) hops hns rdW56_4 (by rfl) frW56_4 rfl (fun _ _ _ h => hQ.out _ _ _ _ _ h) stW56_4 (Or.inl ⟨by kernel_rfl, ?hyW56c_5⟩) (by assumption) ?restW56c_5
                          case hyW56c_5 => (intro w hSw; (try dsimp only at hSw); go_split_ands; go_simp; (try with_reducible rfl))
                          try simp only [Act.put, List.setIfInBounds_toArray, List.set_cons_zero, List.set_cons_succ]
                          refine wpAnyH_takeR (i := 5) (v := ?vW56c_6) hops hns rdW56_5 (by rfl) frW56_5 rfl (fun _ _ _ h => hQ.out _ _ _ _ _ h) stW56_5 (Or.inl ⟨by kernel_rfl, ?hyW56c_6⟩) (by assumption) ?restW56c_6
                          case hyW56c_6 => (intro w hSw; (try dsimp only at hSw); go_split_ands; go_simp; (try with_reducible rfl))
                          try simp only [Act.put, List.setIfInBounds_toArray, List.set_cons_zero, List.set_cons_succ]
                          refine wpAnyH_takeR (i := 6) (v := ?vW56c_7) hops hns rdW56_6 (by rfl) frW56_6 rfl (fun _ _ _ h => hQ.out _ _ _ _ _ h) stW56_6 (Or.inl ⟨by kernel_rfl, ?hyW56c_7⟩) (by assumption) ?restW56c_7
                          case hyW56c_7 => (intro w hSw; (try dsimp only at hSw); go_split_ands; go_simp; (try with_reducible rfl))
                          try simp only [Act.put, List.setIfInBounds_toArray, List.set_cons_zero, List.set_cons_succ]
                          refine wpAnyH_takeR (i := 7) (v := ?vW56c_8) hops hns rdW56_7 (by rfl) frW56_7 rfl (fun _ _ _ h => hQ.out _ _ _ _ _ h) stW56_7 (Or.inl ⟨by kernel_rfl, ?hyW56c_8⟩) (by assumption) ?restW56c_8
                          case hyW56c_8 => (intro w hSw; (try dsimp only at hSw); go_split_ands; go_simp; (try with_reducible rfl))
                          try simp only [Act.put, List.setIfInBounds_toArray, List.set_cons_zero, List.set_cons_succ]
                          refine wpAnyH_takeR (i := 8) (v := ?vW56c_9) hops hns rdW56_8 (by rfl) frW56_8 rfl (fun _ _ _ h => hQ.out _ _ _ _ _ h) stW56_8 (Or.inl ⟨by kernel_rfl, ?hyW56c_9⟩) (by assumption) ?restW56c_9
                          case hyW56c_9 => (intro w hSw; (try dsimp only at hSw); go_split_ands; go_simp; (try with_reducible rfl))
                          try simp only [Act.put, List.setIfInBounds_toArray, List.set_cons_zero, List.set_cons_succ]
                          refine wpAnyH_oneR (i := 9) (v := ?vW56c_10) hops rdW56_9 rfl stW56_9 (Or.inl ⟨by kernel_rfl, ?hyW56c_10⟩) (by assumption) ?restW56c_10
                          case hyW56c_10 => (intro w hSw; (try dsimp only at hSw); go_split_ands; go_simp; (try with_reducible rfl))
                          try simp only [Act.put, List.setIfInBounds_toArray, List.set_cons_zero, List.set_cons_succ]
                          refine wpAnyH_oneR (i := 10) (v := ?vW56c_11) hops rdW56_10 rfl stW56_10 (Or.inl ⟨by kernel_rfl, ?hyW56c_11⟩) (by assumption) ?restW56c_11
                          case hyW56c_11 => (intro w hSw; (try dsimp only at hSw); go_split_ands; go_simp; (try with_reducible rfl))
                          try simp only [Act.put, List.setIfInBounds_toArray, List.set_cons_zero, List.set_cons_succ]
                          refine wpAnyH_oneR (i := 11) (v := ?vW56c_12) hops rdW56_11 rfl stW56_11 (Or.inl ⟨by kernel_rfl, ?hyW56c_12⟩) (by assumption) ?restW56c_12
                          case hyW56c_12 => (intro w hSw; (try dsimp only at hSw); go_split_ands; go_simp; (try with_reducible rfl))
                          try simp only [Act.put, List.setIfInBounds_toArray, List.set_cons_zero, List.set_cons_succ]
                          refine wpAnyH_oneR (i := 12) (v := ?vW56c_13) hops rdW56_12 rfl stW56_12 (Or.inl ⟨by kernel_rfl, ?hyW56c_13⟩) (by assumption) ?restW56c_13
                          case hyW56c_13 => (intro w hSw; (try dsimp only at hSw); go_split_ands; go_simp; (try with_reducible rfl))
                          try simp only [Act.put, List.setIfInBounds_toArray, List.set_cons_zero, List.set_cons_succ]
                          refine wpAnyH_oneR (i := 13) (v := ?vW56c_14) hops rdW56_13 rfl stW56_13 (Or.inl ⟨by kernel_rfl, ?hyW56c_14⟩) (by assumption) ?restW56c_14
                          case hyW56c_14 => (intro w hSw; (try dsimp only at hSw); go_split_ands; go_simp; (try with_reducible rfl))
                          try simp only [Act.put, List.setIfInBounds_toArray, List.set_cons_zero, List.set_cons_succ]
                          refine wpAnyH_doneR hops rdW56_14 ?_
                          clear hSd
                          go_wp2_with fail
                          exact ⟨⟨k + 1, by go_num, hkn, Lib.hid hbs.out.drew⟩, by simp [intOf]; omega⟩
                  · have hjn' : j = nf := by omega
                    subst hjn'
                    have d3 : decide ((j : Int) < (j : Int)) = false := by simp
                    go_wp2_with fail
                    exact ⟨⟨Es4, ag4, c + 1, rfl, by go_num, by omega, hF4, hmu4⟩, by simp [intOf]; omega⟩
              · have dk : (pk == 5) = false := by simp; exact hk5
                replace hk5 := Lib.hid hk5
                go_wp2_with fail
                exact ⟨⟨Es3, ag3, c + 1, rfl, by go_num, by omega, hF3, hmu3⟩, by simp [intOf]; omega⟩
            · have hcn' : c = n7 := by omega
              subst hcn'
              have d2 : decide ((c : Int) < (c : Int)) = false := by simp
              go_wp2_with fail
              exact ⟨⟨Es3, ag3, i + 1, rfl, by go_num, by omega, hF3, hmu3⟩, by simp [intOf]; omega⟩
        · have hi4 : i = 4 := by omega
          subst hi4
          have d1 : decide (((4 : Nat) : Int) < 4) = false := by decide
          go_wp2_with fail
          go_roundg (2 * mu2 most bs Es2 + (if ag2 then 1 else 0))
          case measure =>
            have h1 := hgk'.out
            obtain ⟨h2, h3⟩ := hmu2.out
            rw [h1]
            cases ag2 with
            | true => have := h3 rfl; simp; omega
            | false => simp; omega
          case rel => exact ⟨Es2, ag2, rfl, rfl, hF2⟩
end Go.Proofs.Ytdhklfbelplbcaa
