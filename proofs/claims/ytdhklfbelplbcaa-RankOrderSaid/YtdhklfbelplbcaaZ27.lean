/-
  The orders of a drawn region of whole.
  whole, block 2: the effects of the bodies, round by round, till nothing changes.
-/
import Derived.Test.YtdhklfbelplbcaaZ10
import Derived.Test.YtdhklfbelplbcaaZ26
namespace Go.Proofs.Ytdhklfbelplbcaa
set_option maxRecDepth 100000
noncomputable def opsW19 : Array Oper := regIn 19 Try.f43
theorem nsW19 : Region.noSelect opsW19 = true := by kernel_rfl
theorem liW19 : Array.replicate opsW19.size false = (bitsB 11 0) := by kernel_rfl
theorem rdW19_0 : Region.ready .any opsW19 (bitsB 11 0) = [0, 1, 3, 7] := by kernel_rfl
theorem frW19_0 : Region.free .any opsW19 (bitsB 11 0) 0 = true := by kernel_rfl
theorem stW19_0 : (bitsB 11 0).setIfInBounds 0 true = (bitsB 11 1) := by kernel_rfl
theorem rdW19_1 : Region.ready .any opsW19 (bitsB 11 1) = [1, 3, 7] := by kernel_rfl
theorem frW19_1 : Region.free .any opsW19 (bitsB 11 1) 1 = true := by kernel_rfl
theorem stW19_1 : (bitsB 11 1).setIfInBounds 1 true = (bitsB 11 3) := by kernel_rfl
theorem rdW19_2 : Region.ready .any opsW19 (bitsB 11 3) = [2, 3, 7] := by kernel_rfl
theorem frW19_2 : Region.free .any opsW19 (bitsB 11 3) 2 = true := by kernel_rfl
theorem stW19_2 : (bitsB 11 3).setIfInBounds 2 true = (bitsB 11 7) := by kernel_rfl
theorem rdW19_3 : Region.ready .any opsW19 (bitsB 11 7) = [3, 7] := by kernel_rfl
theorem frW19_3 : Region.free .any opsW19 (bitsB 11 7) 3 = true := by kernel_rfl
theorem stW19_3 : (bitsB 11 7).setIfInBounds 3 true = (bitsB 11 15) := by kernel_rfl
theorem rdW19_4 : Region.ready .any opsW19 (bitsB 11 15) = [4, 7] := by kernel_rfl
theorem frW19_4 : Region.free .any opsW19 (bitsB 11 15) 4 = true := by kernel_rfl
theorem stW19_4 : (bitsB 11 15).setIfInBounds 4 true = (bitsB 11 31) := by kernel_rfl
theorem rdW19_5 : Region.ready .any opsW19 (bitsB 11 31) = [5, 7] := by kernel_rfl
theorem frW19_5 : Region.free .any opsW19 (bitsB 11 31) 5 = true := by kernel_rfl
theorem stW19_5 : (bitsB 11 31).setIfInBounds 5 true = (bitsB 11 63) := by kernel_rfl
theorem rdW19_6 : Region.ready .any opsW19 (bitsB 11 63) = [6, 7] := by kernel_rfl
theorem frW19_6 : Region.free .any opsW19 (bitsB 11 63) 6 = true := by kernel_rfl
theorem stW19_6 : (bitsB 11 63).setIfInBounds 6 true = (bitsB 11 127) := by kernel_rfl
theorem rdW19_7 : Region.ready .any opsW19 (bitsB 11 127) = [7] := by kernel_rfl
theorem stW19_7 : (bitsB 11 127).setIfInBounds 7 true = (bitsB 11 255) := by kernel_rfl
theorem rdW19_8 : Region.ready .any opsW19 (bitsB 11 255) = [8] := by kernel_rfl
theorem stW19_8 : (bitsB 11 255).setIfInBounds 8 true = (bitsB 11 511) := by kernel_rfl
theorem rdW19_9 : Region.ready .any opsW19 (bitsB 11 511) = [9] := by kernel_rfl
theorem stW19_9 : (bitsB 11 511).setIfInBounds 9 true = (bitsB 11 1023) := by kernel_rfl
theorem rdW19_10 : Region.ready .any opsW19 (bitsB 11 1023) = [10] := by kernel_rfl
theorem stW19_10 : (bitsB 11 1023).setIfInBounds 10 true = (bitsB 11 2047) := by kernel_rfl
theorem rdW19_11 : Region.ready .any opsW19 (bitsB 11 2047) = [] := by kernel_rfl
end Go.Proofs.Ytdhklfbelplbcaa
namespace Go.Proofs.Ytdhklfbelplbcaa
set_option linter.unusedVariables false
set_option linter.unusedSimpArgs false
open Go.RowKit
set_option maxHeartbeats 64000000 in
set_option maxRecDepth 100000 in
theorem whole_b2 (wb : World) (bx g1 g2 n0 c0 go co gp cp : Nat) (A0 : Option Addr) (most : Bool) (bs : Nat → St) (sl0 sl3 sl4 sl5 sl6 sl10 sl12 sl13 sl14 sl15 sl16 sl17 sl18 sl19 sl20 sl21 sl22 sl23 sl24 sl25 sl26 sl27 sl28 sl29 sl30 sl31 sl32 sl33 sl34 sl35 sl36 sl37 sl38 sl39 sl40 sl41 sl42 sl43 sl44 sl45 sl46 sl47 sl48 sl49 sl50 sl51 sl52 sl53 sl54 sl55 sl56 sl57 sl58 sl59 sl60 sl61 sl62 sl63 sl64 sl65 sl66 sl67 sl68 sl69 sl70 sl71 sl72 sl73 sl74 sl75 sl76 sl77 sl78 sl79 sl80 sl81 sl82 sl83 sl84 sl85 sl86 sl87 sl88 sl89 sl90 sl91 sl92 sl93 sl94 sl95 sl96 sl97 sl98 sl99 sl100 sl101 sl102 sl103 sl104 sl105 sl106 sl107 sl108 sl109 sl110 sl111 sl112 sl113 sl114 sl115 sl116 sl117 sl118 sl119 sl120 sl121 sl122 sl123 sl124 sl125 sl126 sl127 sl128 sl129 sl130 sl131 sl132 sl133 sl134 sl135 sl136 sl137 sl138 sl139 sl140 sl141 sl142 sl143 sl144 sl145 sl146 sl147 sl148 sl149 sl150 sl151 sl152 sl153 sl154 sl155 sl156 sl157 sl158 sl159 sl160 sl161 sl162 sl163 sl164 sl165 sl166 sl167 sl168 sl169 sl170 sl171 sl172 sl173 sl174 sl175 sl176 sl177 sl178 sl179 sl180 sl181 sl182 sl183 sl184 sl185 sl186 sl187 sl188 sl189 sl190 sl191 sl192 sl193 sl194 sl195 sl196 sl197 sl198 sl199 sl200 sl201 sl202 sl203 sl204 sl205 sl206 sl207 sl208 sl209 sl210 sl211 sl212 sl213 sl214 sl215 sl216 sl217 sl218 sl219 sl220 sl221 sl222 sl223 sl224 sl225 sl226 sl227 sl228 sl229 sl230 sl231 sl232 sl233 sl234 sl235 sl236 sl237 sl238 sl239 sl240 sl241 sl242 sl243 sl244 sl245 sl246 sl247 sl248 sl249 sl250 sl251 sl252 sl253 sl254 sl255 sl256 sl257 sl258 sl259 sl260 sl261 sl262 sl263 sl264 sl265 sl266 sl267 sl268 sl269 sl270 sl271 sl272 sl273 sl274 sl275 sl276 sl277 sl278 sl279 sl280 : Value) (W : World) (Q : Exit → Act → World → Prop) (hbx : Hid (W.heap[bx]? = some (.cells #[.slice A0 n0 c0, .slice (some ⟨g1, 0, none⟩) 3 3, .slice (some ⟨g2, 0, none⟩) 4 4] 40 (0, 0)))) (hbn : Hid (bx ≠ go ∧ bx ≠ gp)) (hpr : Hid (PrOk (vis (fun b => b < wb.heap.size) W) (.agg #[.slice A0 n0 c0, .slice (some ⟨g1, 0, none⟩) 3 3, .slice (some ⟨g2, 0, none⟩) 4 4]) bs)) (hok : Hid (∀ j, j < 4 → StOk (bs j))) (hcnt : Hid (∀ j, j < 4 → (bs j).cnt ≤ 200)) (hT : Hid (Two wb W 9 115 go co gp cp (ownV fun _ => allL 3 (topC most)) (vsL fun _ => .slice none 0 0)))
    (hQ : Hid (∀ (c : _) (a : Act) (d : Option Tmp) (v : Value) (w : World), Q (.panic c) (a.put d v) w → Q (.panic c) a w)) (hexit : Hid (∀ (own : Nat → List Int) (vs : Nat → Value) (u11 u12 u13 u14 u51 u52 u53 u54 u55 u56 u57 u58 u59 u60 u61 u62 u63 u64 u65 u66 u67 u68 u69 u70 u71 u72 u73 u74 u75 u76 u77 u78 u79 u80 u81 u82 u83 u84 u85 u86 u87 u88 u89 u90 : Value) (W' : World), Hid (WhS wb W W' bs most go co gp cp own vs true 0) → Q .normal ⟨#[sl0, .bool most, .pointer (some ⟨bx, 0, none⟩), sl3, sl4, sl5, sl6, .int .i64 3, .slice (some ⟨go, 0, none⟩) 4 co, .slice (some ⟨gp, 0, none⟩) 4 cp, sl10, u11, u12, u13, u14, sl15, sl16, sl17, sl18, sl19, sl20, sl21, sl22, sl23, sl24, sl25, sl26, sl27, sl28, sl29, sl30, sl31, sl32, sl33, sl34, sl35, sl36, sl37, sl38, sl39, sl40, sl41, sl42, sl43, sl44, sl45, sl46, sl47, sl48, sl49, sl50, u51, u52, u53, u54, u55, u56, u57, u58, u59, u60, u61, u62, u63, u64, u65, u66, u67, u68, u69, u70, u71, u72, u73, u74, u75, u76, u77, u78, u79, u80, u81, u82, u83, u84, u85, u86, u87, u88, u89, u90, sl91, sl92, sl93, sl94, sl95, sl96, sl97, sl98, sl99, sl100, sl101, sl102, sl103, sl104, sl105, sl106, sl107, sl108, sl109, sl110, sl111, sl112, sl113, sl114, sl115, sl116, sl117, sl118, sl119, sl120, sl121, sl122, sl123, sl124, sl125, sl126, sl127, sl128, sl129, sl130, sl131, sl132, sl133, sl134, sl135, sl136, sl137, sl138, sl139, sl140, sl141, sl142, sl143, sl144, sl145, sl146, sl147, sl148, sl149, sl150, sl151, sl152, sl153, sl154, sl155, sl156, sl157, sl158, sl159, sl160, sl161, sl162, sl163, sl164, sl165, sl166, sl167, sl168, sl169, sl170, sl171, sl172, sl173, sl174, sl175, sl176, sl177, sl178, sl179, sl180, sl181, sl182, sl183, sl184, sl185, sl186, sl187, sl188, sl189, sl190, sl191, sl192, sl193, sl194, sl195, sl196, sl197, sl198, sl199, sl200, sl201, sl202, sl203, sl204, sl205, sl206, sl207, sl208, sl209, sl210, sl211, sl212, sl213, sl214, sl215, sl216, sl217, sl218, sl219, sl220, sl221, sl222, sl223, sl224, sl225, sl226, sl227, sl228, sl229, sl230, sl231, sl232, sl233, sl234, sl235, sl236, sl237, sl238, sl239, sl240, sl241, sl242, sl243, sl244, sl245, sl246, sl247, sl248, sl249, sl250, sl251, sl252, sl253, sl254, sl255, sl256, sl257, sl258, sl259, sl260, sl261, sl262, sl263, sl264, sl265, sl266, sl267, sl268, sl269, sl270, sl271, sl272, sl273, sl274, sl275, sl276, sl277, sl278, sl279, sl280], []⟩ W')) :
    (blkIn 2 Try.f43).wp Try.prog Q ⟨#[sl0, .bool most, .pointer (some ⟨bx, 0, none⟩), sl3, sl4, sl5, sl6, .int .i64 3, .slice (some ⟨go, 0, none⟩) 4 co, .slice (some ⟨gp, 0, none⟩) 4 cp, sl10, .bool true, sl12, sl13, sl14, sl15, sl16, sl17, sl18, sl19, sl20, sl21, sl22, sl23, sl24, sl25, sl26, sl27, sl28, sl29, sl30, sl31, sl32, sl33, sl34, sl35, sl36, sl37, sl38, sl39, sl40, sl41, sl42, sl43, sl44, sl45, sl46, sl47, sl48, sl49, sl50, sl51, sl52, sl53, sl54, sl55, sl56, sl57, sl58, sl59, sl60, sl61, sl62, sl63, sl64, sl65, sl66, sl67, sl68, sl69, sl70, sl71, sl72, sl73, sl74, sl75, sl76, sl77, sl78, sl79, sl80, sl81, sl82, sl83, sl84, sl85, sl86, sl87, sl88, sl89, sl90, sl91, sl92, sl93, sl94, sl95, sl96, sl97, sl98, sl99, sl100, sl101, sl102, sl103, sl104, sl105, sl106, sl107, sl108, sl109, sl110, sl111, sl112, sl113, sl114, sl115, sl116, sl117, sl118, sl119, sl120, sl121, sl122, sl123, sl124, sl125, sl126, sl127, sl128, sl129, sl130, sl131, sl132, sl133, sl134, sl135, sl136, sl137, sl138, sl139, sl140, sl141, sl142, sl143, sl144, sl145, sl146, sl147, sl148, sl149, sl150, sl151, sl152, sl153, sl154, sl155, sl156, sl157, sl158, sl159, sl160, sl161, sl162, sl163, sl164, sl165, sl166, sl167, sl168, sl169, sl170, sl171, sl172, sl173, sl174, sl175, sl176, sl177, sl178, sl179, sl180, sl181, sl182, sl183, sl184, sl185, sl186, sl187, sl188, sl189, sl190, sl191, sl192, sl193, sl194, sl195, sl196, sl197, sl198, sl199, sl200, sl201, sl202, sl203, sl204, sl205, sl206, sl207, sl208, sl209, sl210, sl211, sl212, sl213, sl214, sl215, sl216, sl217, sl218, sl219, sl220, sl221, sl222, sl223, sl224, sl225, sl226, sl227, sl228, sl229, sl230, sl231, sl232, sl233, sl234, sl235, sl236, sl237, sl238, sl239, sl240, sl241, sl242, sl243, sl244, sl245, sl246, sl247, sl248, sl249, sl250, sl251, sl252, sl253, sl254, sl255, sl256, sl257, sl258, sl259, sl260, sl261, sl262, sl263, sl264, sl265, sl266, sl267, sl268, sl269, sl270, sl271, sl272, sl273, sl274, sl275, sl276, sl277, sl278, sl279, sl280], []⟩ W := by
  have hall : Hid (∀ w, Calls Try.prog 56 #[.int .i64 3, .int .u8 49] w fun e w' => e = .returned (.string (st oneE)) ∧ Below w.heap.size w w') := Lib.hid (fun w => refall_to (n := 3) rfl (by omega) (by omega) (by omega) w)
  have hS0 : Hid (WhS wb W W bs most go co gp cp (fun _ => allL 3 (topC most)) (fun _ => .slice none 0 0) false 0) := Lib.hid ⟨hT.out, Kp.refl _ _ _, Pre.start most bs, (fun j hj hd => by rcases hd with hd | hd <;> first | cases hd | omega), (hT.out.ox.lt go rfl).2, (hT.out.oy.lt gp rfl).2⟩
  have hBgo : Hid (wb.heap.size ≤ go ∧ wb.heap.size ≤ gp) := Lib.hid ⟨own_base hT.out.ox _ rfl, own_base hT.out.oy _ rfl⟩
  conv => arg 2; whnf
  go_wp2_with fail
  go_loopg [11] (2 * muD most (fun _ => allL 3 (topC most)) + 1) (fun k v11 wr => ∃ (own : Nat → List Int) (vs : Nat → Value) (ag al : Bool), v11 = .bool ag ∧ (ag = false → al = true) ∧ k = 2 * muD most own + (if ag then 1 else 0) ∧ Hid (WhS wb W wr bs most go co gp cp own vs al 0))
  case atStart => exact ⟨_, _, true, false, rfl, (fun h => by cases h), rfl, hS0⟩
  case round =>
    obtain ⟨own0, vs0, ag0, al, rfl, hal, hgk, hS1⟩ := hrel
    cases ag0 with
    | false =>
      have hal' := hal rfl
      subst hal'
      clear hal hgk
      go_wp2_with fail
      exact hexit.out _ _ _ _ _ _ _ _ _ _ _ _ _ _ _ _ _ _ _ _ _ _ _ _ _ _ _ _ _ _ _ _ _ _ _ _ _ _ _ _ _ _ _ _ _ _ _ hS1
    | true =>
      have hgk' : Hid (gk = 2 * muD most own0 + 1) := Lib.hid (by simpa using hgk)
      clear hal hgk
      obtain ⟨wq, rfl⟩ : ∃ x, x = wr := ⟨_, rfl⟩
      go_wp2_with fail
      go_loopw [11, 12] (fun v11 v12 wr => ∃ (own : Nat → List Int) (vs : Nat → Value) (ag : Bool) (i : Nat), v11 = .bool ag ∧ v12 = .int .i64 (i : Nat) ∧ i ≤ 4 ∧ Hid (WhS wb W wr bs most go co gp cp own vs al i) ∧ Hid (muD most own ≤ muD most own0 ∧ (ag = true → muD most own < muD most own0))) (fun _ i _ => 4 - (intOf i).toNat)
      case atStart => exact ⟨own0, vs0, false, 0, rfl, rfl, by omega, hS1, Lib.hid ⟨Nat.le_refl _, (fun h => by cases h)⟩⟩
      case round =>
        obtain ⟨own, vs, ag, i, rfl, rfl, hi, hS, hmu⟩ := hrel
        have hbr := Lib.hid ((hS.out.kp.block bx (Array.getElem?_eq_some_iff.1 hbx.out).1 hbn.out.1 hbn.out.2).trans hbx.out)
        have y0 : wr.cell? ⟨bx, 0, none⟩ = some (.slice A0 n0 c0) := by rw [cell_of_row _ _ 0 _ 40 (0, 0) hbr.out]; rfl
        have y1 : wr.cell? ⟨bx, 1, none⟩ = some (.slice (some ⟨g1, 0, none⟩) 3 3) := by rw [cell_of_row _ _ 1 _ 40 (0, 0) hbr.out]; rfl
        have y2 : wr.cell? ⟨bx, 2, none⟩ = some (.slice (some ⟨g2, 0, none⟩) 4 4) := by rw [cell_of_row _ _ 2 _ 40 (0, 0) hbr.out]; rfl
        by_cases hlt : i < 4
        · have d1 : decide ((i : Int) < 4) = true := by simp; omega
          have i1 : (0 : Int) ≤ (i : Int) := by omega
          have i2 : (i : Int) < 4 := by omega
          have hpw := Lib.hid (hS.out.kp.pr hpr.out hBgo.out.1 hBgo.out.2)
          obtain ⟨Ab, cb, hbc, hbl, hbm, hrb⟩ : ∃ Ab cb, wr.cell? ⟨g2, i * 3 + 2, none⟩ = some (.slice Ab (bs i).len cb) ∧ (bs i).len ≤ cb ∧ cb ≤ 9223372036854775807 ∧ Hid (RdSt wr.cell? (bs i) Ab 0) := by
            obtain ⟨A0', n0', c0', g1', g2', he, hp2, hp3⟩ := hpw.out
            simp only [Value.agg.injEq, Array.mk.injEq, List.cons.injEq, Value.slice.injEq, Option.some.injEq, Addr.mk.injEq] at he
            obtain ⟨-, -, ⟨⟨rfl, -⟩, -⟩, -⟩ := he
            obtain ⟨-, vb, hv1, A, c, rfl, h1, h2, h3⟩ := hp3 i hlt
            exact ⟨A, c, hv1, h1, h2, Lib.hid h3⟩
          have hSd : (wr.alloc (.cells #[.slice A0 n0 c0, .slice (some ⟨g1, 0, none⟩) 3 3, .slice (some ⟨g2, 0, none⟩) 4 4, .bool most, .slice (some ⟨go, 0, none⟩) 4 co, .slice none 0 0] 117)).drew.cell? ⟨bx, 2, none⟩ = some (.slice (some ⟨g2, 0, none⟩) 4 4) ∧ (wr.alloc (.cells #[.slice A0 n0 c0, .slice (some ⟨g1, 0, none⟩) 3 3, .slice (some ⟨g2, 0, none⟩) 4 4, .bool most, .slice (some ⟨go, 0, none⟩) 4 co, .slice none 0 0] 117)).drew.cell? ⟨g2, i * 3 + 2, none⟩ = some (.slice Ab (bs i).len cb) := ⟨bl_cell (bl_alloc (Below.refl _ _) _).drew y2, bl_cell (bl_alloc (Below.refl _ _) _).drew hbc⟩
          have hSk : Hid (∀ w', Below wr.heap.size wr w' → (w'.cell? ⟨bx, 2, none⟩ = some (.slice (some ⟨g2, 0, none⟩) 4 4) ∧ w'.cell? ⟨g2, i * 3 + 2, none⟩ = some (.slice Ab (bs i).len cb))) := Lib.hid (fun w' hb => ⟨bl_cell hb y2, bl_cell hb hbc⟩)
          have hef := Lib.hid (effM_ef (most := most) hS.out.pre.1 (bs i) oneE oneE_ef)
          have hcl : Hid (∀ w5, Below wr.heap.size wr w5 → w5.heap[wr.heap.size]? = some (.cells #[.slice A0 n0 c0, .slice (some ⟨g1, 0, none⟩) 3 3, .slice (some ⟨g2, 0, none⟩) 4 4, .bool most, .slice (some ⟨go, 0, none⟩) 4 co, .slice none 0 0] 117 (0, 0)) → Calls Try.prog 57 #[.pointer (some ⟨wr.heap.size, 0, none⟩), .slice Ab (bs i).len cb, .string (st oneE)] w5 fun en w6 => en = .returned (.string (st (effM most own (bs i) oneE))) ∧ Hid (∃ v6 x6, WayS w6 wr.heap.size (.slice A0 n0 c0) (.slice (some ⟨g1, 0, none⟩) 3 3) (.slice (some ⟨g2, 0, none⟩) 4 4) (.slice (some ⟨go, 0, none⟩) 4 co) most (bs i) v6 (ptsN (bs i)) x6 ∧ Below wr.heap.size wr w6)) := Lib.hid (fun w5 hb5 hrow => by
            have hp5 := ptsN_le (bs i)
            have hc5 := hcnt.out i hlt
            have hway : WayS w5 wr.heap.size (.slice A0 n0 c0) (.slice (some ⟨g1, 0, none⟩) 3 3) (.slice (some ⟨g2, 0, none⟩) 4 4) (.slice (some ⟨go, 0, none⟩) 4 co) most (bs i) (.slice none 0 0) 0 [] := ⟨hrow, ⟨rfl, .inl ⟨rfl, rfl⟩⟩, PtsOk.nil _⟩
            have hro : ∃ A c, Value.slice (some ⟨go, 0, none⟩) 4 co = .slice A 4 c ∧ 4 ≤ c ∧ c ≤ 9223372036854775807 ∧ Rd wr A (ownV own) := by
              obtain ⟨A, c, e1, e2, e3, e4, -⟩ := Rd.own hS.out.two.ox
              exact ⟨A, c, e1, e2, e3, e4⟩
            obtain ⟨A', c', e1, e2, e3, e4⟩ := hro
            cases e1
            refine (wblock_any bs own hS.out.pre.1 most (bs i) ((bs i).cnt + 1) (bs i) (Nat.lt_succ_self _) wr w5 wr.heap.size 0 A0 (some ⟨g1, 0, none⟩) (some ⟨g2, 0, none⟩) (some ⟨go, 0, none⟩) n0 3 4 c0 3 4 co (.slice none 0 0) [] Ab cb oneE hpw.out e4 e2 e3 hrb.out hbl hbm (hok.out i hlt) (fun s h => h) hb5 (Nat.le_refl _) hway (by omega) oneE_ef).mono ?_
            rintro en w6 ⟨he, h6⟩
            obtain ⟨v6, x6, q1, q2⟩ := h6.out
            rw [Nat.zero_add] at q1
            exact ⟨he, Lib.hid ⟨v6, x6, q1, hb5.trans (hway.gr2 q2)⟩⟩)
          generalize hefx : effM most own (bs i) oneE = ei at *
          replace hefx := Lib.hid hefx
          clear hbl hbm
          have hbl0 : Hid (Below wr.heap.size wr (wr.alloc (.cells #[.slice A0 n0 c0, .slice (some ⟨g1, 0, none⟩) 3 3, .slice (some ⟨g2, 0, none⟩) 4 4, .bool most, .slice (some ⟨go, 0, none⟩) 4 co, .slice none 0 0] 117)).drew) := Lib.hid (bl_alloc (Below.refl _ _) _).drew
          have hrow0 : Hid ((wr.alloc (.cells #[.slice A0 n0 c0, .slice (some ⟨g1, 0, none⟩) 3 3, .slice (some ⟨g2, 0, none⟩) 4 4, .bool most, .slice (some ⟨go, 0, none⟩) 4 co, .slice none 0 0] 117)).drew.heap[wr.heap.size]? = some (.cells #[.slice A0 n0 c0, .slice (some ⟨g1, 0, none⟩) 3 3, .slice (some ⟨g2, 0, none⟩) 4 4, .bool most, .slice (some ⟨go, 0, none⟩) 4 co, .slice none 0 0] 117 (0, 0))) := Lib.hid (heap_alloc_new wr _)
          go_upto_region 19 with fail
          refine wp_region_heldR (S := fun w' => w'.cell? ⟨bx, 2, none⟩ = some (.slice (some ⟨g2, 0, none⟩) 4 4) ∧ w'.cell? ⟨g2, i * 3 + 2, none⟩ = some (.slice Ab (bs i).len cb)) opsW19 _ (by kernel_rfl) liW19 (by kernel_rfl) nsW19 (hSd) (fun hops hns hHeld => ?_)
          refine wpAnyH_takeR (i := 0) (v := ?vW19_1) hops hns rdW19_0 (by rfl) frW19_0 rfl (fun _ _ _ h => hQ.out _ _ _ _ _ h) stW19_0 (Or.inl ⟨by kernel_rfl, ?hyW19_1⟩) (by assumption) ?restW19_1
          case hyW19_1 => (intro w hSw; (try dsimp only at hSw); go_split_ands; go_simp; (try with_reducible rfl))
          try simp only [Act.put, List.setIfInBounds_toArray, List.set_cons_zero, List.set_cons_succ]
          refine wpAnyH_takeR (i := 1) (v := ?vW19_2) hops hns rdW19_1 (by rfl) frW19_1 rfl (fun _ _ _ h => hQ.out _ _ _ _ _ h) stW19_1 (Or.inl ⟨by kernel_rfl, ?hyW19_2⟩) (by assumption) ?restW19_2
          case hyW19_2 => (intro w hSw; (try dsimp only at hSw); go_split_ands; go_simp; (try with_reducible rfl))
          try simp only [Act.put, List.setIfInBounds_toArray, List.set_cons_zero, List.set_cons_succ]
          refine wpAnyH_takeR (i := 2) (v := ?vW19_3) hops hns rdW19_2 (by rfl) frW19_2 rfl (fun _ _ _ h => hQ.out _ _ _ _ _ h) stW19_2 (Or.inl ⟨by kernel_rfl, ?hyW19_3⟩) (by assumption) ?restW19_3
          case hyW19_3 => (intro w hSw; (try dsimp only at hSw); go_split_ands; go_simp; (try with_reducible rfl))
          try simp only [Act.put, List.setIfInBounds_toArray, List.set_cons_zero, List.set_cons_succ]
          refine wpAnyH_takeR (i := 3) (v := ?vW19_4) hops hns rdW19_3 (by rfl) frW19_3 rfl (fun _ _ _ h => hQ.out _ _ _ _ _ h) stW19_3 (Or.inl ⟨by kernel_rfl, ?hyW19_4⟩) (by assumption) ?restW19_4
          case hyW19_4 => (intro w hSw; (try dsimp only at hSw); go_split_ands; go_simp; (try with_reducible rfl))
          try simp only [Act.put, List.setIfInBounds_toArray, List.set_cons_zero, List.set_cons_succ]
          refine wpAnyH_takeR (i := 4) (v := ?vW19_5) hops hns rdW19_4 (by rfl) frW19_4 rfl (fun _ _ _ h => hQ.out _ _ _ _ _ h) stW19_4 (Or.inl ⟨by kernel_rfl, ?hyW19_5⟩) (by assumption) ?restW19_5
          case hyW19_5 => (intro w hSw; (try dsimp only at hSw); go_split_ands; go_simp; (try with_reducible rfl))
          try simp only [Act.put, List.setIfInBounds_toArray, List.set_cons_zero, List.set_cons_succ]
          refine wpAnyH_takeR (i := 5) (v := ?vW19_6) hops hns rdW19_5 (by rfl) frW19_5 rfl (fun _ _ _ h => hQ.out _ _ _ _ _ h) stW19_5 (Or.inl ⟨by kernel_rfl, ?hyW19_6⟩) (by assumption) ?restW19_6
          case hyW19_6 => (intro w hSw; (try dsimp only at hSw); go_split_ands; go_simp; (try with_reducible rfl))
          try simp only [Act.put, List.setIfInBounds_toArray, List.set_cons_zero, List.set_cons_succ]
          refine wpAnyH_takeR (i := 6) (v := ?vW19_7) hops hns rdW19_6 (by rfl) frW19_6 rfl (fun _ _ _ h => hQ.out _ _ _ _ _ h) stW19_6 (Or.inl ⟨by kernel_rfl, ?hyW19_7⟩) (by assumption) ?restW19_7
          case hyW19_7 => (intro w hSw; (try dsimp only at hSw); go_split_ands; go_simp; (try with_reducible rfl))
          try simp only [Act.put, List.setIfInBounds_toArray, List.set_cons_zero, List.set_cons_succ]
          refine wpAnyH_oneR (i := 7) (v := ?vW19_8) hops rdW19_7 rfl stW19_7 (Or.inl ⟨by kernel_rfl, ?hyW19_8⟩) (by assumption) ?restW19_8
          case hyW19_8 => (intro w hSw; (try dsimp only at hSw); go_split_ands; go_simp; (try with_reducible rfl))
          try simp only [Act.put, List.setIfInBounds_toArray, List.set_cons_zero, List.set_cons_succ]
          refine wpAnyH_readyR (rs := [8]) hops rdW19_8 (by simp) (AllReadyH.consR rfl stW19_8 (fun K hK => ?_) AllReadyH.nil)
          (go_simp; go_wp2_with (go_at_call 56; (with_reducible refine (hall.out _).mono ?_); rintro e w5 ⟨rfl, hb5⟩; have hrow5 := Lib.hid (bl_row hb5 hrow0.out); replace hb5 := Lib.hid (bl_then hbl0.out hbl0.out.size hb5)))
          refine hK.out _ _ (by first | with_reducible exact hSd | exact hSk.out _ hb5.out | exact hSk.out _ hb6.out) (fun hHeld => ?_)
          clear hK K
          try simp only [Act.put, List.setIfInBounds_toArray, List.set_cons_zero, List.set_cons_succ]
          refine wpAnyH_readyR (rs := [9]) hops rdW19_9 (by simp) (AllReadyH.consR rfl stW19_9 (fun K hK => ?_) AllReadyH.nil)
          (go_simp; go_wp2_with (go_at_call 57; (with_reducible refine (hcl.out w5 hb5.out hrow5.out).mono ?_); rintro e w6 ⟨rfl, h6⟩; obtain ⟨v6, x6, hW6, hb6⟩ := h6.out; replace hW6 := Lib.hid hW6; replace hb6 := Lib.hid hb6; clear h6))
          refine hK.out _ _ (by first | with_reducible exact hSd | exact hSk.out _ hb5.out | exact hSk.out _ hb6.out) (fun hHeld => ?_)
          clear hK K
          try simp only [Act.put, List.setIfInBounds_toArray, List.set_cons_zero, List.set_cons_succ]
          refine wpAnyH_oneR (i := 10) (v := ?vW19_9) hops rdW19_10 rfl stW19_10 (Or.inl ⟨by kernel_rfl, ?hyW19_9⟩) (by assumption) ?restW19_9
          case hyW19_9 => (intro w hSw; go_simp; (try with_reducible rfl))
          try simp only [Act.put, List.setIfInBounds_toArray, List.set_cons_zero, List.set_cons_succ]
          refine wpAnyH_doneR hops rdW19_11 ?_
          have hS6 := Lib.hid (hS.out.below hb6.out)
          have y5 := hW6.out.cells.2.2.2.2.2.1
          have hP6 : Hid (PtV w6 (bs i) W.heap.size v6) := Lib.hid (PtV.of_way hW6.out hS.out.kp.size)
          obtain ⟨A6, c6, rfl⟩ : ∃ A c, v6 = .slice A (ptsN (bs i)) c := by obtain ⟨A, c, xs, h, -⟩ := hP6.out; exact ⟨A, c, h⟩
          have zp := own_at hS6.out.two.oy i (vsL_at vs hlt)
          have zf := (own_cell hS6.out.two.oy i (by omega)).2
          clear y0 y1 y2 hbc
          go_upto_region 21 with fail
          obtain ⟨Wp, hWp⟩ : ∃ Z, Z = w6.setCell ⟨gp, i, none⟩ (.slice A6 (ptsN (bs i)) c6) := ⟨_, rfl⟩
          have hSp : Hid (WhS wb W Wp bs most go co gp cp own (updV vs i (.slice A6 (ptsN (bs i)) c6)) al (i + 1)) := Lib.hid (by rw [hWp]; exact hS6.out.setP hlt hP6.out)
          rw [← hWp]
          replace hWp := Lib.hid hWp
          clear zp zf y5
          have zo := own_at hSp.out.two.ox i (ownV_at own i hlt)
          have zof := (own_cell hSp.out.two.ox i (by omega)).2
          have hi4 : i + 1 ≤ 4 := by omega
          by_cases heq : ei = own i
          · have dd : ((st ei).toList == (st (own i)).toList) = true := by rw [eqS_ef hef.out (hS.out.pre.1 i hlt)]; simp [heq]
            replace heq := Lib.hid heq
            go_wp2_with fail
            exact ⟨⟨own, _, ag, i + 1, rfl, by go_num, hi4, hSp, hmu⟩, by simp [intOf]; omega⟩
          · have dd : ((st ei).toList == (st (own i)).toList) = false := by rw [eqS_ef hef.out (hS.out.pre.1 i hlt)]; simp [heq]
            have hmu2 : Hid (muD most (updE own i ei) ≤ muD most own0 ∧ (true = true → muD most (updE own i ei) < muD most own0)) := Lib.hid (by
              have h1 := muD_upd (most := most) hS.out.pre.1 hlt hef.out (by have := hS.out.pre.2 i hlt; rw [hefx.out] at this; exact this) heq
              have h2 := hmu.out.1
              exact ⟨by omega, fun _ => by omega⟩)
            replace heq := Lib.hid heq
            go_wp2_with fail
            exact ⟨⟨updE own i ei, _, true, i + 1, rfl, by go_num, hi4, Lib.hid (hSp.out.setO hlt hefx.out), hmu2⟩, by simp [intOf]; omega⟩
        · have hi4 : i = 4 := by omega
          subst hi4
          have d1 : decide (((4 : Nat) : Int) < 4) = false := by decide
          go_wp2_with fail
          go_roundg (2 * muD most own + (if ag then 1 else 0))
          case measure =>
            have h1 := hgk'.out
            obtain ⟨h2, h3⟩ := hmu.out
            rw [h1]
            cases ag with
            | true => have := h3 rfl; simp; omega
            | false => simp; omega
          case rel => exact ⟨own, vs, ag, true, rfl, (fun _ => rfl), rfl, Lib.hid (hS.out.restart (.inr rfl))⟩
end Go.Proofs.Ytdhklfbelplbcaa
