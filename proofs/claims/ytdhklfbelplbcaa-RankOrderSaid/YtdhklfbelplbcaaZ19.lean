/-
  The orders of the drawn region 31 of Report.
  Report, block 8: the edges of a root.
  f64 led: what a lock leads to.
-/
import Derived.Test.YtdhklfbelplbcaaZ14
import Derived.Test.YtdhklfbelplbcaaZ18
import Derived.Test.YtdhklfbelplbcaaZ10
import Derived.Test.YtdhklfbelplbcaaZ13
namespace Go.Proofs.Ytdhklfbelplbcaa
set_option maxRecDepth 100000
noncomputable def opsE31 : Array Oper := regIn 31 Try.f21
theorem nsE31 : Region.noSelect opsE31 = true := by kernel_rfl
theorem liE31 : Array.replicate opsE31.size false = (bitsB 18 0) := by kernel_rfl
theorem rdE31_0 : Region.ready .any opsE31 (bitsB 18 0) = [0, 2, 4, 8, 10] := by kernel_rfl
theorem frE31_0 : Region.free .any opsE31 (bitsB 18 0) 0 = true := by kernel_rfl
theorem laE31_0 : lateOn .any opsE31 17 0 = true := by kernel_rfl
theorem stE31_0 : (bitsB 18 0).setIfInBounds 0 true = (bitsB 18 1) := by kernel_rfl
theorem rdE31_1 : Region.ready .any opsE31 (bitsB 18 1) = [1, 2, 4, 8, 10] := by kernel_rfl
theorem frE31_1 : Region.free .any opsE31 (bitsB 18 1) 1 = true := by kernel_rfl
theorem laE31_1 : lateOn .any opsE31 17 1 = true := by kernel_rfl
theorem stE31_1 : (bitsB 18 1).setIfInBounds 1 true = (bitsB 18 3) := by kernel_rfl
theorem rdE31_2 : Region.ready .any opsE31 (bitsB 18 3) = [2, 4, 8, 10] := by kernel_rfl
theorem frE31_2 : Region.free .any opsE31 (bitsB 18 3) 2 = true := by kernel_rfl
theorem laE31_2 : lateOn .any opsE31 17 2 = true := by kernel_rfl
theorem stE31_2 : (bitsB 18 3).setIfInBounds 2 true = (bitsB 18 7) := by kernel_rfl
theorem rdE31_3 : Region.ready .any opsE31 (bitsB 18 7) = [3, 4, 8, 10] := by kernel_rfl
theorem frE31_3 : Region.free .any opsE31 (bitsB 18 7) 3 = true := by kernel_rfl
theorem laE31_3 : lateOn .any opsE31 17 3 = true := by kernel_rfl
theorem stE31_3 : (bitsB 18 7).setIfInBounds 3 true = (bitsB 18 15) := by kernel_rfl
theorem rdE31_4 : Region.ready .any opsE31 (bitsB 18 15) = [4, 8, 10] := by kernel_rfl
theorem frE31_4 : Region.free .any opsE31 (bitsB 18 15) 4 = true := by kernel_rfl
theorem laE31_4 : lateOn .any opsE31 17 4 = true := by kernel_rfl
theorem stE31_4 : (bitsB 18 15).setIfInBounds 4 true = (bitsB 18 31) := by kernel_rfl
theorem rdE31_5 : Region.ready .any opsE31 (bitsB 18 31) = [5, 8, 10] := by kernel_rfl
theorem frE31_5 : Region.free .any opsE31 (bitsB 18 31) 5 = true := by kernel_rfl
theorem laE31_5 : lateOn .any opsE31 17 5 = true := by kernel_rfl
theorem stE31_5 : (bitsB 18 31).setIfInBounds 5 true = (bitsB 18 63) := by kernel_rfl
theorem rdE31_6 : Region.ready .any opsE31 (bitsB 18 63) = [6, 8, 10] := by kernel_rfl
theorem frE31_6 : Region.free .any opsE31 (bitsB 18 63) 6 = true := by kernel_rfl
theorem laE31_6 : lateOn .any opsE31 17 6 = true := by kernel_rfl
theorem stE31_6 : (bitsB 18 63).setIfInBounds 6 true = (bitsB 18 127) := by kernel_rfl
theorem rdE31_7 : Region.ready .any opsE31 (bitsB 18 127) = [7, 8, 10] := by kernel_rfl
theorem frE31_7 : Region.free .any opsE31 (bitsB 18 127) 7 = true := by kernel_rfl
theorem laE31_7 : lateOn .any opsE31 17 7 = true := by kernel_rfl
theorem stE31_7 : (bitsB 18 127).setIfInBounds 7 true = (bitsB 18 255) := by kernel_rfl
theorem rdE31_8 : Region.ready .any opsE31 (bitsB 18 255) = [8, 10] := by kernel_rfl
theorem frE31_8 : Region.free .any opsE31 (bitsB 18 255) 8 = true := by kernel_rfl
theorem laE31_8 : lateOn .any opsE31 17 8 = true := by kernel_rfl
theorem stE31_8 : (bitsB 18 255).setIfInBounds 8 true = (bitsB 18 511) := by kernel_rfl
theorem rdE31_9 : Region.ready .any opsE31 (bitsB 18 511) = [9, 10] := by kernel_rfl
theorem frE31_9 : Region.free .any opsE31 (bitsB 18 511) 9 = true := by kernel_rfl
theorem laE31_9 : lateOn .any opsE31 17 9 = true := by kernel_rfl
theorem stE31_9 : (bitsB 18 511).setIfInBounds 9 true = (bitsB 18 1023) := by kernel_rfl
theorem rdE31_10 : Region.ready .any opsE31 (bitsB 18 1023) = [10] := by kernel_rfl
theorem stE31_10 : (bitsB 18 1023).setIfInBounds 10 true = (bitsB 18 2047) := by kernel_rfl
theorem rdE31_11 : Region.ready .any opsE31 (bitsB 18 2047) = [11] := by kernel_rfl
theorem stE31_11 : (bitsB 18 2047).setIfInBounds 11 true = (bitsB 18 4095) := by kernel_rfl
theorem rdE31_12 : Region.ready .any opsE31 (bitsB 18 4095) = [12] := by kernel_rfl
theorem stE31_12 : (bitsB 18 4095).setIfInBounds 12 true = (bitsB 18 8191) := by kernel_rfl
theorem rdE31_13 : Region.ready .any opsE31 (bitsB 18 8191) = [13] := by kernel_rfl
theorem stE31_13 : (bitsB 18 8191).setIfInBounds 13 true = (bitsB 18 16383) := by kernel_rfl
theorem rdE31_14 : Region.ready .any opsE31 (bitsB 18 16383) = [14] := by kernel_rfl
theorem stE31_14 : (bitsB 18 16383).setIfInBounds 14 true = (bitsB 18 32767) := by kernel_rfl
theorem rdE31_15 : Region.ready .any opsE31 (bitsB 18 32767) = [15] := by kernel_rfl
theorem stE31_15 : (bitsB 18 32767).setIfInBounds 15 true = (bitsB 18 65535) := by kernel_rfl
theorem rdE31_16 : Region.ready .any opsE31 (bitsB 18 65535) = [16] := by kernel_rfl
theorem stE31_16 : (bitsB 18 65535).setIfInBounds 16 true = (bitsB 18 131071) := by kernel_rfl
theorem rdE31_17 : Region.ready .any opsE31 (bitsB 18 131071) = [17] := by kernel_rfl
theorem stE31_17 : (bitsB 18 131071).setIfInBounds 17 true = (bitsB 18 262143) := by kernel_rfl
theorem rdE31_18 : Region.ready .any opsE31 (bitsB 18 262143) = [] := by kernel_rfl

end Go.Proofs.Ytdhklfbelplbcaa
namespace Go.Proofs.Ytdhklfbelplbcaa
set_option linter.unusedVariables false
set_option linter.unusedSimpArgs false
open Go.RowKit
set_option maxHeartbeats 64000000 in
set_option maxRecDepth 100000 in
theorem report_b8 (w w2 : World) (b0 g1 go b9 na c9 nq9 d9 ns9 e9 n : Nat) (A9 B9 C9 : Option Addr) (m9 y9 : ByteArray) (vr ve : Value) (es : List (ByteArray × ByteArray)) (sl0 sl1 sl3 sl4 sl6 sl7 sl8 sl10 sl11 sl12 sl13 sl14 sl15 sl16 sl18 sl19 sl20 sl21 sl22 sl23 sl24 sl25 sl26 sl27 sl28 sl29 sl30 sl31 sl32 sl33 sl34 sl35 sl36 sl37 sl38 sl39 sl40 sl41 sl42 sl43 sl44 sl45 sl46 sl47 sl48 sl49 sl50 sl51 sl52 sl53 sl54 sl55 sl56 sl57 sl58 sl59 sl60 sl61 sl62 sl63 sl64 sl65 sl66 sl67 sl68 sl69 sl70 sl71 sl72 sl73 sl74 sl75 sl76 sl77 sl78 sl79 sl80 sl81 sl82 sl83 sl84 sl85 sl86 sl87 sl88 sl89 sl90 sl91 sl92 sl93 sl94 sl95 sl96 sl97 sl98 sl99 sl100 sl101 sl102 sl103 sl104 sl105 sl106 sl107 sl108 sl109 sl110 sl111 sl112 sl113 sl114 sl115 sl116 sl117 sl118 sl119 sl120 sl121 sl122 sl123 sl124 sl125 sl126 sl127 sl128 sl129 sl130 sl131 sl132 sl133 sl134 sl135 sl136 sl137 sl138 sl139 sl140 sl141 sl142 sl143 sl144 sl145 sl146 sl147 sl148 sl149 sl150 sl151 sl152 sl153 sl154 sl155 sl156 sl157 sl158 sl159 sl160 sl161 sl162 sl163 sl164 sl165 sl166 sl167 sl168 sl169 sl170 sl171 sl172 sl173 sl174 sl175 sl176 : Value) (W : World) (Q : Exit → Act → World → Prop) (hR : Hid (RepS w w2 W go vr ve n es)) (h9 : Hid (W.heap[b9]? = some (.cells ([.string m9, .string y9, .slice A9 na c9, .slice B9 nq9 d9, .slice C9 ns9 e9] : List Value).toArray 78 (0, 0)))) (hne : Hid (b9 ≠ go)) (hq : Hid (SlAq w (.slice B9 nq9 d9) nq9)) (hbox : Hid (∀ w', W.grownBy w' (some go) → w'.cell? ⟨b0, 1, none⟩ = some (.slice (some ⟨g1, 0, none⟩) 3 3))) (hlk : Hid (∀ i, i < 3 → w.cell? ⟨g1, i * 2, none⟩ = some (.string (lkN i)))) (hnq : nq9 ≤ 800) (hes : es.length ≤ 90000)
    (hQ : Hid (∀ (c : _) (a : Act) (d : Option Tmp) (v : Value) (w : World), Q (.panic c) (a.put d v) w → Q (.panic c) a w)) (hexit : Hid (∀ (u17 u18 u132 u133 u134 u135 u136 u137 u138 u139 u140 u141 u142 u143 u144 u145 u146 u147 u148 u149 u150 u151 u152 u153 u154 u155 u156 u157 u158 u159 u160 u161 u162 u163 u164 u165 u166 u167 u168 u169 u170 : Value) (W' : World), Hid (∃ ve' es', es'.length ≤ es.length + 2400 ∧ RepS w w2 W' go vr ve' n es' ∧ W.grownBy W' (some go)) → Q .normal ⟨#[sl0, sl1, .pointer (some ⟨b0, 0, none⟩), sl3, sl4, .pointer (some ⟨go, 0, none⟩), sl6, sl7, sl8, .pointer (some ⟨b9, 0, none⟩), sl10, sl11, sl12, sl13, sl14, sl15, sl16, u17, u18, sl19, sl20, sl21, sl22, sl23, sl24, sl25, sl26, sl27, sl28, sl29, sl30, sl31, sl32, sl33, sl34, sl35, sl36, sl37, sl38, sl39, sl40, sl41, sl42, sl43, sl44, sl45, sl46, sl47, sl48, sl49, sl50, sl51, sl52, sl53, sl54, sl55, sl56, sl57, sl58, sl59, sl60, sl61, sl62, sl63, sl64, sl65, sl66, sl67, sl68, sl69, sl70, sl71, sl72, sl73, sl74, sl75, sl76, sl77, sl78, sl79, sl80, sl81, sl82, sl83, sl84, sl85, sl86, sl87, sl88, sl89, sl90, sl91, sl92, sl93, sl94, sl95, sl96, sl97, sl98, sl99, sl100, sl101, sl102, sl103, sl104, sl105, sl106, sl107, sl108, sl109, sl110, sl111, sl112, sl113, sl114, sl115, sl116, sl117, sl118, sl119, sl120, sl121, sl122, sl123, sl124, sl125, sl126, sl127, sl128, sl129, sl130, sl131, u132, u133, u134, u135, u136, u137, u138, u139, u140, u141, u142, u143, u144, u145, u146, u147, u148, u149, u150, u151, u152, u153, u154, u155, u156, u157, u158, u159, u160, u161, u162, u163, u164, u165, u166, u167, u168, u169, u170, sl171, sl172, sl173, sl174, sl175, sl176], []⟩ W')) :
    (blkIn 8 Try.f21).wp Try.prog Q ⟨#[sl0, sl1, .pointer (some ⟨b0, 0, none⟩), sl3, sl4, .pointer (some ⟨go, 0, none⟩), sl6, sl7, sl8, .pointer (some ⟨b9, 0, none⟩), sl10, sl11, sl12, sl13, sl14, sl15, sl16, .int .i64 0, sl18, sl19, sl20, sl21, sl22, sl23, sl24, sl25, sl26, sl27, sl28, sl29, sl30, sl31, sl32, sl33, sl34, sl35, sl36, sl37, sl38, sl39, sl40, sl41, sl42, sl43, sl44, sl45, sl46, sl47, sl48, sl49, sl50, sl51, sl52, sl53, sl54, sl55, sl56, sl57, sl58, sl59, sl60, sl61, sl62, sl63, sl64, sl65, sl66, sl67, sl68, sl69, sl70, sl71, sl72, sl73, sl74, sl75, sl76, sl77, sl78, sl79, sl80, sl81, sl82, sl83, sl84, sl85, sl86, sl87, sl88, sl89, sl90, sl91, sl92, sl93, sl94, sl95, sl96, sl97, sl98, sl99, sl100, sl101, sl102, sl103, sl104, sl105, sl106, sl107, sl108, sl109, sl110, sl111, sl112, sl113, sl114, sl115, sl116, sl117, sl118, sl119, sl120, sl121, sl122, sl123, sl124, sl125, sl126, sl127, sl128, sl129, sl130, sl131, sl132, sl133, sl134, sl135, sl136, sl137, sl138, sl139, sl140, sl141, sl142, sl143, sl144, sl145, sl146, sl147, sl148, sl149, sl150, sl151, sl152, sl153, sl154, sl155, sl156, sl157, sl158, sl159, sl160, sl161, sl162, sl163, sl164, sl165, sl166, sl167, sl168, sl169, sl170, sl171, sl172, sl173, sl174, sl175, sl176], []⟩ W := by
  let hbp := fun (e : Exit) (a : Act) (w : World) => bodyPost Try.prog Try.f21 (fun _ _ => True) e a w
  conv => arg 2; whnf
  go_wp2_with fail
  go_loopw [17] (fun v17 wr => ∃ (x : Nat) (ve' : Value) (es' : List (ByteArray × ByteArray)), v17 = .int .i64 (x : Nat) ∧ x ≤ nq9 ∧ es'.length ≤ es.length + x * 3 ∧ Hid (RepS w w2 wr go vr ve' n es') ∧ Hid (W.grownBy wr (some go))) (fun v _ => nq9 - (intOf v).toNat)
  case atStart => exact ⟨0, ve, es, rfl, Nat.zero_le _, by omega, hR, Lib.hid (grown_refl _ _)⟩
  case round =>
    obtain ⟨wx, rfl⟩ : ∃ x, x = wr := ⟨_, rfl⟩
    obtain ⟨x, ve, es', rfl, hx, hes', hR, hK⟩ := hrel
    have hx9 := Lib.hid (row_kept h9.out hK.out hne.out)
    have t2 : wx.cell? ⟨b9, 3, none⟩ = some (.slice B9 nq9 d9) := by rw [cell_of_row _ _ 3 _ 78 (0, 0) hx9.out]; rfl
    by_cases hlt : x < nq9
    · have d1 : decide ((x : Int) < (nq9 : Int)) = true := by simp; omega
      have x1 : (0 : Int) ≤ (x : Int) := by omega
      have x2 : (x : Int) < (nq9 : Int) := by omega
      obtain ⟨ga, f1, k1, v1, E1, rfl, hE1, hca⟩ := hq.out.cells hlt
      replace hca := Lib.hid hca
      replace hE1 := Lib.hid hE1
      go_wp2_with fail
      go_loopw [18] (fun v18 wr => ∃ (h : Nat) (ve' : Value) (es' : List (ByteArray × ByteArray)), v18 = .int .i64 (h : Nat) ∧ h ≤ 3 ∧ es'.length ≤ es.length + x * 3 + h ∧ Hid (RepS w w2 wr go vr ve' n es') ∧ Hid (W.grownBy wr (some go))) (fun v _ => 3 - (intOf v).toNat)
      case atStart => exact ⟨0, ve, es', rfl, by omega, by omega, hR, hK⟩
      case round =>
        obtain ⟨wh, rfl⟩ : ∃ x, x = wr := ⟨_, rfl⟩
        obtain ⟨h, ve, es', rfl, hh, hes', hR, hK⟩ := hrel
        have hy9 := Lib.hid (row_kept h9.out hK.out hne.out)
        clear t2 hx9
        have y1 := hbox.out _ hK.out
        by_cases hyl : h < 3
        · have d2 : decide ((h : Int) < 3) = true := by simp; omega
          have h1 : (0 : Int) ≤ (h : Int) := by omega
          have h2 : (h : Int) < 3 := by omega
          have hSk : Hid (∀ w', Below wh.heap.size wh w' → (w'.cell? ⟨go, 1, none⟩ = some ve ∧ w'.cell? ⟨b0, 1, none⟩ = some (.slice (some ⟨g1, 0, none⟩) 3 3) ∧ w'.cell? ⟨g1, h * 2, none⟩ = some (.string (lkN h)) ∧ w'.cell? ⟨b9, 3, none⟩ = some (.slice (some ⟨ga, 0, none⟩) nq9 d9) ∧ w'.cell? ⟨ga, x * 4 + 2, none⟩ = some (.string v1))) := Lib.hid (fun w' hb => by
            have q1 := bl_then hR.out.hB hR.out.hB.size hb
            have r1 := bl_row hb hy9.out
            have r2 := bl_row hb hR.out.bx
            exact ⟨by rw [cell_of_row _ _ 1 _ 48 (0, 0) r2]; rfl, bl_cell hb y1, bl_cell q1 (hlk.out h hyl), by rw [cell_of_row _ _ 3 _ 78 (0, 0) r1]; rfl, (hca.out w' q1).2.2.1⟩)
          have t2 : wh.cell? ⟨b9, 3, none⟩ = some (.slice (some ⟨ga, 0, none⟩) nq9 d9) := by rw [cell_of_row _ _ 3 _ 78 (0, 0) hy9.out]; rfl
          have t3 := (hca.out wh hR.out.hB).2.2.2
          have hm3 : Hid ((3 : Nat) ≤ 1000) := Lib.hid (by omega)
          obtain ⟨q, hqe⟩ : ∃ q, hasL E1 (h : Nat) = q := ⟨_, rfl⟩
          have hha : Hid (∀ w', Calls Try.prog 40 #[.string (st E1), .int .i64 (h : Nat)] w' fun e w'' => e = .returned (.bool q) ∧ Below w'.heap.size w' w'') := Lib.hid (fun w' => by rw [← hqe]; exact refhas_e (m := 3) (Lib.hid rfl) (Lib.hid hE1.out) hm3 w')
          replace hqe := Lib.hid hqe
          cases q with
          | false =>
            go_wp2_with (go_at_call 40; (with_reducible refine (hha.out _).mono ?_); rintro e w5 ⟨rfl, hb5⟩)
            exact ⟨⟨h + 1, ve, es', by go_num, by omega, by omega, Lib.hid (hR.out.below hb5), Lib.hid (grown_then hK.out (.inl rfl) (grown_of_below hb5 (some go)))⟩, by simp [intOf]; omega⟩
          | true =>
            go_upto_region 31 with (go_at_call 40; (with_reducible refine (hha.out _).mono ?_); rintro e w5 ⟨rfl, hb5⟩; have hR5 := Lib.hid (hR.out.below hb5); have hK5 := Lib.hid (grown_then hK.out (.inl rfl) (grown_of_below hb5 (some go))); replace hb5 := Lib.hid hb5)
            have hSk5 : Hid (∀ w', Below w5.heap.size w5 w' → (w'.cell? ⟨go, 1, none⟩ = some ve ∧ w'.cell? ⟨b0, 1, none⟩ = some (.slice (some ⟨g1, 0, none⟩) 3 3) ∧ w'.cell? ⟨g1, h * 2, none⟩ = some (.string (lkN h)) ∧ w'.cell? ⟨b9, 3, none⟩ = some (.slice (some ⟨ga, 0, none⟩) nq9 d9) ∧ w'.cell? ⟨ga, x * 4 + 2, none⟩ = some (.string v1))) := Lib.hid (fun w' hb => hSk.out w' (bl_then hb5.out hb5.out.size hb))
            clear hSk hR hK t2 t3 y1 hy9
            obtain ⟨wh, rfl⟩ : ∃ x, x = w5 := ⟨_, rfl⟩
            have hSk := hSk5
            have hR := hR5
            have hlink : Hid (∀ w', Below wh.heap.size wh w' → Calls Try.prog 41 #[ve, .agg #[.string (lkN h), .string v1]] w' (LkPost w' ve es'.length)) := Lib.hid (fun w' hb => linked_any ve es' (lkN h) v1 w' (hR.out.ed.below hb) (by omega))
            skip
            refine wp_region_FR (S := fun w' => Below wh.heap.size wh w') opsE31 _ 17 (by kernel_rfl) liE31 (by kernel_rfl) nsE31 ((Below.refl wh.heap.size wh).drew) (fun hops hns hHeld => ?_)
            refine wpAnyF_takeR (i := 0) (v := ?vE31x_1) hops hns rdE31_0 (by rfl) frE31_0 laE31_0 rfl (fun _ _ _ h => hQ.out _ _ _ _ _ h) stE31_0 (Or.inl ⟨by kernel_rfl, ?hyE31x_1⟩) (by assumption) ?restE31x_1
            case hyE31x_1 => (intro w hSw; obtain ⟨y0, y1, y2, y3, y4⟩ := hSk.out _ hSw; clear hSw; go_simp; (try with_reducible rfl))
            try simp only [Act.put, sA, sB, sC]
            refine wpAnyF_takeR (i := 1) (v := ?vE31x_2) hops hns rdE31_1 (by rfl) frE31_1 laE31_1 rfl (fun _ _ _ h => hQ.out _ _ _ _ _ h) stE31_1 (Or.inl ⟨by kernel_rfl, ?hyE31x_2⟩) (by assumption) ?restE31x_2
            case hyE31x_2 => (intro w hSw; obtain ⟨y0, y1, y2, y3, y4⟩ := hSk.out _ hSw; clear hSw; go_simp; (try with_reducible rfl))
            try simp only [Act.put, sA, sB, sC]
            refine wpAnyF_takeR (i := 2) (v := ?vE31x_3) hops hns rdE31_2 (by rfl) frE31_2 laE31_2 rfl (fun _ _ _ h => hQ.out _ _ _ _ _ h) stE31_2 (Or.inl ⟨by kernel_rfl, ?hyE31x_3⟩) (by assumption) ?restE31x_3
            case hyE31x_3 => (intro w hSw; obtain ⟨y0, y1, y2, y3, y4⟩ := hSk.out _ hSw; clear hSw; go_simp; (try with_reducible rfl))
            try simp only [Act.put, sA, sB, sC]
            refine wpAnyF_takeR (i := 3) (v := ?vE31x_4) hops hns rdE31_3 (by rfl) frE31_3 laE31_3 rfl (fun _ _ _ h => hQ.out _ _ _ _ _ h) stE31_3 (Or.inl ⟨by kernel_rfl, ?hyE31x_4⟩) (by assumption) ?restE31x_4
            case hyE31x_4 => (intro w hSw; obtain ⟨y0, y1, y2, y3, y4⟩ := hSk.out _ hSw; clear hSw; go_simp; (try with_reducible rfl))
            try simp only [Act.put, sA, sB, sC]
            refine wpAnyF_takeR (i := 4) (v := ?vE31x_5) hops hns rdE31_4 (by rfl) frE31_4 laE31_4 rfl (fun _ _ _ h => hQ.out _ _ _ _ _ h) stE31_4 (Or.inl ⟨by kernel_rfl, ?hyE31x_5⟩) (by assumption) ?restE31x_5
            case hyE31x_5 => (intro w hSw; obtain ⟨y0, y1, y2, y3, y4⟩ := hSk.out _ hSw; clear hSw; go_simp; (try with_reducible rfl))
            try simp only [Act.put, sA, sB, sC]
            refine wpAnyF_takeR (i := 5) (v := ?vE31x_6) hops hns rdE31_5 (by rfl) frE31_5 laE31_5 rfl (fun _ _ _ h => hQ.out _ _ _ _ _ h) stE31_5 (Or.inl ⟨by kernel_rfl, ?hyE31x_6⟩) (by assumption) ?restE31x_6
            case hyE31x_6 => (intro w hSw; obtain ⟨y0, y1, y2, y3, y4⟩ := hSk.out _ hSw; clear hSw; go_simp; (try with_reducible rfl))
            try simp only [Act.put, sA, sB, sC]
            refine wpAnyF_takeR (i := 6) (v := ?vE31x_7) hops hns rdE31_6 (by rfl) frE31_6 laE31_6 rfl (fun _ _ _ h => hQ.out _ _ _ _ _ h) stE31_6 (Or.inl ⟨by kernel_rfl, ?hyE31x_7⟩) (by assumption) ?restE31x_7
            case hyE31x_7 => (intro w hSw; obtain ⟨y0, y1, y2, y3, y4⟩ := hSk.out _ hSw; clear hSw; go_simp; (try with_reducible rfl))
            try simp only [Act.put, sA, sB, sC]
            refine wpAnyF_takeR (i := 7) (v := ?vE31x_8) hops hns rdE31_7 (by rfl) frE31_7 laE31_7 rfl (fun _ _ _ h => hQ.out _ _ _ _ _ h) stE31_7 (Or.inl ⟨by kernel_rfl, ?hyE31x_8⟩) (by assumption) ?restE31x_8
            case hyE31x_8 => (intro w hSw; obtain ⟨y0, y1, y2, y3, y4⟩ := hSk.out _ hSw; clear hSw; go_simp; (try with_reducible rfl))
            try simp only [Act.put, sA, sB, sC]
            refine wpAnyF_takeR (i := 8) (v := ?vE31x_9) hops hns rdE31_8 (by rfl) frE31_8 laE31_8 rfl (fun _ _ _ h => hQ.out _ _ _ _ _ h) stE31_8 (Or.inl ⟨by kernel_rfl, ?hyE31x_9⟩) (by assumption) ?restE31x_9
            case hyE31x_9 => (intro w hSw; obtain ⟨y0, y1, y2, y3, y4⟩ := hSk.out _ hSw; clear hSw; go_simp; (try with_reducible rfl))
            try simp only [Act.put, sA, sB, sC]
            refine wpAnyF_takeR (i := 9) (v := ?vE31x_10) hops hns rdE31_9 (by rfl) frE31_9 laE31_9 rfl (fun _ _ _ h => hQ.out _ _ _ _ _ h) stE31_9 (Or.inl ⟨by kernel_rfl, ?hyE31x_10⟩) (by assumption) ?restE31x_10
            case hyE31x_10 => (intro w hSw; obtain ⟨y0, y1, y2, y3, y4⟩ := hSk.out _ hSw; clear hSw; go_simp; (try with_reducible rfl))
            try simp only [Act.put, sA, sB, sC]
            refine wpAnyF_oneR (i := 10) (v := ?vE31x_11) hops rdE31_10 rfl stE31_10 (Or.inl ⟨by kernel_rfl, ?hyE31x_11⟩) (by assumption) ?restE31x_11
            case hyE31x_11 => (intro w hSw; obtain ⟨y0, y1, y2, y3, y4⟩ := hSk.out _ hSw; clear hSw; go_simp; (try with_reducible rfl))
            try simp only [Act.put, sA, sB, sC]
            refine wpAnyF_oneR (i := 11) (v := ?vE31x_12) hops rdE31_11 rfl stE31_11 (Or.inl ⟨by kernel_rfl, ?hyE31x_12⟩) (by assumption) ?restE31x_12
            case hyE31x_12 => (intro w hSw; obtain ⟨y0, y1, y2, y3, y4⟩ := hSk.out _ hSw; clear hSw; go_simp; (try with_reducible rfl))
            try simp only [Act.put, sA, sB, sC]
            refine wpAnyF_oneR (i := 12) (v := ?vE31x_13) hops rdE31_12 rfl stE31_12 (Or.inl ⟨by kernel_rfl, ?hyE31x_13⟩) (by assumption) ?restE31x_13
            case hyE31x_13 => (intro w hSw; obtain ⟨y0, y1, y2, y3, y4⟩ := hSk.out _ hSw; clear hSw; go_simp; (try with_reducible rfl))
            try simp only [Act.put, sA, sB, sC]
            refine wpAnyF_oneR (i := 13) (v := ?vE31x_14) hops rdE31_13 rfl stE31_13 (Or.inl ⟨by kernel_rfl, ?hyE31x_14⟩) (by assumption) ?restE31x_14
            case hyE31x_14 => (intro w hSw; obtain ⟨y0, y1, y2, y3, y4⟩ := hSk.out _ hSw; clear hSw; go_simp; (try with_reducible rfl))
            try simp only [Act.put, sA, sB, sC]
            refine wpAnyF_oneR (i := 14) (v := ?vE31x_15) hops rdE31_14 rfl stE31_14 (Or.inl ⟨by kernel_rfl, ?hyE31x_15⟩) (by assumption) ?restE31x_15
            case hyE31x_15 => (intro w hSw; obtain ⟨y0, y1, y2, y3, y4⟩ := hSk.out _ hSw; clear hSw; go_simp; (try with_reducible rfl))
            try simp only [Act.put, sA, sB, sC]
            refine wpAnyF_stepR (i := 15) hops rdE31_15 rfl stE31_15 (by rfl) (fun K hK => ?_)
            (go_simp; go_wp2_with (go_at_call 41; (with_reducible refine (hlink.out _ (Below.refl _ _).drew).mono ?_); rintro e w9 ⟨v9, es9, rfl, hl9, hs9, hf9, hb9⟩; have hBo := Lib.hid (bl_then (Below.refl wh.heap.size wh).drew (Nat.le_refl _) hb9); have hs9' := Lib.hid hs9; obtain ⟨A8, c8, rfl, -⟩ := hs9; have hx9 := bl_row hBo.out hR.out.bx; have u1 : w9.cell? ⟨go, 1, none⟩ = some ve := (by rw [cell_of_row _ _ 1 _ 48 (0, 0) hx9]; rfl); have u2 : w9.frozen? ⟨go, 1, none⟩ = false := (by simp [World.frozen?, hx9]); clear hx9 hb9; replace hf9 := Lib.hid hf9))
            refine hK.out _ _ (by exact hBo.out) (fun hHeld => ?_)
            clear hK K
            try simp only [Act.put, sA, sB, sC]
            refine wpAnyF_oneR (i := 16) (v := ?vE31x_16) hops rdE31_16 rfl stE31_16 (Or.inl ⟨by kernel_rfl, ?hyE31x_16⟩) (by assumption) ?restE31x_16
            case hyE31x_16 => (intro w hSw; obtain ⟨y0, y1, y2, y3, y4⟩ := hSk.out _ hSw; clear hSw; go_simp; (try with_reducible rfl))
            try simp only [Act.put, sA, sB, sC]
            refine wpAnyF_lastR hops rdE31_17 rfl stE31_17 (fun K hK => ?_)
            go_simp
            refine hK.out _ _ ?_
            clear hK K
            try simp only [Act.put, sA, sB, sC]
            refine wpAnyF_doneR hops rdE31_18 ?_
            go_wp2_with fail
            exact ⟨⟨h + 1, _, es9, by go_num, by omega, by omega, Lib.hid (hR.out.edge hBo.out hs9'.out hf9.out).1, Lib.hid (grown_then hK5.out (.inl rfl) (hR.out.edge hBo.out hs9'.out hf9.out).2)⟩, by simp [intOf]; omega⟩
        · have hh3 : h = 3 := by omega
          subst hh3
          have d2 : decide (((3 : Nat) : Int) < 3) = false := by decide
          go_wp2_with fail
          exact ⟨⟨x + 1, ve, es', by go_num, by omega, by omega, hR, hK⟩, by simp [intOf]; omega⟩
    · have hxn : Hid (x = nq9) := Lib.hid (by omega)
      have d1 : decide ((x : Int) < (nq9 : Int)) = false := by simp; omega
      go_wp2_with fail
      exact hexit.out _ _ _ _ _ _ _ _ _ _ _ _ _ _ _ _ _ _ _ _ _ _ _ _ _ _ _ _ _ _ _ _ _ _ _ _ _ _ _ _ _ _ (Lib.hid ⟨ve, es', by omega, hR.out, hK.out⟩)
end Go.Proofs.Ytdhklfbelplbcaa
namespace Go.Proofs.Ytdhklfbelplbcaa
set_option linter.unusedVariables false
set_option linter.unusedSimpArgs false
open Go.RowKit

/-- edges whose end is not among these -/
def cntE : List (ByteArray × ByteArray) → List ByteArray → Nat
  | [], _ => 0
  | e :: es, l => (if inL l e.2 then 0 else 1) + cntE es l
theorem inL_app (l : List ByteArray) (y x : ByteArray) : inL (l ++ [y]) x = (inL l x || eqS y x) := by
  unfold inL
  rw [List.any_append]; simp
theorem cntE_le : ∀ es l, cntE es l ≤ es.length
  | [], l => Nat.le_refl _
  | e :: es, l => by
    have := cntE_le es l
    simp only [cntE, List.length_cons]
    split <;> omega
theorem cntE_mono : ∀ es l y, cntE es (l ++ [y]) ≤ cntE es l
  | [], l, y => Nat.le_refl _
  | e :: es, l, y => by
    have := cntE_mono es l y
    simp only [cntE, inL_app]
    cases inL l e.2 <;> simp <;> (try split) <;> omega
theorem cntE_app : ∀ (es : List (ByteArray × ByteArray)) (l : List ByteArray) (i : Nat) (h : i < es.length), inL l es[i].2 = false → cntE es (l ++ [es[i].2]) + 1 ≤ cntE es l
  | e :: es, l, 0, h, hn => by
    have := cntE_mono es l e.2
    simp only [List.getElem_cons_zero] at hn ⊢
    simp only [cntE, inL_app, hn, (eqS_iff e.2 e.2).2 rfl]
    simp; omega
  | e :: es, l, i + 1, h, hn => by
    simp only [List.getElem_cons_succ] at hn ⊢
    have := cntE_app es l i (by simpa using h) hn
    simp only [cntE, inL_app]
    cases inL l e.2 <;> simp <;> (try split) <;> omega
theorem SlN.list {w : World} {base : Nat} {v : Value} {l : List ByteArray} (h : w.ownsRow base 9 1 v l.length (strs l)) : ∃ A c, v = .slice A l.length c ∧ l.length ≤ c ∧ c ≤ 9223372036854775807 ∧ Rd w A (strs l) := by
  obtain ⟨A, c, h1, h2, h3, h4, -⟩ := Rd.own h
  exact ⟨A, c, h1, h2, h3, h4⟩
def LedPost (w : World) (s : ByteArray) (n : Nat) (e : Ending) (w' : World) : Prop := ∃ v' l', e = .returned v' ∧ SlN w' v' l' ∧ s ∈ l' ∧ l'.length ≤ n + 1 ∧ (∀ b, v'.ownBlock = some b → w.heap.size ≤ b) ∧ Below w.heap.size w w'
set_option maxHeartbeats 16000000 in
set_option maxRecDepth 100000 in
theorem led_any (v0 : Value) (es : List (ByteArray × ByteArray)) (s : ByteArray) (w : World) (hs : SlEd w v0 es) (hlen : es.length ≤ 100000) :
    Calls Try.prog 64 #[.string s, v0] w (LedPost w s es.length) := by
  obtain ⟨A, c, rfl, hnc, hcm, hA, hr, hpl⟩ := hs
  obtain ⟨n, hm⟩ : ∃ n, n = es.length := ⟨_, rfl⟩
  rw [← hm] at hnc hlen hA ⊢
  have hcel : Hid (∀ k, k < n → ∃ g ka kb, A = some ⟨g, 0, none⟩ ∧ (∃ h : k < es.length, kb = es[k].2) ∧ ∀ w', Below w.heap.size w w' → (w'.cell? ⟨g, k * 2, none⟩ = some (.string ka) ∧ w'.cell? ⟨g, k * 2 + 1, none⟩ = some (.string kb))) := Lib.hid (fun k hk => by
    obtain ⟨g, e, c0, c1⟩ := SlEd.cells hr hpl (k := k) (by rw [← hm]; exact hk)
    exact ⟨g, _, _, e, ⟨by rw [← hm]; exact hk, rfl⟩, fun w' hb => ⟨bl_cell hb c0, bl_cell hb c1⟩⟩)
  replace hr := Lib.hid hr
  replace hpl := Lib.hid hpl
  replace hA := Lib.hid hA
  replace hm := Lib.hid hm
  go_enter Try.func64, Try.ntmps64
  go_wp2_with fail
  go_loopg [5, 6] (n + 2) (fun k v5 v6 wr => ∃ (l : List ByteArray) (al : Bool), v6 = .bool al ∧ (al = true → cntE es l + 1 ≤ k) ∧ Hid (s ∈ l) ∧ Hid (l.length + cntE es l ≤ n + 1) ∧ Hid (wr.ownsRow w.heap.size 9 1 v5 l.length (strs l)) ∧ Hid (Below w.heap.size w wr))
  case atStart =>
    refine ⟨[s], true, rfl, fun _ => ?_, Lib.hid (by simp), Lib.hid ?_, Lib.hid (own_lit w w.heap.size 9 1 1 [.string s] (Nat.le_refl _) rfl (by omega)), Lib.hid (bl_alloc (Below.refl _ _) _)⟩
    · have := cntE_le es [s]; have := hm.out; omega
    · have := cntE_le es [s]; have := hm.out; simp; omega
  case round =>
    obtain ⟨l, al, rfl, hal, hin, hsm, hown, hB⟩ := hrel
    cases al with
    | false =>
      go_wp2_with fail
      first | go_ret | go_end0
      obtain ⟨A', c', h1, h2, h3, h4⟩ := SlN.list hown.out
      exact ⟨_, l, rfl, SlN.own hown.out rfl, hin.out, by have := hsm.out; omega, fun b hb => (hown.out.lt b hb).1, hB.out⟩
    | true =>
      have hk := hal rfl
      obtain ⟨k, rfl⟩ : ∃ k, gk = k + 1 := ⟨gk - 1, by omega⟩
      obtain ⟨N, hN⟩ : ∃ N, N = cntE es l := ⟨_, rfl⟩
      have hkN : Hid (N ≤ k) := Lib.hid (by omega)
      have hsm' : Hid (l.length + N ≤ n + 1) := Lib.hid (by rw [hN]; exact hsm.out)
      replace hN := Lib.hid hN
      clear hal hk hsm
      go_wp2_with fail
      go_loopw [5, 6, 7] (fun v5 v6 v7 wr => ∃ (i : Nat) (l' : List ByteArray) (al : Bool), v7 = .int .i64 (i : Nat) ∧ i ≤ n ∧ v6 = .bool al ∧ Hid (s ∈ l') ∧ Hid (l'.length + cntE es l' ≤ n + 1) ∧ Hid (cntE es l' ≤ N ∧ (al = true → cntE es l' + 1 ≤ N)) ∧ Hid (wr.ownsRow w.heap.size 9 1 v5 l'.length (strs l')) ∧ Hid (Below w.heap.size w wr)) (fun _ _ v _ => n - (intOf v).toNat)
      case atStart => exact ⟨0, l, false, rfl, Nat.zero_le _, rfl, hin, Lib.hid (by rw [← hN.out]; exact hsm'.out), Lib.hid ⟨by rw [← hN.out]; exact Nat.le_refl _, fun e => by cases e⟩, hown, hB⟩
      case round =>
        obtain ⟨i, l', al, rfl, hi, rfl, hin1, hs1, hd1, ho1, hB1⟩ := hrel
        obtain ⟨Al, cl, rfl, hl1, hl2, hl3⟩ := SlN.list ho1.out
        by_cases hlt : i < n
        · have d1 : decide ((i : Int) < (n : Int)) = true := by simp; omega
          have i1 : (0 : Int) ≤ (i : Int) := by omega
          have i2 : (i : Int) < (n : Int) := by omega
          obtain ⟨g, ka, kb, rfl, hkb, hkc⟩ := hcel.out i hlt
          obtain ⟨y0, y1⟩ := hkc _ hB1.out
          have hkb' := Lib.hid hkb
          clear hkb hkc
          have ha := Lib.hid (in_any Al cl l' ka wr hl3 hl1 hl2)
          have hb := Lib.hid (in_any Al cl l' kb wr hl3 hl1 hl2)
          have hll : l'.length ≤ 200000 := by have := hs1.out; omega
          clear hl3
          cases h1 : inL l' ka with
          | false =>
            rw [h1] at ha
            clear hb
            go_wp2_with (go_at_call 52; (with_reducible refine ha.out.mono ?_); rintro e w' ⟨rfl, rfl⟩)
            exact ⟨⟨i + 1, l', al, by go_num, by omega, rfl, hin1, hs1, hd1, ho1, hB1⟩, by simp [intOf]; omega⟩
          | true =>
            rw [h1] at ha
            cases h2 : inL l' kb with
            | true =>
              rw [h2] at hb
              go_wp2_with (first | (go_at_call 52; (with_reducible refine ha.out.mono ?_); rintro e w' ⟨rfl, rfl⟩) | (go_at_call 52; (with_reducible refine hb.out.mono ?_); rintro e w' ⟨rfl, rfl⟩))
              exact ⟨⟨i + 1, l', al, by go_num, by omega, rfl, hin1, hs1, hd1, ho1, hB1⟩, by simp [intOf]; omega⟩
            | false =>
              rw [h2] at hb
              replace h2 := Lib.hid h2
              go_wp2_with (first | (go_at_call 52; (with_reducible refine ha.out.mono ?_); rintro e w' ⟨rfl, rfl⟩) | (go_at_call 52; (with_reducible refine hb.out.mono ?_); rintro e w' ⟨rfl, rfl⟩) | (at_builtin; refine app_lit (w0 := w) w.heap.size rfl _ _ 52 9 (.string ⟨#[]⟩) 1 16 rfl Try.underlying52 info9 rfl (by decide) (by decide) (.slice Al l'.length cl) l'.length (strs l') rfl ho1.out hB1.out hB1.out.size 1 1 [.string kb] rfl rfl (by simp [Value.oneCell']) (by omega) ?_; intro v9 w9 o9 b9 g9 a9; replace o9 := Lib.hid o9; replace b9 := Lib.hid b9; clear g9 a9))
              obtain ⟨hh, rfl⟩ := hkb'.out
              have hc := cntE_app es l' i hh h2.out
              refine ⟨⟨i + 1, l' ++ [es[i].2], true, by go_num, by omega, rfl, Lib.hid (List.mem_append_left _ hin1.out), Lib.hid ?_, Lib.hid ⟨?_, fun _ => ?_⟩, Lib.hid ?_, b9⟩, by simp [intOf]; omega⟩
              · have := hs1.out; simp only [List.length_append, List.length_cons, List.length_nil]; omega
              · have := hd1.out.1; omega
              · have := hd1.out.1; omega
              · have := o9.out; simpa [strs, enc] using this
        · have d1 : decide ((i : Int) < (n : Int)) = false := by simp; omega
          go_wp2_with fail
          go_roundg k
          case measure => omega
          case rel => exact ⟨l', al, rfl, fun e => by have := hd1.out.2 e; have := hkN.out; omega, hin1, hs1, ho1, hB1⟩
end Go.Proofs.Ytdhklfbelplbcaa
