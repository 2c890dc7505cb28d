/-
  Report, block 4: the races of two roots.
-/
import Derived.Test.YtdhklfbelplbcaaZ12
import Derived.Test.YtdhklfbelplbcaaZ14
import Derived.Test.YtdhklfbelplbcaaZ10
namespace Go.Proofs.Ytdhklfbelplbcaa
set_option linter.unusedVariables false
set_option linter.unusedSimpArgs false
open Go.RowKit
theorem set5_other (W : World) (g g2 : Nat) (v0 v1 v2 v3 v4 : Value) (hne : g2 ≠ g) {o : Obj} (h : W.heap[g2]? = some o) :
    (((((W.setCell ⟨g, 0, none⟩ v0).setCell ⟨g, 1, none⟩ v1).setCell ⟨g, 2, none⟩ v2).setCell ⟨g, 3, none⟩ v3).setCell ⟨g, 4, none⟩ v4).heap[g2]? = some o := by
  have e : ∀ (W : World) i v, (W.setCell ⟨g, i, none⟩ v).heap[g2]? = W.heap[g2]? := fun W i v => Below.heap_setCell W ⟨g, i, none⟩ v g2 hne
  rw [e, e, e, e, e]; exact h
set_option maxHeartbeats 64000000 in
set_option maxRecDepth 100000 in
theorem report_b4 (w w2 : World) (go b9 b11 na nb c9 c11 nq9 nq11 d9 d11 ns9 ns11 e9 e11 n : Nat) (A9 A11 B9 B11 C9 C11 : Option Addr) (m9 y9 m11 y11 : ByteArray) (vr ve : Value) (es : List (ByteArray × ByteArray)) (sl0 sl1 sl2 sl3 sl4 sl6 sl7 sl8 sl10 sl13 sl14 sl15 sl16 sl17 sl18 sl19 sl20 sl21 sl22 sl23 sl24 sl25 sl26 sl27 sl28 sl29 sl30 sl31 sl32 sl33 sl34 sl35 sl36 sl37 sl38 sl39 sl40 sl41 sl42 sl43 sl44 sl45 sl46 sl47 sl48 sl49 sl50 sl51 sl52 sl53 sl54 sl55 sl56 sl57 sl58 sl59 sl60 sl61 sl62 sl63 sl64 sl65 sl66 sl67 sl68 sl69 sl70 sl71 sl72 sl73 sl74 sl75 sl76 sl77 sl78 sl79 sl80 sl81 sl82 sl83 sl84 sl85 sl86 sl87 sl88 sl89 sl90 sl91 sl92 sl93 sl94 sl95 sl96 sl97 sl98 sl99 sl100 sl101 sl102 sl103 sl104 sl105 sl106 sl107 sl108 sl109 sl110 sl111 sl112 sl113 sl114 sl115 sl116 sl117 sl118 sl119 sl120 sl121 sl122 sl123 sl124 sl125 sl126 sl127 sl128 sl129 sl130 sl131 sl132 sl133 sl134 sl135 sl136 sl137 sl138 sl139 sl140 sl141 sl142 sl143 sl144 sl145 sl146 sl147 sl148 sl149 sl150 sl151 sl152 sl153 sl154 sl155 sl156 sl157 sl158 sl159 sl160 sl161 sl162 sl163 sl164 sl165 sl166 sl167 sl168 sl169 sl170 sl171 sl172 sl173 sl174 sl175 sl176 : Value) (W : World) (Q : Exit → Act → World → Prop) (hR : Hid (RepS w w2 W go vr ve n es)) (h9 : Hid (W.heap[b9]? = some (.cells ([.string m9, .string y9, .slice A9 na c9, .slice B9 nq9 d9, .slice C9 ns9 e9] : List Value).toArray 78 (0, 0)))) (h11 : Hid (W.heap[b11]? = some (.cells ([.string m11, .string y11, .slice A11 nb c11, .slice B11 nq11 d11, .slice C11 ns11 e11] : List Value).toArray 78 (0, 0)))) (hne : Hid (b9 ≠ go ∧ b11 ≠ go)) (ha : Hid (SlAc w (.slice A9 na c9) na)) (hb : Hid (SlAc w (.slice A11 nb c11) nb)) (hna : na ≤ 800) (hnb : nb ≤ 800) (hn : n ≤ 90000000)
    (hQ : Hid (∀ (c : _) (a : Act) (d : Option Tmp) (v : Value) (w : World), Q (.panic c) (a.put d v) w → Q (.panic c) a w)) (hexit : Hid (∀ (u12 u13 u14 u15 u16 u61 u62 u63 u64 u65 u66 u67 u68 u69 u70 u71 u72 u73 u74 u75 u76 u77 u78 u79 u80 u81 u82 u83 u84 u85 u86 u87 u88 u89 u90 u91 u92 u93 u94 u95 u96 u97 u98 u99 u100 u101 u102 u103 u104 u105 u106 u107 u108 u109 u110 u111 u112 u113 u114 u115 u116 u117 u118 u119 u120 u121 u122 u123 u124 u125 u126 u127 u128 u129 u130 u131 : Value) (W' : World), Hid (∃ vr' n', n' ≤ n + 640000 ∧ RepS w w2 W' go vr' ve n' es ∧ W.grownBy W' (some go)) → Q .normal ⟨#[sl0, sl1, sl2, sl3, sl4, .pointer (some ⟨go, 0, none⟩), sl6, sl7, sl8, .pointer (some ⟨b9, 0, none⟩), sl10, .pointer (some ⟨b11, 0, none⟩), u12, u13, u14, u15, u16, sl17, sl18, sl19, sl20, sl21, sl22, sl23, sl24, sl25, sl26, sl27, sl28, sl29, sl30, sl31, sl32, sl33, sl34, sl35, sl36, sl37, sl38, sl39, sl40, sl41, sl42, sl43, sl44, sl45, sl46, sl47, sl48, sl49, sl50, sl51, sl52, sl53, sl54, sl55, sl56, sl57, sl58, sl59, sl60, u61, u62, u63, u64, u65, u66, u67, u68, u69, u70, u71, u72, u73, u74, u75, u76, u77, u78, u79, u80, u81, u82, u83, u84, u85, u86, u87, u88, u89, u90, u91, u92, u93, u94, u95, u96, u97, u98, u99, u100, u101, u102, u103, u104, u105, u106, u107, u108, u109, u110, u111, u112, u113, u114, u115, u116, u117, u118, u119, u120, u121, u122, u123, u124, u125, u126, u127, u128, u129, u130, u131, sl132, sl133, sl134, sl135, sl136, sl137, sl138, sl139, sl140, sl141, sl142, sl143, sl144, sl145, sl146, sl147, sl148, sl149, sl150, sl151, sl152, sl153, sl154, sl155, sl156, sl157, sl158, sl159, sl160, sl161, sl162, sl163, sl164, sl165, sl166, sl167, sl168, sl169, sl170, sl171, sl172, sl173, sl174, sl175, sl176], []⟩ W')) :
    (blkIn 4 Try.f21).wp Try.prog Q ⟨#[sl0, sl1, sl2, sl3, sl4, .pointer (some ⟨go, 0, none⟩), sl6, sl7, sl8, .pointer (some ⟨b9, 0, none⟩), sl10, .pointer (some ⟨b11, 0, none⟩), .int .i64 0, sl13, sl14, sl15, sl16, sl17, sl18, sl19, sl20, sl21, sl22, sl23, sl24, sl25, sl26, sl27, sl28, sl29, sl30, sl31, sl32, sl33, sl34, sl35, sl36, sl37, sl38, sl39, sl40, sl41, sl42, sl43, sl44, sl45, sl46, sl47, sl48, sl49, sl50, sl51, sl52, sl53, sl54, sl55, sl56, sl57, sl58, sl59, sl60, sl61, sl62, sl63, sl64, sl65, sl66, sl67, sl68, sl69, sl70, sl71, sl72, sl73, sl74, sl75, sl76, sl77, sl78, sl79, sl80, sl81, sl82, sl83, sl84, sl85, sl86, sl87, sl88, sl89, sl90, sl91, sl92, sl93, sl94, sl95, sl96, sl97, sl98, sl99, sl100, sl101, sl102, sl103, sl104, sl105, sl106, sl107, sl108, sl109, sl110, sl111, sl112, sl113, sl114, sl115, sl116, sl117, sl118, sl119, sl120, sl121, sl122, sl123, sl124, sl125, sl126, sl127, sl128, sl129, sl130, sl131, sl132, sl133, sl134, sl135, sl136, sl137, sl138, sl139, sl140, sl141, sl142, sl143, sl144, sl145, sl146, sl147, sl148, sl149, sl150, sl151, sl152, sl153, sl154, sl155, sl156, sl157, sl158, sl159, sl160, sl161, sl162, sl163, sl164, sl165, sl166, sl167, sl168, sl169, sl170, sl171, sl172, sl173, sl174, sl175, sl176], []⟩ W := by
  let hbp := fun (e : Exit) (a : Act) (w : World) => bodyPost Try.prog Try.f21 (fun _ _ => True) e a w
  conv => arg 2; whnf
  go_wp2_with fail
  go_loopw [12] (fun v12 wr => ∃ (x : Nat) (vr' : Value) (n' : Nat), v12 = .int .i64 (x : Nat) ∧ x ≤ na ∧ n' ≤ n + x * 800 ∧ Hid (RepS w w2 wr go vr' ve n' es) ∧ Hid (W.grownBy wr (some go))) (fun v _ => na - (intOf v).toNat)
  case atStart => exact ⟨0, vr, n, rfl, Nat.zero_le _, by omega, hR, Lib.hid (grown_refl _ _)⟩
  case round =>
    obtain ⟨wx, rfl⟩ : ∃ x, x = wr := ⟨_, rfl⟩
    obtain ⟨x, vr, n', rfl, hx, hn', hR, hK⟩ := hrel
    have hx9 := Lib.hid (row_kept h9.out hK.out hne.out.1)
    have t2 : wx.cell? ⟨b9, 2, none⟩ = some (.slice A9 na c9) := by rw [cell_of_row _ _ 2 _ 78 (0, 0) hx9.out]; rfl
    by_cases hlt : x < na
    · have d1 : decide ((x : Int) < (na : Int)) = true := by simp; omega
      have x1 : (0 : Int) ≤ (x : Int) := by omega
      have x2 : (x : Int) < (na : Int) := by omega
      obtain ⟨ga, f1, k1, v1, b1, E1, rfl, hE1, hv1, hca⟩ := ha.out.cells hlt
      replace hca := Lib.hid hca
      replace hE1 := Lib.hid hE1
      go_wp2_with fail
      go_loopw [13] (fun v13 wr => ∃ (y : Nat) (vr' : Value) (n' : Nat), v13 = .int .i64 (y : Nat) ∧ y ≤ nb ∧ n' ≤ n + x * 800 + y ∧ Hid (RepS w w2 wr go vr' ve n' es) ∧ Hid (W.grownBy wr (some go))) (fun v _ => nb - (intOf v).toNat)
      case atStart => exact ⟨0, vr, n', rfl, Nat.zero_le _, by omega, hR, hK⟩
      case round =>
        obtain ⟨wy, rfl⟩ : ∃ x, x = wr := ⟨_, rfl⟩
        obtain ⟨y, vr, n', rfl, hy, hn', hR, hK⟩ := hrel
        have hy9 := Lib.hid (row_kept h9.out hK.out hne.out.1)
        have hy11 := Lib.hid (row_kept h11.out hK.out hne.out.2)
        clear t2 hx9
        have t3 : wy.cell? ⟨b11, 2, none⟩ = some (.slice A11 nb c11) := by rw [cell_of_row _ _ 2 _ 78 (0, 0) hy11.out]; rfl
        by_cases hyl : y < nb
        · have d2 : decide ((y : Int) < (nb : Int)) = true := by simp; omega
          have y1 : (0 : Int) ≤ (y : Int) := by omega
          have y2 : (y : Int) < (nb : Int) := by omega
          obtain ⟨gb, f2, k2, v2, b2, E2, rfl, hE2, hv2, hcb⟩ := hb.out.cells hyl
          replace hcb := Lib.hid hcb
          replace hE2 := Lib.hid hE2
          have hSk : Hid (∀ w', Below wy.heap.size wy w' → (w'.cell? ⟨b9, 2, none⟩ = some (.slice (some ⟨ga, 0, none⟩) na c9) ∧ w'.cell? ⟨b11, 2, none⟩ = some (.slice (some ⟨gb, 0, none⟩) nb c11) ∧ w'.cell? ⟨ga, x * 5, none⟩ = some (.string f1) ∧ w'.cell? ⟨ga, x * 5 + 1, none⟩ = some (.int .i64 k1) ∧ w'.cell? ⟨ga, x * 5 + 2, none⟩ = some (.string v1) ∧ w'.cell? ⟨ga, x * 5 + 3, none⟩ = some (.bool b1) ∧ w'.cell? ⟨ga, x * 5 + 4, none⟩ = some (.string (st E1)) ∧ w'.cell? ⟨gb, y * 5, none⟩ = some (.string f2) ∧ w'.cell? ⟨gb, y * 5 + 1, none⟩ = some (.int .i64 k2) ∧ w'.cell? ⟨gb, y * 5 + 2, none⟩ = some (.string v2) ∧ w'.cell? ⟨gb, y * 5 + 3, none⟩ = some (.bool b2) ∧ w'.cell? ⟨gb, y * 5 + 4, none⟩ = some (.string (st E2)))) := Lib.hid (fun w' hb => by
            have h1 := bl_then hR.out.hB hR.out.hB.size hb
            obtain ⟨a0, a1, a2, a3, a4⟩ := hca.out w' h1
            obtain ⟨b0, b1, b2, b3, b4⟩ := hcb.out w' h1
            have r1 := bl_row hb hy9.out
            have r2 := bl_row hb hy11.out
            exact ⟨by rw [cell_of_row _ _ 2 _ 78 (0, 0) r1]; rfl, by rw [cell_of_row _ _ 2 _ 78 (0, 0) r2]; rfl, a0, a1, a2, a3, a4, b0, b1, b2, b3, b4⟩)
          go_upto_region 18 with fail
          clear t3
          go_cut [14, 15] (fun v14 v15 wz => ∃ b14 b15, v14 = .pointer (some ⟨b14, 0, none⟩) ∧ v15 = .pointer (some ⟨b15, 0, none⟩) ∧ Hid (wz.heap[b14]? = some (.cells ([.string f1, .int .i64 k1, .string v1, .bool b1, .string (st E1)] : List Value).toArray 83 (0, 0))) ∧ Hid (wz.heap[b15]? = some (.cells ([.string f2, .int .i64 k2, .string v2, .bool b2, .string (st E2)] : List Value).toArray 83 (0, 0))) ∧ Hid (Below wy.heap.size wy wz))
          case first =>
            refine wp_region_heldR (S := fun w' => Below wy.heap.size wy w') opsE18 _ (by kernel_rfl) liE18 (by kernel_rfl) nsE18 ((Below.refl wy.heap.size wy).drew) (fun hops hns hHeld => ?_)
            refine wpAnyH_takeR (i := 0) (v := ?vE18_1) hops hns rdE18_0 (by rfl) frE18_0 rfl (fun _ _ _ h => hQ.out _ _ _ _ _ h) stE18_0 (Or.inl ⟨by kernel_rfl, ?hyE18_1⟩) (by assumption) ?restE18_1
            case hyE18_1 => (intro w hSw; obtain ⟨y0, y1, p0, p1, p2, p3, p4, q0, q1, q2, q3, q4⟩ := hSk.out _ hSw; clear hSw; go_simp; (try with_reducible rfl))
            try simp only [Act.put, sA, sB, sC]
            refine wpAnyH_takeR (i := 1) (v := ?vE18_2) hops hns rdE18_1 (by rfl) frE18_1 rfl (fun _ _ _ h => hQ.out _ _ _ _ _ h) stE18_1 (Or.inl ⟨by kernel_rfl, ?hyE18_2⟩) (by assumption) ?restE18_2
            case hyE18_2 => (intro w hSw; obtain ⟨y0, y1, p0, p1, p2, p3, p4, q0, q1, q2, q3, q4⟩ := hSk.out _ hSw; clear hSw; go_simp; (try with_reducible rfl))
            try simp only [Act.put, sA, sB, sC]
            refine wpAnyH_takeR (i := 2) (v := ?vE18_3) hops hns rdE18_2 (by rfl) frE18_2 rfl (fun _ _ _ h => hQ.out _ _ _ _ _ h) stE18_2 (Or.inl ⟨by kernel_rfl, ?hyE18_3⟩) (by assumption) ?restE18_3
            case hyE18_3 => (intro w hSw; obtain ⟨y0, y1, p0, p1, p2, p3, p4, q0, q1, q2, q3, q4⟩ := hSk.out _ hSw; clear hSw; go_simp; (try with_reducible rfl))
            try simp only [Act.put, sA, sB, sC]
            refine wpAnyH_takeR (i := 3) (v := ?vE18_4) hops hns rdE18_3 (by rfl) frE18_3 rfl (fun _ _ _ h => hQ.out _ _ _ _ _ h) stE18_3 (Or.inl ⟨by kernel_rfl, ?hyE18_4⟩) (by assumption) ?restE18_4
            case hyE18_4 => (intro w hSw; obtain ⟨y0, y1, p0, p1, p2, p3, p4, q0, q1, q2, q3, q4⟩ := hSk.out _ hSw; clear hSw; go_simp; (try with_reducible rfl))
            try simp only [Act.put, sA, sB, sC]
            refine wpAnyH_takeR (i := 4) (v := ?vE18_5) hops hns rdE18_4 (by rfl) frE18_4 rfl (fun _ _ _ h => hQ.out _ _ _ _ _ h) stE18_4 (Or.inl ⟨by kernel_rfl, ?hyE18_5⟩) (by assumption) ?restE18_5
            case hyE18_5 => (intro w hSw; obtain ⟨y0, y1, p0, p1, p2, p3, p4, q0, q1, q2, q3, q4⟩ := hSk.out _ hSw; clear hSw; go_simp; (try with_reducible rfl))
            try simp only [Act.put, sA, sB, sC]
            refine wpAnyH_takeR (i := 5) (v := ?vE18_6) hops hns rdE18_5 (by rfl) frE18_5 rfl (fun _ _ _ h => hQ.out _ _ _ _ _ h) stE18_5 (Or.inl ⟨by kernel_rfl, ?hyE18_6⟩) (by assumption) ?restE18_6
            case hyE18_6 => (intro w hSw; obtain ⟨y0, y1, p0, p1, p2, p3, p4, q0, q1, q2, q3, q4⟩ := hSk.out _ hSw; clear hSw; go_simp; (try with_reducible rfl))
            try simp only [Act.put, sA, sB, sC]
            refine wpAnyH_takeR (i := 6) (v := ?vE18_7) hops hns rdE18_6 (by rfl) frE18_6 rfl (fun _ _ _ h => hQ.out _ _ _ _ _ h) stE18_6 (Or.inl ⟨by kernel_rfl, ?hyE18_7⟩) (by assumption) ?restE18_7
            case hyE18_7 => (intro w hSw; obtain ⟨y0, y1, p0, p1, p2, p3, p4, q0, q1, q2, q3, q4⟩ := hSk.out _ hSw; clear hSw; go_simp; (try with_reducible rfl))
            try simp only [Act.put, sA, sB, sC]
            refine wpAnyH_takeR (i := 7) (v := ?vE18_8) hops hns rdE18_7 (by rfl) frE18_7 rfl (fun _ _ _ h => hQ.out _ _ _ _ _ h) stE18_7 (Or.inl ⟨by kernel_rfl, ?hyE18_8⟩) (by assumption) ?restE18_8
            case hyE18_8 => (intro w hSw; obtain ⟨y0, y1, p0, p1, p2, p3, p4, q0, q1, q2, q3, q4⟩ := hSk.out _ hSw; clear hSw; go_simp; (try with_reducible rfl))
            try simp only [Act.put, sA, sB, sC]
            refine wpAnyH_takeR (i := 8) (v := ?vE18_9) hops hns rdE18_8 (by rfl) frE18_8 rfl (fun _ _ _ h => hQ.out _ _ _ _ _ h) stE18_8 (Or.inl ⟨by kernel_rfl, ?hyE18_9⟩) (by assumption) ?restE18_9
            case hyE18_9 => (intro w hSw; obtain ⟨y0, y1, p0, p1, p2, p3, p4, q0, q1, q2, q3, q4⟩ := hSk.out _ hSw; clear hSw; go_simp; (try with_reducible rfl))
            try simp only [Act.put, sA, sB, sC]
            refine wpAnyH_takeR (i := 9) (v := ?vE18_10) hops hns rdE18_9 (by rfl) frE18_9 rfl (fun _ _ _ h => hQ.out _ _ _ _ _ h) stE18_9 (Or.inl ⟨by kernel_rfl, ?hyE18_10⟩) (by assumption) ?restE18_10
            case hyE18_10 => (intro w hSw; obtain ⟨y0, y1, p0, p1, p2, p3, p4, q0, q1, q2, q3, q4⟩ := hSk.out _ hSw; clear hSw; go_simp; (try with_reducible rfl))
            try simp only [Act.put, sA, sB, sC]
            refine wpAnyH_readyR (rs := [10, 11]) hops rdE18_10 (by simp) (AllReadyH.consR rfl stE18_11 (fun K hK => ?_) (AllReadyH.consR rfl stE18_10 (fun K hK => ?_) AllReadyH.nil))
            · skip
              go_simp
              refine hK.out _ _ (by repeat (with_reducible (first | assumption | exact hBo.out | exact Below.refl _ _ | apply bl_alloc | apply Below.drew))) (fun hHeld => ?_)
              clear hK K
              try simp only [Act.put, sA, sB, sC]
              refine wpAnyH_readyR (rs := [11]) hops rdE18_11 (by simp) (AllReadyH.consR rfl stE18_12 (fun K hK => ?_) AllReadyH.nil)
              go_simp
              refine hK.out _ _ (by repeat (with_reducible (first | assumption | exact hBo.out | exact Below.refl _ _ | apply bl_alloc | apply Below.drew))) (fun hHeld => ?_)
              clear hK K
              try simp only [Act.put, sA, sB, sC]
              obtain ⟨W0, hW0⟩ : ∃ W, W = ((wy.alloc (.cells #[.string ⟨#[]⟩, .int .i64 0, .string ⟨#[]⟩, .bool false, .string ⟨#[]⟩] 83)).alloc (.cells #[.string ⟨#[]⟩, .int .i64 0, .string ⟨#[]⟩, .bool false, .string ⟨#[]⟩] 83)).drew := ⟨_, rfl⟩
              have hr0 : W0.heap[wy.heap.size]? = some (.cells ([Value.string ⟨#[]⟩, Value.int .i64 0, Value.string ⟨#[]⟩, Value.bool false, Value.string ⟨#[]⟩] : List Value).toArray 83 (0, 0)) := by rw [hW0]; exact row_n1 wy _ _
              have hr1 : W0.heap[wy.heap.size + 1]? = some (.cells ([Value.string ⟨#[]⟩, Value.int .i64 0, Value.string ⟨#[]⟩, Value.bool false, Value.string ⟨#[]⟩] : List Value).toArray 83 (0, 0)) := by rw [hW0]; exact row_n2 wy _ _
              rw [← hW0] at hHeld ⊢
              replace hW0 := Lib.hid hW0
              have fa0 : W0.cell? ⟨wy.heap.size, 0, none⟩ = some (Value.string ⟨#[]⟩) := by rw [cell_of_row _ _ 0 _ 83 (0, 0) hr0]; rfl
              have ha0 : W0.frozen? ⟨wy.heap.size, 0, none⟩ = false := by simp [World.frozen?, hr0]
              have fa1 : W0.cell? ⟨wy.heap.size, 1, none⟩ = some (Value.int .i64 0) := by rw [cell_of_row _ _ 1 _ 83 (0, 0) hr0]; rfl
              have ha1 : W0.frozen? ⟨wy.heap.size, 1, none⟩ = false := by simp [World.frozen?, hr0]
              have fa2 : W0.cell? ⟨wy.heap.size, 2, none⟩ = some (Value.string ⟨#[]⟩) := by rw [cell_of_row _ _ 2 _ 83 (0, 0) hr0]; rfl
              have ha2 : W0.frozen? ⟨wy.heap.size, 2, none⟩ = false := by simp [World.frozen?, hr0]
              have fa3 : W0.cell? ⟨wy.heap.size, 3, none⟩ = some (Value.bool false) := by rw [cell_of_row _ _ 3 _ 83 (0, 0) hr0]; rfl
              have ha3 : W0.frozen? ⟨wy.heap.size, 3, none⟩ = false := by simp [World.frozen?, hr0]
              have fa4 : W0.cell? ⟨wy.heap.size, 4, none⟩ = some (Value.string ⟨#[]⟩) := by rw [cell_of_row _ _ 4 _ 83 (0, 0) hr0]; rfl
              have ha4 : W0.frozen? ⟨wy.heap.size, 4, none⟩ = false := by simp [World.frozen?, hr0]
              have hBo := Lib.hid hHeld
              refine wpAnyH_readyR (rs := [12]) hops rdE18_12 (by simp) (AllReadyH.consR rfl stE18_13 (fun K hK => ?_) AllReadyH.nil)
              go_simp
              refine hK.out _ _ (by exact bl_set5 hBo.out _ (by omega) _ _ _ _ _) (fun hHeld => ?_)
              clear hK K
              try simp only [Act.put, sA, sB, sC]
              obtain ⟨W1, hW1⟩ : ∃ W, W = (((((W0.setCell ⟨wy.heap.size, 0, none⟩ (.string f1)).setCell ⟨wy.heap.size, 1, none⟩ (.int .i64 k1)).setCell ⟨wy.heap.size, 2, none⟩ (.string v1)).setCell ⟨wy.heap.size, 3, none⟩ (.bool b1)).setCell ⟨wy.heap.size, 4, none⟩ (.string (st E1))) := ⟨_, rfl⟩
              have hs1 : W1.heap[wy.heap.size]? = some (.cells ([.string f1, .int .i64 k1, .string v1, .bool b1, .string (st E1)] : List Value).toArray 83 (0, 0)) := by rw [hW1]; exact set5 W0 (wy.heap.size) _ _ _ _ _ _ _ _ _ _ 83 hr0
              have hs2 : W1.heap[wy.heap.size + 1]? = some (.cells ([Value.string ⟨#[]⟩, Value.int .i64 0, Value.string ⟨#[]⟩, Value.bool false, Value.string ⟨#[]⟩] : List Value).toArray 83 (0, 0)) := by rw [hW1]; exact set5_other W0 (wy.heap.size) (wy.heap.size + 1) _ _ _ _ _ (by omega) hr1
              rw [← hW1] at hHeld ⊢
              replace hW1 := Lib.hid hW1
              clear fa0 ha0 fa1 ha1 fa2 ha2 fa3 ha3 fa4 ha4
              have fb0 : W1.cell? ⟨wy.heap.size + 1, 0, none⟩ = some (Value.string ⟨#[]⟩) := by rw [cell_of_row _ _ 0 _ 83 (0, 0) hs2]; rfl
              have hb0 : W1.frozen? ⟨wy.heap.size + 1, 0, none⟩ = false := by simp [World.frozen?, hs2]
              have fb1 : W1.cell? ⟨wy.heap.size + 1, 1, none⟩ = some (Value.int .i64 0) := by rw [cell_of_row _ _ 1 _ 83 (0, 0) hs2]; rfl
              have hb1 : W1.frozen? ⟨wy.heap.size + 1, 1, none⟩ = false := by simp [World.frozen?, hs2]
              have fb2 : W1.cell? ⟨wy.heap.size + 1, 2, none⟩ = some (Value.string ⟨#[]⟩) := by rw [cell_of_row _ _ 2 _ 83 (0, 0) hs2]; rfl
              have hb2 : W1.frozen? ⟨wy.heap.size + 1, 2, none⟩ = false := by simp [World.frozen?, hs2]
              have fb3 : W1.cell? ⟨wy.heap.size + 1, 3, none⟩ = some (Value.bool false) := by rw [cell_of_row _ _ 3 _ 83 (0, 0) hs2]; rfl
              have hb3 : W1.frozen? ⟨wy.heap.size + 1, 3, none⟩ = false := by simp [World.frozen?, hs2]
              have fb4 : W1.cell? ⟨wy.heap.size + 1, 4, none⟩ = some (Value.string ⟨#[]⟩) := by rw [cell_of_row _ _ 4 _ 83 (0, 0) hs2]; rfl
              have hb4 : W1.frozen? ⟨wy.heap.size + 1, 4, none⟩ = false := by simp [World.frozen?, hs2]
              have hBo1 := Lib.hid hHeld
              have hs1' := Lib.hid hs1
              have hs2' := Lib.hid hs2
              clear hs1 hs2 hr0 hr1
              refine wpAnyH_readyR (rs := [13]) hops rdE18_13 (by simp) (AllReadyH.consR rfl stE18_14 (fun K hK => ?_) AllReadyH.nil)
              go_simp
              refine hK.out _ _ (by exact bl_set5 hBo1.out _ (by omega) _ _ _ _ _) (fun hHeld => ?_)
              clear hK K
              try simp only [Act.put, sA, sB, sC]
              refine wpAnyH_doneR hops rdE18_14 ?_
              have hfin := Lib.hid (bl_set5 hBo1.out (wy.heap.size + 1) (by omega) (.string f2) (.int .i64 k2) (.string v2) (.bool b2) (.string (st E2)))
              have hz1 := Lib.hid (set5 W1 (wy.heap.size + 1) _ _ _ _ _ (.string f2) (.int .i64 k2) (.string v2) (.bool b2) (.string (st E2)) 83 hs2'.out)
              have hz2 := Lib.hid (set5_other W1 (wy.heap.size + 1) (wy.heap.size) (.string f2) (.int .i64 k2) (.string v2) (.bool b2) (.string (st E2)) (by omega) hs1'.out)
              go_wp2_with fail
              go_meet
              exact ⟨_, _, rfl, rfl, hz2, hz1, hfin⟩
            · skip
              go_simp
              refine hK.out _ _ (by repeat (with_reducible (first | assumption | exact hBo.out | exact Below.refl _ _ | apply bl_alloc | apply Below.drew))) (fun hHeld => ?_)
              clear hK K
              try simp only [Act.put, sA, sB, sC]
              refine wpAnyH_readyR (rs := [10]) hops rdE18_15 (by simp) (AllReadyH.consR rfl stE18_15 (fun K hK => ?_) AllReadyH.nil)
              go_simp
              refine hK.out _ _ (by repeat (with_reducible (first | assumption | exact hBo.out | exact Below.refl _ _ | apply bl_alloc | apply Below.drew))) (fun hHeld => ?_)
              clear hK K
              try simp only [Act.put, sA, sB, sC]
              obtain ⟨W0, hW0⟩ : ∃ W, W = ((wy.alloc (.cells #[.string ⟨#[]⟩, .int .i64 0, .string ⟨#[]⟩, .bool false, .string ⟨#[]⟩] 83)).alloc (.cells #[.string ⟨#[]⟩, .int .i64 0, .string ⟨#[]⟩, .bool false, .string ⟨#[]⟩] 83)).drew := ⟨_, rfl⟩
              have hr0 : W0.heap[wy.heap.size]? = some (.cells ([Value.string ⟨#[]⟩, Value.int .i64 0, Value.string ⟨#[]⟩, Value.bool false, Value.string ⟨#[]⟩] : List Value).toArray 83 (0, 0)) := by rw [hW0]; exact row_n1 wy _ _
              have hr1 : W0.heap[wy.heap.size + 1]? = some (.cells ([Value.string ⟨#[]⟩, Value.int .i64 0, Value.string ⟨#[]⟩, Value.bool false, Value.string ⟨#[]⟩] : List Value).toArray 83 (0, 0)) := by rw [hW0]; exact row_n2 wy _ _
              rw [← hW0] at hHeld ⊢
              replace hW0 := Lib.hid hW0
              have fa0 : W0.cell? ⟨wy.heap.size + 1, 0, none⟩ = some (Value.string ⟨#[]⟩) := by rw [cell_of_row _ _ 0 _ 83 (0, 0) hr1]; rfl
              have ha0 : W0.frozen? ⟨wy.heap.size + 1, 0, none⟩ = false := by simp [World.frozen?, hr1]
              have fa1 : W0.cell? ⟨wy.heap.size + 1, 1, none⟩ = some (Value.int .i64 0) := by rw [cell_of_row _ _ 1 _ 83 (0, 0) hr1]; rfl
              have ha1 : W0.frozen? ⟨wy.heap.size + 1, 1, none⟩ = false := by simp [World.frozen?, hr1]
              have fa2 : W0.cell? ⟨wy.heap.size + 1, 2, none⟩ = some (Value.string ⟨#[]⟩) := by rw [cell_of_row _ _ 2 _ 83 (0, 0) hr1]; rfl
              have ha2 : W0.frozen? ⟨wy.heap.size + 1, 2, none⟩ = false := by simp [World.frozen?, hr1]
              have fa3 : W0.cell? ⟨wy.heap.size + 1, 3, none⟩ = some (Value.bool false) := by rw [cell_of_row _ _ 3 _ 83 (0, 0) hr1]; rfl
              have ha3 : W0.frozen? ⟨wy.heap.size + 1, 3, none⟩ = false := by simp [World.frozen?, hr1]
              have fa4 : W0.cell? ⟨wy.heap.size + 1, 4, none⟩ = some (Value.string ⟨#[]⟩) := by rw [cell_of_row _ _ 4 _ 83 (0, 0) hr1]; rfl
              have ha4 : W0.frozen? ⟨wy.heap.size + 1, 4, none⟩ = false := by simp [World.frozen?, hr1]
              have hBo := Lib.hid hHeld
              refine wpAnyH_readyR (rs := [12]) hops rdE18_12 (by simp) (AllReadyH.consR rfl stE18_13 (fun K hK => ?_) AllReadyH.nil)
              go_simp
              refine hK.out _ _ (by exact bl_set5 hBo.out _ (by omega) _ _ _ _ _) (fun hHeld => ?_)
              clear hK K
              try simp only [Act.put, sA, sB, sC]
              obtain ⟨W1, hW1⟩ : ∃ W, W = (((((W0.setCell ⟨wy.heap.size + 1, 0, none⟩ (.string f1)).setCell ⟨wy.heap.size + 1, 1, none⟩ (.int .i64 k1)).setCell ⟨wy.heap.size + 1, 2, none⟩ (.string v1)).setCell ⟨wy.heap.size + 1, 3, none⟩ (.bool b1)).setCell ⟨wy.heap.size + 1, 4, none⟩ (.string (st E1))) := ⟨_, rfl⟩
              have hs1 : W1.heap[wy.heap.size + 1]? = some (.cells ([.string f1, .int .i64 k1, .string v1, .bool b1, .string (st E1)] : List Value).toArray 83 (0, 0)) := by rw [hW1]; exact set5 W0 (wy.heap.size + 1) _ _ _ _ _ _ _ _ _ _ 83 hr1
              have hs2 : W1.heap[wy.heap.size]? = some (.cells ([Value.string ⟨#[]⟩, Value.int .i64 0, Value.string ⟨#[]⟩, Value.bool false, Value.string ⟨#[]⟩] : List Value).toArray 83 (0, 0)) := by rw [hW1]; exact set5_other W0 (wy.heap.size + 1) (wy.heap.size) _ _ _ _ _ (by omega) hr0
              rw [← hW1] at hHeld ⊢
              replace hW1 := Lib.hid hW1
              clear fa0 ha0 fa1 ha1 fa2 ha2 fa3 ha3 fa4 ha4
              have fb0 : W1.cell? ⟨wy.heap.size, 0, none⟩ = some (Value.string ⟨#[]⟩) := by rw [cell_of_row _ _ 0 _ 83 (0, 0) hs2]; rfl
              have hb0 : W1.frozen? ⟨wy.heap.size, 0, none⟩ = false := by simp [World.frozen?, hs2]
              have fb1 : W1.cell? ⟨wy.heap.size, 1, none⟩ = some (Value.int .i64 0) := by rw [cell_of_row _ _ 1 _ 83 (0, 0) hs2]; rfl
              have hb1 : W1.frozen? ⟨wy.heap.size, 1, none⟩ = false := by simp [World.frozen?, hs2]
              have fb2 : W1.cell? ⟨wy.heap.size, 2, none⟩ = some (Value.string ⟨#[]⟩) := by rw [cell_of_row _ _ 2 _ 83 (0, 0) hs2]; rfl
              have hb2 : W1.frozen? ⟨wy.heap.size, 2, none⟩ = false := by simp [World.frozen?, hs2]
              have fb3 : W1.cell? ⟨wy.heap.size, 3, none⟩ = some (Value.bool false) := by rw [cell_of_row _ _ 3 _ 83 (0, 0) hs2]; rfl
              have hb3 : W1.frozen? ⟨wy.heap.size, 3, none⟩ = false := by simp [World.frozen?, hs2]
              have fb4 : W1.cell? ⟨wy.heap.size, 4, none⟩ = some (Value.string ⟨#[]⟩) := by rw [cell_of_row _ _ 4 _ 83 (0, 0) hs2]; rfl
              have hb4 : W1.frozen? ⟨wy.heap.size, 4, none⟩ = false := by simp [World.frozen?, hs2]
              have hBo1 := Lib.hid hHeld
              have hs1' := Lib.hid hs1
              have hs2' := Lib.hid hs2
              clear hs1 hs2 hr0 hr1
              refine wpAnyH_readyR (rs := [13]) hops rdE18_13 (by simp) (AllReadyH.consR rfl stE18_14 (fun K hK => ?_) AllReadyH.nil)
              go_simp
              refine hK.out _ _ (by exact bl_set5 hBo1.out _ (by omega) _ _ _ _ _) (fun hHeld => ?_)
              clear hK K
              try simp only [Act.put, sA, sB, sC]
              refine wpAnyH_doneR hops rdE18_14 ?_
              have hfin := Lib.hid (bl_set5 hBo1.out (wy.heap.size) (by omega) (.string f2) (.int .i64 k2) (.string v2) (.bool b2) (.string (st E2)))
              have hz1 := Lib.hid (set5 W1 (wy.heap.size) _ _ _ _ _ (.string f2) (.int .i64 k2) (.string v2) (.bool b2) (.string (st E2)) 83 hs2'.out)
              have hz2 := Lib.hid (set5_other W1 (wy.heap.size) (wy.heap.size + 1) (.string f2) (.int .i64 k2) (.string v2) (.bool b2) (.string (st E2)) (by omega) hs1'.out)
              go_wp2_with fail
              go_meet
              exact ⟨_, _, rfl, rfl, hz2, hz1, hfin⟩
          case rest =>
            obtain ⟨b14, b15, rfl, rfl, h14, h15, hBz⟩ := hcut
            obtain ⟨wz, rfl⟩ : ∃ x, x = wc := ⟨_, rfl⟩
            have hRz := Lib.hid (hR.out.below hBz.out)
            have hKz := Lib.hid (grown_then hK.out (.inl rfl) (grown_of_below hBz.out (some go)))
            clear hR hK hSk hBz hy9 hy11
            have hc14 : Hid (∀ W' : World, W'.heap[b14]? = some (.cells ([.string f1, .int .i64 k1, .string v1, .bool b1, .string (st E1)] : List Value).toArray 83 (0, 0)) → (W'.cell? ⟨b14, 0, none⟩ = some (.string f1) ∧ W'.cell? ⟨b14, 1, none⟩ = some (.int .i64 k1) ∧ W'.cell? ⟨b14, 2, none⟩ = some (.string v1) ∧ W'.cell? ⟨b14, 3, none⟩ = some (.bool b1) ∧ W'.cell? ⟨b14, 4, none⟩ = some (.string (st E1)))) := Lib.hid (fun W' h => by
              refine ⟨?_, ?_, ?_, ?_, ?_⟩ <;> (rw [cell_of_row _ _ _ _ 83 (0, 0) h]; rfl))
            have hc15 : Hid (∀ W' : World, W'.heap[b15]? = some (.cells ([.string f2, .int .i64 k2, .string v2, .bool b2, .string (st E2)] : List Value).toArray 83 (0, 0)) → (W'.cell? ⟨b15, 0, none⟩ = some (.string f2) ∧ W'.cell? ⟨b15, 1, none⟩ = some (.int .i64 k2) ∧ W'.cell? ⟨b15, 2, none⟩ = some (.string v2) ∧ W'.cell? ⟨b15, 3, none⟩ = some (.bool b2) ∧ W'.cell? ⟨b15, 4, none⟩ = some (.string (st E2)))) := Lib.hid (fun W' h => by
              refine ⟨?_, ?_, ?_, ?_, ?_⟩ <;> (rw [cell_of_row _ _ _ _ 83 (0, 0) h]; rfl))
            obtain ⟨p0, p1, p2, p3, p4⟩ := hc14.out _ h14.out
            obtain ⟨q0, q1, q2, q3, q4⟩ := hc15.out _ h15.out
            have hap := Lib.hid (apart_any E1 E2 hE1.out hE2.out wz)
            go_upto_region 19 with fail
            go_cut [107] (fun v107 wa => ∃ q : Bool, v107 = .bool q ∧ Hid (Below wz.heap.size wz wa))
            case first =>
              cases e1 : (v1.toList == v2.toList) with
              | false =>
                go_wp2_with fail
                go_meet
                exact ⟨_, rfl, Lib.hid (Below.refl _ _)⟩
              | true =>
                cases b1 <;> cases b2 <;> (go_wp2_with (go_at_call 37; (with_reducible refine hap.out.mono ?_); rintro e wp ⟨q, rfl, hbp⟩; replace hbp := Lib.hid hbp)) <;> go_meet <;>
                  first
                    | exact ⟨_, rfl, hbp⟩
                    | exact ⟨_, rfl, Lib.hid (Below.refl _ _)⟩
            case rest =>
              obtain ⟨q, rfl, hBa⟩ := hcut
              obtain ⟨wa, rfl⟩ : ∃ x, x = wc := ⟨_, rfl⟩
              have hRa := Lib.hid (hRz.out.below hBa.out)
              have hKa := Lib.hid (grown_then hKz.out (.inl rfl) (grown_of_below hBa.out (some go)))
              have g14 := Lib.hid (bl_row hBa.out h14.out)
              have g15 := Lib.hid (bl_row hBa.out h15.out)
              clear p0 p1 p2 p3 p4 q0 q1 q2 q3 q4 h14 h15 hRz hKz hBa hap
              cases q with
              | true =>
                go_wp2_with fail
                exact ⟨⟨y + 1, vr, n', by go_num, by omega, by omega, hRa, hKa⟩, by simp [intOf]; omega⟩
              | false =>
                obtain ⟨p0, p1, p2, p3, p4⟩ := hc14.out _ g14.out
                obtain ⟨q0, q1, q2, q3, q4⟩ := hc15.out _ g15.out
                go_upto_region 21 with fail
                have hbr : Hid (∀ w', Calls Try.prog 38 #[.agg #[.string f2, .int .i64 k2], .agg #[.string f1, .int .i64 k1]] w' (SomeB w')) := Lib.hid (fun w' => before_any f2 f1 k2 k1 w')
                have hr86 : Hid ((wa.alloc (.cells #[.string v1, .string f1, .int .i64 k1, .string f2, .int .i64 k2] 86)).heap[wa.heap.size]? = some (.cells ([.string v1, .string f1, .int .i64 k1, .string f2, .int .i64 k2] : List Value).toArray 86 (0, 0))) := Lib.hid (heap_alloc_new wa _)
                have hB86 : Hid (Below wa.heap.size wa (wa.alloc (.cells #[.string v1, .string f1, .int .i64 k1, .string f2, .int .i64 k2] 86))) := Lib.hid (bl_alloc (Below.refl _ _) _)
                obtain ⟨b16, hb16⟩ : ∃ b, b = wa.heap.size := ⟨_, rfl⟩
                rw [← hb16] at hr86 ⊢
                obtain ⟨wb, hwb⟩ : ∃ W, W = wa.alloc (.cells #[.string v1, .string f1, .int .i64 k1, .string f2, .int .i64 k2] 86) := ⟨_, rfl⟩
                rw [← hwb] at hr86 hB86 ⊢
                have hb16' : Hid (wa.heap.size ≤ b16) := Lib.hid (by rw [hb16]; exact Nat.le_refl _)
                replace hb16 := Lib.hid hb16
                replace hwb := Lib.hid hwb
                have hc16 : Hid (∀ (W' : World) (fa : ByteArray) (ka : Int) (fb : ByteArray) (kb : Int), W'.heap[b16]? = some (.cells ([.string v1, .string fa, .int .i64 ka, .string fb, .int .i64 kb] : List Value).toArray 86 (0, 0)) → (W'.cell? ⟨b16, 0, none⟩ = some (.string v1) ∧ W'.cell? ⟨b16, 1, none⟩ = some (.string fa) ∧ W'.cell? ⟨b16, 2, none⟩ = some (.int .i64 ka) ∧ W'.cell? ⟨b16, 3, none⟩ = some (.string fb) ∧ W'.cell? ⟨b16, 4, none⟩ = some (.int .i64 kb))) := Lib.hid (fun W' fa ka fb kb h => by
                  refine ⟨?_, ?_, ?_, ?_, ?_⟩ <;> (rw [cell_of_row _ _ _ _ 86 (0, 0) h]; rfl))
                clear p0 p1 p2 p3 p4 q0 q1 q2 q3 q4
                obtain ⟨p0, p1, p2, p3, p4⟩ := hc14.out _ (bl_row hB86.out g14.out)
                obtain ⟨q0, q1, q2, q3, q4⟩ := hc15.out _ (bl_row hB86.out g15.out)
                go_cut [119] (fun v119 wd => ∃ q : Bool, v119 = .bool q ∧ Hid (Below wb.heap.size wb wd))
                case first =>
                  go_wp2_with (go_at_call 38; (with_reducible refine (hbr.out _).mono ?_); rintro e wd ⟨q, rfl, hbd⟩)
                  go_meet
                  exact ⟨_, rfl, Lib.hid hbd⟩
                case rest =>
                  obtain ⟨q, rfl, hBd⟩ := hcut
                  obtain ⟨wd, rfl⟩ : ∃ x, x = wc := ⟨_, rfl⟩
                  have hBe := Lib.hid (bl_then hB86.out hB86.out.size hBd.out)
                  have hre := Lib.hid (bl_row hBd.out hr86.out)
                  clear p0 p1 p2 p3 p4 q0 q1 q2 q3 q4 hr86 hB86 hBd
                  cases q with
                  | false =>
                    have hrow := hre
                    have hBf := hBe
                    obtain ⟨wf, rfl⟩ : ∃ x, x = wd := ⟨_, rfl⟩
                    have hKf := Lib.hid (grown_then hKa.out (.inl rfl) (grown_of_below hBf.out (some go)))
                    have hRf := Lib.hid (hRa.out.below hBf.out)
                    obtain ⟨c0, c1, c2, c3, c4⟩ := hc16.out _ _ _ _ _ hrow.out
                    have c5 : wf.cell? ⟨go, 0, none⟩ = some vr := by rw [cell_of_row _ _ 0 _ 48 (0, 0) hRf.out.bx]; rfl
                    go_wp2_with (go_at_call 39; (with_reducible refine (withr_any _ n' _ _ _ _ _ _ hv1 hRf.out.rc (by omega)).mono ?_); rintro e w9 ⟨v9, n9, rfl, hn9, hn9', hs9, hf9, hb9⟩; have hs9' := Lib.hid hs9; obtain ⟨A8, c8, x8, rfl, -⟩ := hs9; have hx9 := bl_row hb9 hRf.out.bx; have u1 : w9.cell? ⟨go, 0, none⟩ = some vr := (by rw [cell_of_row _ _ 0 _ 48 (0, 0) hx9]; rfl); have u2 : w9.frozen? ⟨go, 0, none⟩ = false := (by simp [World.frozen?, hx9]); clear hx9; replace hf9 := Lib.hid hf9; replace hb9 := Lib.hid hb9)
                    exact ⟨⟨y + 1, _, n9, by go_num, by omega, by omega, Lib.hid (hRf.out.race hb9.out hs9'.out hf9.out).1, Lib.hid (grown_then hKf.out (.inl rfl) (hRf.out.race hb9.out hs9'.out hf9.out).2)⟩, by simp [intOf]; omega⟩
                  | true =>
                    obtain ⟨p0, p1, p2, p3, p4⟩ := hc14.out _ (bl_row hBe.out g14.out)
                    obtain ⟨q0, q1, q2, q3, q4⟩ := hc15.out _ (bl_row hBe.out g15.out)
                    obtain ⟨c0, c1, c2, c3, c4⟩ := hc16.out _ _ _ _ _ hre.out
                    have z0 : wd.frozen? ⟨b16, 0, none⟩ = false := by simp [World.frozen?, hre.out]
                    have z1 : wd.frozen? ⟨b16, 1, none⟩ = false := by simp [World.frozen?, hre.out]
                    have z2 : wd.frozen? ⟨b16, 2, none⟩ = false := by simp [World.frozen?, hre.out]
                    have z3 : wd.frozen? ⟨b16, 3, none⟩ = false := by simp [World.frozen?, hre.out]
                    have z4 : wd.frozen? ⟨b16, 4, none⟩ = false := by simp [World.frozen?, hre.out]
                    go_upto_region 23 with fail
                    obtain ⟨wf, hwf⟩ : ∃ W, W = (((((wd.setCell ⟨b16, 0, none⟩ (.string v1)).setCell ⟨b16, 1, none⟩ (.string f2)).setCell ⟨b16, 2, none⟩ (.int .i64 k2)).setCell ⟨b16, 3, none⟩ (.string f1)).setCell ⟨b16, 4, none⟩ (.int .i64 k1)) := ⟨_, rfl⟩
                    have hrow : Hid (wf.heap[b16]? = some (.cells ([.string v1, .string f2, .int .i64 k2, .string f1, .int .i64 k1] : List Value).toArray 86 (0, 0))) := Lib.hid (by rw [hwf]; exact set5 wd b16 _ _ _ _ _ _ _ _ _ _ 86 hre.out)
                    have hBf : Hid (Below wa.heap.size wa wf) := Lib.hid (by rw [hwf]; exact bl_set5 hBe.out b16 hb16'.out _ _ _ _ _)
                    rw [← hwf]
                    replace hwf := Lib.hid hwf
                    clear p0 p1 p2 p3 p4 q0 q1 q2 q3 q4 c0 c1 c2 c3 c4 z0 z1 z2 z3 z4
                    have hKf := Lib.hid (grown_then hKa.out (.inl rfl) (grown_of_below hBf.out (some go)))
                    have hRf := Lib.hid (hRa.out.below hBf.out)
                    obtain ⟨c0, c1, c2, c3, c4⟩ := hc16.out _ _ _ _ _ hrow.out
                    have c5 : wf.cell? ⟨go, 0, none⟩ = some vr := by rw [cell_of_row _ _ 0 _ 48 (0, 0) hRf.out.bx]; rfl
                    go_wp2_with (go_at_call 39; (with_reducible refine (withr_any _ n' _ _ _ _ _ _ hv1 hRf.out.rc (by omega)).mono ?_); rintro e w9 ⟨v9, n9, rfl, hn9, hn9', hs9, hf9, hb9⟩; have hs9' := Lib.hid hs9; obtain ⟨A8, c8, x8, rfl, -⟩ := hs9; have hx9 := bl_row hb9 hRf.out.bx; have u1 : w9.cell? ⟨go, 0, none⟩ = some vr := (by rw [cell_of_row _ _ 0 _ 48 (0, 0) hx9]; rfl); have u2 : w9.frozen? ⟨go, 0, none⟩ = false := (by simp [World.frozen?, hx9]); clear hx9; replace hf9 := Lib.hid hf9; replace hb9 := Lib.hid hb9)
                    exact ⟨⟨y + 1, _, n9, by go_num, by omega, by omega, Lib.hid (hRf.out.race hb9.out hs9'.out hf9.out).1, Lib.hid (grown_then hKf.out (.inl rfl) (hRf.out.race hb9.out hs9'.out hf9.out).2)⟩, by simp [intOf]; omega⟩
        · have d2 : decide ((y : Int) < (nb : Int)) = false := by simp; omega
          go_wp2_with fail
          exact ⟨⟨x + 1, vr, n', by go_num, by omega, by omega, hR, hK⟩, by simp [intOf]; omega⟩
    · have hxn : Hid (x = na) := Lib.hid (by omega)
      have d1 : decide ((x : Int) < (na : Int)) = false := by simp; omega
      go_wp2_with fail
      exact hexit.out _ _ _ _ _ _ _ _ _ _ _ _ _ _ _ _ _ _ _ _ _ _ _ _ _ _ _ _ _ _ _ _ _ _ _ _ _ _ _ _ _ _ _ _ _ _ _ _ _ _ _ _ _ _ _ _ _ _ _ _ _ _ _ _ _ _ _ _ _ _ _ _ _ _ _ _ _ (Lib.hid ⟨vr, n', by omega, hR.out, hK.out⟩)
end Go.Proofs.Ytdhklfbelplbcaa
