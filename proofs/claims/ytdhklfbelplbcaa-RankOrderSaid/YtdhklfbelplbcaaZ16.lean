/-
  The orders of the drawn region 11 of Report.
  Report, block 2: a root against those behind it.
-/
import Derived.Test.YtdhklfbelplbcaaZ14
import Derived.Test.YtdhklfbelplbcaaZ15
namespace Go.Proofs.Ytdhklfbelplbcaa
set_option maxRecDepth 100000
noncomputable def opsE11 : Array Oper := regIn 11 Try.f21
theorem nsE11 : Region.noSelect opsE11 = true := by kernel_rfl
theorem liE11 : Array.replicate opsE11.size false = (bitsB 9 0) := by kernel_rfl
theorem rdE11_0 : Region.ready .any opsE11 (bitsB 9 0) = [0, 1, 2, 3, 7] := by kernel_rfl
theorem frE11_0 : Region.free .any opsE11 (bitsB 9 0) 0 = true := by kernel_rfl
theorem stE11_0 : (bitsB 9 0).setIfInBounds 0 true = (bitsB 9 1) := by kernel_rfl
theorem rdE11_1 : Region.ready .any opsE11 (bitsB 9 1) = [1, 2, 3, 7] := by kernel_rfl
theorem frE11_1 : Region.free .any opsE11 (bitsB 9 1) 1 = true := by kernel_rfl
theorem stE11_1 : (bitsB 9 1).setIfInBounds 1 true = (bitsB 9 3) := by kernel_rfl
theorem rdE11_2 : Region.ready .any opsE11 (bitsB 9 3) = [2, 3, 7] := by kernel_rfl
theorem frE11_2 : Region.free .any opsE11 (bitsB 9 3) 2 = true := by kernel_rfl
theorem stE11_2 : (bitsB 9 3).setIfInBounds 2 true = (bitsB 9 7) := by kernel_rfl
theorem rdE11_3 : Region.ready .any opsE11 (bitsB 9 7) = [3, 7] := by kernel_rfl
theorem frE11_3 : Region.free .any opsE11 (bitsB 9 7) 3 = true := by kernel_rfl
theorem stE11_3 : (bitsB 9 7).setIfInBounds 3 true = (bitsB 9 15) := by kernel_rfl
theorem rdE11_4 : Region.ready .any opsE11 (bitsB 9 15) = [4, 7] := by kernel_rfl
theorem frE11_4 : Region.free .any opsE11 (bitsB 9 15) 4 = true := by kernel_rfl
theorem stE11_4 : (bitsB 9 15).setIfInBounds 4 true = (bitsB 9 31) := by kernel_rfl
theorem rdE11_5 : Region.ready .any opsE11 (bitsB 9 31) = [5, 7] := by kernel_rfl
theorem frE11_5 : Region.free .any opsE11 (bitsB 9 31) 5 = true := by kernel_rfl
theorem stE11_5 : (bitsB 9 31).setIfInBounds 5 true = (bitsB 9 63) := by kernel_rfl
theorem stE11_6 : (bitsB 9 63).setIfInBounds 7 true = (bitsB 9 191) := by kernel_rfl
theorem stE11_7 : (bitsB 9 63).setIfInBounds 6 true = (bitsB 9 127) := by kernel_rfl
theorem rdE11_6 : Region.ready .any opsE11 (bitsB 9 63) = [6, 7] := by kernel_rfl
theorem rdE11_7 : Region.ready .any opsE11 (bitsB 9 127) = [7] := by kernel_rfl
theorem stE11_8 : (bitsB 9 127).setIfInBounds 7 true = (bitsB 9 255) := by kernel_rfl
theorem rdE11_8 : Region.ready .any opsE11 (bitsB 9 255) = [8] := by kernel_rfl
theorem stE11_9 : (bitsB 9 255).setIfInBounds 8 true = (bitsB 9 511) := by kernel_rfl
theorem rdE11_9 : Region.ready .any opsE11 (bitsB 9 511) = [] := by kernel_rfl
theorem rdE11_10 : Region.ready .any opsE11 (bitsB 9 191) = [6] := by kernel_rfl
theorem stE11_10 : (bitsB 9 191).setIfInBounds 6 true = (bitsB 9 255) := by kernel_rfl
end Go.Proofs.Ytdhklfbelplbcaa
namespace Go.Proofs.Ytdhklfbelplbcaa
set_option linter.unusedVariables false
set_option linter.unusedSimpArgs false
open Go.RowKit

/-- how many races there are at most -/
def bdR (i k : Nat) : Nat := (i * 5 + k) * 640000
theorem bdR_mono {i k k' : Nat} (h : k ≤ k') : bdR i k ≤ bdR i k' := Nat.mul_le_mul_right _ (by omega)
theorem bdR_succ {n i k : Nat} (h : n ≤ bdR i k) : n + 640000 ≤ bdR i (k + 1) := by
  have e : bdR i (k + 1) = bdR i k + 640000 := by unfold bdR; rw [← Nat.add_assoc, Nat.add_mul, Nat.one_mul]
  rw [e]; exact Nat.add_le_add_right h _
theorem bdR_next {i k : Nat} (h : k ≤ 5) : bdR i k ≤ bdR (i + 1) 0 := Nat.mul_le_mul_right _ (by omega)
theorem bdR_top {i k : Nat} (h : i ≤ 5 ∧ k ≤ 5) : bdR i k ≤ 90000000 := Nat.le_trans (Nat.mul_le_mul_right _ (show i * 5 + k ≤ 30 by omega)) (by decide)
/-- a sum in a struct of its own -/
def SumAt (w wi wx : World) (v9 : Value) : Prop :=
  ∃ b9 m y A1 A2 A3 na c1 nq c2 n3 c3, v9 = .pointer (some ⟨b9, 0, none⟩) ∧ Hid (wx.heap[b9]? = some (.cells ([.string m, .string y, .slice A1 na c1, .slice A2 nq c2, .slice A3 n3 c3] : List Value).toArray 78 (0, 0))) ∧ Hid (wi.heap.size ≤ b9) ∧ Hid (Below wi.heap.size wi wx) ∧ Hid (SlAc w (.slice A1 na c1) na ∧ SlAq w (.slice A2 nq c2) nq ∧ na ≤ 800 ∧ nq ≤ 800)
set_option maxHeartbeats 64000000 in
set_option maxRecDepth 100000 in
theorem report_b2 (w w2 : World) (g1 g2 gl cl go gm c6 cm p i b9 na nq ns c9 d9 e9 n n0 c0 : Nat) (A0 A9 B9 C9 : Option Addr) (ad : Addr) (m9 y9 : ByteArray) (vr ve : Value) (es : List (ByteArray × ByteArray)) (sl0 sl3 sl4 sl11 sl12 sl13 sl14 sl15 sl16 sl17 sl18 sl19 sl20 sl21 sl22 sl23 sl24 sl25 sl26 sl27 sl28 sl29 sl30 sl31 sl32 sl33 sl34 sl35 sl36 sl37 sl38 sl39 sl40 sl41 sl42 sl43 sl44 sl45 sl46 sl47 sl48 sl49 sl50 sl51 sl52 sl53 sl54 sl55 sl56 sl57 sl58 sl59 sl60 sl61 sl62 sl63 sl64 sl65 sl66 sl67 sl68 sl69 sl70 sl71 sl72 sl73 sl74 sl75 sl76 sl77 sl78 sl79 sl80 sl81 sl82 sl83 sl84 sl85 sl86 sl87 sl88 sl89 sl90 sl91 sl92 sl93 sl94 sl95 sl96 sl97 sl98 sl99 sl100 sl101 sl102 sl103 sl104 sl105 sl106 sl107 sl108 sl109 sl110 sl111 sl112 sl113 sl114 sl115 sl116 sl117 sl118 sl119 sl120 sl121 sl122 sl123 sl124 sl125 sl126 sl127 sl128 sl129 sl130 sl131 sl132 sl133 sl134 sl135 sl136 sl137 sl138 sl139 sl140 sl141 sl142 sl143 sl144 sl145 sl146 sl147 sl148 sl149 sl150 sl151 sl152 sl153 sl154 sl155 sl156 sl157 sl158 sl159 sl160 sl161 sl162 sl163 sl164 sl165 sl166 sl167 sl168 sl169 sl170 sl171 sl172 sl173 sl174 sl175 sl176 : Value) (W : World) (Q : Exit → Act → World → Prop) (hRj : Hid (RepS w w2 W go vr ve n es)) (h9 : Hid (W.heap[b9]? = some (.cells ([.string m9, .string y9, .slice A9 na c9, .slice B9 nq d9, .slice C9 ns e9] : List Value).toArray 78 (0, 0)))) (hne9 : Hid (b9 ≠ go)) (hsq : Hid (SlAc w (.slice A9 na c9) na ∧ SlAq w (.slice B9 nq d9) nq ∧ na ≤ 800 ∧ nq ≤ 800)) (hsum0 : Hid (∀ f, f < 4 → ∀ w', Below w.heap.size w w' → Calls Try.prog 36 #[(.agg #[.slice A0 n0 c0, .slice (some ⟨g1, 0, none⟩) 3 3, .slice (some ⟨g2, 0, none⟩) 4 4]), .slice (some ⟨gl, 0, none⟩) 4 cl, .string (fnN f)] w' (SumPost w w'))) (hbox : Hid (∀ w', w2.grownBy w' (some go) → (w'.cell? ⟨w.heap.size, 0, none⟩ = some (.slice A0 n0 c0) ∧ w'.cell? ⟨w.heap.size, 1, none⟩ = some (.slice (some ⟨g1, 0, none⟩) 3 3) ∧ w'.cell? ⟨w.heap.size, 2, none⟩ = some (.slice (some ⟨g2, 0, none⟩) 4 4)))) (hroot : Hid (∀ i, i < p → ∃ f, f < 4 ∧ ∀ w', w2.grownBy w' (some go) → w'.cell? (ad.add i) = some (.string (fnN f)))) (hmany : Hid (∀ i, i < p → ∃ b : Bool, ∀ w', w2.grownBy w' (some go) → w'.cell? ⟨gm, i, none⟩ = some (.bool b))) (hp5 : p ≤ 5) (hpc : p ≤ cm) (hpd : p ≤ c6) (hlt : i < p) (hn : n ≤ bdR i 0)
    (hQ : Hid (∀ (c : _) (a : Act) (d : Option Tmp) (v : Value) (w : World), Q (.panic c) (a.put d v) w → Q (.panic c) a w)) (hexit : Hid (∀ (u10 u11 u12 u13 u14 u15 u16 u38 u39 u40 u41 u42 u43 u44 u45 u46 u47 u48 u49 u50 u51 u52 u53 u54 u55 u56 u57 u58 u59 u60 u61 u62 u63 u64 u65 u66 u67 u68 u69 u70 u71 u72 u73 u74 u75 u76 u77 u78 u79 u80 u81 u82 u83 u84 u85 u86 u87 u88 u89 u90 u91 u92 u93 u94 u95 u96 u97 u98 u99 u100 u101 u102 u103 u104 u105 u106 u107 u108 u109 u110 u111 u112 u113 u114 u115 u116 u117 u118 u119 u120 u121 u122 u123 u124 u125 u126 u127 u128 u129 u130 u131 : Value) (W' : World), Hid (∃ vr' n', n' ≤ bdR (i + 1) 0 ∧ RepS w w2 W' go vr' ve n' es ∧ W.grownBy W' (some go)) → Q .normal ⟨#[sl0, .slice (some ⟨gl, 0, none⟩) 4 cl, .pointer (some ⟨w.heap.size, 0, none⟩), sl3, sl4, .pointer (some ⟨go, 0, none⟩), .slice (some ad) p c6, .slice (some ⟨gm, 0, none⟩) p cm, .int .i64 (i : Nat), .pointer (some ⟨b9, 0, none⟩), u10, u11, u12, u13, u14, u15, u16, sl17, sl18, sl19, sl20, sl21, sl22, sl23, sl24, sl25, sl26, sl27, sl28, sl29, sl30, sl31, sl32, sl33, sl34, sl35, sl36, sl37, u38, u39, u40, u41, u42, u43, u44, u45, u46, u47, u48, u49, u50, u51, u52, u53, u54, u55, u56, u57, u58, u59, u60, u61, u62, u63, u64, u65, u66, u67, u68, u69, u70, u71, u72, u73, u74, u75, u76, u77, u78, u79, u80, u81, u82, u83, u84, u85, u86, u87, u88, u89, u90, u91, u92, u93, u94, u95, u96, u97, u98, u99, u100, u101, u102, u103, u104, u105, u106, u107, u108, u109, u110, u111, u112, u113, u114, u115, u116, u117, u118, u119, u120, u121, u122, u123, u124, u125, u126, u127, u128, u129, u130, u131, sl132, sl133, sl134, sl135, sl136, sl137, sl138, sl139, sl140, sl141, sl142, sl143, sl144, sl145, sl146, sl147, sl148, sl149, sl150, sl151, sl152, sl153, sl154, sl155, sl156, sl157, sl158, sl159, sl160, sl161, sl162, sl163, sl164, sl165, sl166, sl167, sl168, sl169, sl170, sl171, sl172, sl173, sl174, sl175, sl176], []⟩ W')) :
    (blkIn 2 Try.f21).wp Try.prog Q ⟨#[sl0, .slice (some ⟨gl, 0, none⟩) 4 cl, .pointer (some ⟨w.heap.size, 0, none⟩), sl3, sl4, .pointer (some ⟨go, 0, none⟩), .slice (some ad) p c6, .slice (some ⟨gm, 0, none⟩) p cm, .int .i64 (i : Nat), .pointer (some ⟨b9, 0, none⟩), .int .i64 (i : Nat), sl11, sl12, sl13, sl14, sl15, sl16, sl17, sl18, sl19, sl20, sl21, sl22, sl23, sl24, sl25, sl26, sl27, sl28, sl29, sl30, sl31, sl32, sl33, sl34, sl35, sl36, sl37, sl38, sl39, sl40, sl41, sl42, sl43, sl44, sl45, sl46, sl47, sl48, sl49, sl50, sl51, sl52, sl53, sl54, sl55, sl56, sl57, sl58, sl59, sl60, sl61, sl62, sl63, sl64, sl65, sl66, sl67, sl68, sl69, sl70, sl71, sl72, sl73, sl74, sl75, sl76, sl77, sl78, sl79, sl80, sl81, sl82, sl83, sl84, sl85, sl86, sl87, sl88, sl89, sl90, sl91, sl92, sl93, sl94, sl95, sl96, sl97, sl98, sl99, sl100, sl101, sl102, sl103, sl104, sl105, sl106, sl107, sl108, sl109, sl110, sl111, sl112, sl113, sl114, sl115, sl116, sl117, sl118, sl119, sl120, sl121, sl122, sl123, sl124, sl125, sl126, sl127, sl128, sl129, sl130, sl131, sl132, sl133, sl134, sl135, sl136, sl137, sl138, sl139, sl140, sl141, sl142, sl143, sl144, sl145, sl146, sl147, sl148, sl149, sl150, sl151, sl152, sl153, sl154, sl155, sl156, sl157, sl158, sl159, sl160, sl161, sl162, sl163, sl164, sl165, sl166, sl167, sl168, sl169, sl170, sl171, sl172, sl173, sl174, sl175, sl176], []⟩ W := by
  let hbp := fun (e : Exit) (a : Act) (w : World) => bodyPost Try.prog Try.f21 (fun _ _ => True) e a w
  have i1 : (0 : Int) ≤ (i : Int) := by omega
  have i2 : (i : Int) < (p : Int) := by omega
  have i3 : (i : Int) < (cm : Int) := by omega
  obtain ⟨wj, rfl⟩ : ∃ x, x = W := ⟨_, rfl⟩
  conv => arg 2; whnf
  go_wp2_with fail
  go_loopw [10] (fun v10 wr => ∃ (k : Nat) (vr' : Value) (n' : Nat), v10 = .int .i64 (k : Nat) ∧ k ≤ p ∧ n' ≤ bdR i k ∧ Hid (RepS w w2 wr go vr' ve n' es) ∧ Hid (wj.grownBy wr (some go))) (fun v _ => p - (intOf v).toNat)
  case atStart => exact ⟨i, vr, n, rfl, by omega, Nat.le_trans hn (bdR_mono (by omega)), hRj, Lib.hid (grown_refl _ _)⟩
  case round =>
    obtain ⟨wk, rfl⟩ : ∃ x, x = wr := ⟨_, rfl⟩
    obtain ⟨k, vr, n', rfl, hk, hn', hR, hK⟩ := hrel
    have hk9 := Lib.hid (row_kept h9.out hK.out hne9.out)
    by_cases hkp : k < p
    · have d2 : decide ((k : Int) < (p : Int)) = true := by simp; omega
      have k1 : (0 : Int) ≤ (k : Int) := by omega
      have k2 : (k : Int) < (p : Int) := by omega
      obtain ⟨b, hbc⟩ := hmany.out i hlt
      have y0 := hbc wk hR.out.hK
      go_upto_region 10 with fail
      go_cut [53] (fun v53 wz => ∃ q : Bool, v53 = .bool q ∧ wz = wk)
      case first =>
        by_cases hki : k = i
        · have d3 : ((k : Int) == (i : Int)) = true := by simp; omega
          replace hki := Lib.hid hki
          cases b <;> (go_wp2_with fail) <;> go_meet <;> exact ⟨_, rfl, rfl⟩
        · have d3 : ((k : Int) == (i : Int)) = false := by simp; omega
          replace hki := Lib.hid hki
          go_wp2_with fail
          go_meet
          exact ⟨_, rfl, rfl⟩
      case rest =>
        obtain ⟨q, rfl, hwz⟩ := hcut
        subst hwz
        obtain ⟨wk, rfl⟩ : ∃ x, x = wc := ⟨_, rfl⟩
        cases q with
        | true =>
          go_wp2_with fail
          exact ⟨⟨k + 1, vr, n', by go_num, by omega, Nat.le_trans hn' (bdR_mono (by omega)), hR, hK⟩, by simp [intOf]; omega⟩
        | false =>
          obtain ⟨f2, hf2, hroc2⟩ := hroot.out k hkp
          have hsum : Hid (∀ w', Below wk.heap.size wk w' → Calls Try.prog 36 #[(.agg #[.slice A0 n0 c0, .slice (some ⟨g1, 0, none⟩) 3 3, .slice (some ⟨g2, 0, none⟩) 4 4]), .slice (some ⟨gl, 0, none⟩) 4 cl, .string (fnN f2)] w' (SumPost w w')) := Lib.hid (fun w' hb => hsum0.out f2 hf2 w' (bl_then hR.out.hB hR.out.hB.size hb))
          have hSk : Hid (∀ w', Below wk.heap.size wk w' → (w'.cell? ⟨w.heap.size, 0, none⟩ = some (.slice A0 n0 c0) ∧ w'.cell? ⟨w.heap.size, 1, none⟩ = some (.slice (some ⟨g1, 0, none⟩) 3 3) ∧ w'.cell? ⟨w.heap.size, 2, none⟩ = some (.slice (some ⟨g2, 0, none⟩) 4 4) ∧ w'.cell? (ad.add k) = some (.string (fnN f2)))) := Lib.hid (fun w' hb => by
            have hg := grown_then hR.out.hK (.inl rfl) (grown_of_below hb (some go))
            obtain ⟨q0, q1, q2⟩ := hbox.out w' hg
            exact ⟨q0, q1, q2, hroc2 w' hg⟩)
          replace hroc2 := Lib.hid hroc2
          clear y0 hbc
          go_upto_region 11 with fail
          go_cut [11] (fun v11 wx => SumAt w wk wx v11)
          case first =>
            refine wp_region_heldR (S := fun w' => Below wk.heap.size wk w') opsE11 _ (by kernel_rfl) liE11 (by kernel_rfl) nsE11 ((Below.refl wk.heap.size wk).drew) (fun hops hns hHeld => ?_)
            refine wpAnyH_takeR (i := 0) (v := ?vE11_1) hops hns rdE11_0 (by rfl) frE11_0 rfl (fun _ _ _ h => hQ.out _ _ _ _ _ h) stE11_0 (Or.inl ⟨by kernel_rfl, ?hyE11_1⟩) (by assumption) ?restE11_1
            case hyE11_1 => (intro w hSw; obtain ⟨y0, y1, y2, y3⟩ := hSk.out _ hSw; clear hSw; go_simp; (try with_reducible rfl))
            try simp only [Act.put, sA, sB, sC]
            refine wpAnyH_takeR (i := 1) (v := ?vE11_2) hops hns rdE11_1 (by rfl) frE11_1 rfl (fun _ _ _ h => hQ.out _ _ _ _ _ h) stE11_1 (Or.inl ⟨by kernel_rfl, ?hyE11_2⟩) (by assumption) ?restE11_2
            case hyE11_2 => (intro w hSw; obtain ⟨y0, y1, y2, y3⟩ := hSk.out _ hSw; clear hSw; go_simp; (try with_reducible rfl))
            try simp only [Act.put, sA, sB, sC]
            refine wpAnyH_takeR (i := 2) (v := ?vE11_3) hops hns rdE11_2 (by rfl) frE11_2 rfl (fun _ _ _ h => hQ.out _ _ _ _ _ h) stE11_2 (Or.inl ⟨by kernel_rfl, ?hyE11_3⟩) (by assumption) ?restE11_3
            case hyE11_3 => (intro w hSw; obtain ⟨y0, y1, y2, y3⟩ := hSk.out _ hSw; clear hSw; go_simp; (try with_reducible rfl))
            try simp only [Act.put, sA, sB, sC]
            refine wpAnyH_takeR (i := 3) (v := ?vE11_4) hops hns rdE11_3 (by rfl) frE11_3 rfl (fun _ _ _ h => hQ.out _ _ _ _ _ h) stE11_3 (Or.inl ⟨by kernel_rfl, ?hyE11_4⟩) (by assumption) ?restE11_4
            case hyE11_4 => (intro w hSw; obtain ⟨y0, y1, y2, y3⟩ := hSk.out _ hSw; clear hSw; go_simp; (try with_reducible rfl))
            try simp only [Act.put, sA, sB, sC]
            refine wpAnyH_takeR (i := 4) (v := ?vE11_5) hops hns rdE11_4 (by rfl) frE11_4 rfl (fun _ _ _ h => hQ.out _ _ _ _ _ h) stE11_4 (Or.inl ⟨by kernel_rfl, ?hyE11_5⟩) (by assumption) ?restE11_5
            case hyE11_5 => (intro w hSw; obtain ⟨y0, y1, y2, y3⟩ := hSk.out _ hSw; clear hSw; go_simp; (try with_reducible rfl))
            try simp only [Act.put, sA, sB, sC]
            refine wpAnyH_takeR (i := 5) (v := ?vE11_6) hops hns rdE11_5 (by rfl) frE11_5 rfl (fun _ _ _ h => hQ.out _ _ _ _ _ h) stE11_5 (Or.inl ⟨by kernel_rfl, ?hyE11_6⟩) (by assumption) ?restE11_6
            case hyE11_6 => (intro w hSw; obtain ⟨y0, y1, y2, y3⟩ := hSk.out _ hSw; clear hSw; go_simp; (try with_reducible rfl))
            try simp only [Act.put, sA, sB, sC]
            refine wpAnyH_readyR (rs := [6, 7]) hops rdE11_6 (by simp) (AllReadyH.consR rfl stE11_7 (fun K hK => ?_) (AllReadyH.consR rfl stE11_6 (fun K hK => ?_) AllReadyH.nil))
            · skip
              (go_simp; go_wp2_with (go_at_call 36; (with_reducible refine (hsum.out _ (by repeat (with_reducible (first | assumption | exact hBo.out | exact Below.refl _ _ | apply bl_alloc | apply Below.drew)))).mono ?_); rintro e w6 ⟨v6, rfl, ⟨m, y, A1, A2, A3, na, c1, nq, c2, n3, c3, rfl, k1, k2, k3, k4⟩, hb6⟩; have hBo := Lib.hid (show Below wk.heap.size wk w6 from bl_then (by repeat (with_reducible (first | assumption | exact hBo.out | exact Below.refl _ _ | apply bl_alloc | apply Below.drew))) (by simp) hb6); replace k1 := Lib.hid k1; replace k2 := Lib.hid k2; clear hb6))
              refine hK.out _ _ (by exact hBo.out) (fun hHeld => ?_)
              clear hK K
              try simp only [Act.put, sA, sB, sC]
              refine wpAnyH_readyR (rs := [7]) hops rdE11_7 (by simp) (AllReadyH.consR rfl stE11_8 (fun K hK => ?_) AllReadyH.nil)
              go_simp
              refine hK.out _ _ (by exact (bl_alloc hBo.out _)) (fun hHeld => ?_)
              clear hK K
              try simp only [Act.put, sA, sB, sC]
              refine wpAnyH_readyR (rs := [8]) hops rdE11_8 (by simp) (AllReadyH.consR rfl stE11_9 (fun K hK => ?_) AllReadyH.nil)
              go_simp
              refine hK.out _ _ (by exact (bl_alloc hBo.out _)) (fun hHeld => ?_)
              clear hK K
              try simp only [Act.put, sA, sB, sC]
              refine wpAnyH_doneR hops rdE11_9 ?_
              go_wp2_with fail
              go_meet
              exact ⟨_, m, y, A1, A2, A3, na, c1, nq, c2, n3, c3, rfl, Lib.hid (heap_alloc_new w6 _), Lib.hid (hBo.out.size), Lib.hid (bl_alloc hBo.out _), Lib.hid ⟨k1.out, k2.out, k3, k4⟩⟩
            · skip
              go_simp
              refine hK.out _ _ (by repeat (with_reducible (first | assumption | exact hBo.out | exact Below.refl _ _ | apply bl_alloc | apply Below.drew))) (fun hHeld => ?_)
              clear hK K
              try simp only [Act.put, sA, sB, sC]
              refine wpAnyH_readyR (rs := [6]) hops rdE11_10 (by simp) (AllReadyH.consR rfl stE11_10 (fun K hK => ?_) AllReadyH.nil)
              (go_simp; go_wp2_with (go_at_call 36; (with_reducible refine (hsum.out _ (by repeat (with_reducible (first | assumption | exact hBo.out | exact Below.refl _ _ | apply bl_alloc | apply Below.drew)))).mono ?_); rintro e w6 ⟨v6, rfl, ⟨m, y, A1, A2, A3, na, c1, nq, c2, n3, c3, rfl, k1, k2, k3, k4⟩, hb6⟩; have hBo := Lib.hid (show Below wk.heap.size wk w6 from bl_then (by repeat (with_reducible (first | assumption | exact hBo.out | exact Below.refl _ _ | apply bl_alloc | apply Below.drew))) (by simp) hb6); replace k1 := Lib.hid k1; replace k2 := Lib.hid k2; have hx : w6.heap[wk.heap.size]? = some (.cells #[.string ⟨#[]⟩, .string ⟨#[]⟩, .slice none 0 0, .slice none 0 0, .slice none 0 0] 78 (0, 0)) := bl_row hb6 (heap_alloc_new wk _); have f0 : w6.cell? ⟨wk.heap.size, 0, none⟩ = some (Value.string ⟨#[]⟩) := (by rw [cell_of_row _ _ 0 _ 78 (0, 0) hx]; rfl); have h0 : w6.frozen? ⟨wk.heap.size, 0, none⟩ = false := (by simp [World.frozen?, hx]); have f1 : w6.cell? ⟨wk.heap.size, 1, none⟩ = some (Value.string ⟨#[]⟩) := (by rw [cell_of_row _ _ 1 _ 78 (0, 0) hx]; rfl); have h1 : w6.frozen? ⟨wk.heap.size, 1, none⟩ = false := (by simp [World.frozen?, hx]); have f2 : w6.cell? ⟨wk.heap.size, 2, none⟩ = some (Value.slice none 0 0) := (by rw [cell_of_row _ _ 2 _ 78 (0, 0) hx]; rfl); have h2 : w6.frozen? ⟨wk.heap.size, 2, none⟩ = false := (by simp [World.frozen?, hx]); have f3 : w6.cell? ⟨wk.heap.size, 3, none⟩ = some (Value.slice none 0 0) := (by rw [cell_of_row _ _ 3 _ 78 (0, 0) hx]; rfl); have h3 : w6.frozen? ⟨wk.heap.size, 3, none⟩ = false := (by simp [World.frozen?, hx]); have f4 : w6.cell? ⟨wk.heap.size, 4, none⟩ = some (Value.slice none 0 0) := (by rw [cell_of_row _ _ 4 _ 78 (0, 0) hx]; rfl); have h4 : w6.frozen? ⟨wk.heap.size, 4, none⟩ = false := (by simp [World.frozen?, hx]); replace hx := Lib.hid hx; clear hb6))
              refine hK.out _ _ (by exact hBo.out) (fun hHeld => ?_)
              clear hK K
              try simp only [Act.put, sA, sB, sC]
              refine wpAnyH_readyR (rs := [8]) hops rdE11_8 (by simp) (AllReadyH.consR rfl stE11_9 (fun K hK => ?_) AllReadyH.nil)
              go_simp
              refine hK.out _ _ (by exact bl_set5 hBo.out _ (Nat.le_refl _) _ _ _ _ _) (fun hHeld => ?_)
              clear hK K
              try simp only [Act.put, sA, sB, sC]
              refine wpAnyH_doneR hops rdE11_9 ?_
              go_wp2_with fail
              go_meet
              exact ⟨_, m, y, A1, A2, A3, na, c1, nq, c2, n3, c3, rfl, Lib.hid (set5 w6 wk.heap.size _ _ _ _ _ _ _ _ _ _ 78 hx.out), Lib.hid (Nat.le_refl _), Lib.hid (bl_set5 hBo.out _ (Nat.le_refl _) _ _ _ _ _), Lib.hid ⟨k1.out, k2.out, k3, k4⟩⟩
          case rest =>
            obtain ⟨b11, m11, y11, A11, B11, C11, nb, c11, nq11, d11, ns11, e11, rfl, h11, hge11, hB11, hsb⟩ := hcut
            obtain ⟨wl, rfl⟩ : ∃ x, x = wc := ⟨_, rfl⟩
            have hRl := Lib.hid (hR.out.below hB11.out)
            have hl9 := Lib.hid (bl_row hB11.out hk9.out)
            have hKl := Lib.hid (grown_then hK.out (.inl rfl) (grown_of_below hB11.out (some go)))
            have hnn : Hid (b9 ≠ go ∧ b11 ≠ go) := Lib.hid ⟨hne9.out, by have := hR.out.lt; have := hge11.out; omega⟩
            clear hSk hsum hR hK hk9 hB11
            go_upto_block 4 with fail
            refine report_b4 _ _ _ _ _ _ _ _ _ _ _ _ _ _ _ _ _ _ _ _ _ _ _ _ _ _ _ _ _ _ _ _ _ _ _ _ _ _ _ _ _ _ _ _ _ _ _ _ _ _ _ _ _ _ _ _ _ _ _ _ _ _ _ _ _ _ _ _ _ _ _ _ _ _ _ _ _ _ _ _ _ _ _ _ _ _ _ _ _ _ _ _ _ _ _ _ _ _ _ _ _ _ _ _ _ _ _ _ _ _ _ _ _ _ _ _ _ _ _ _ _ _ _ _ _ _ _ _ _ _ _ _ _ _ _ _ _ _ _ _ _ _ _ _ _ _ _ _ _ _ _ _ _ _ _ _ _ _ _ _ _ _ _ _ _ _ _ _ _ _ _ _ _ _ _ _ _ _ _ _ _ _ _ _ _ _ _ _ _ _ _ _ _ _ _ _ _ _ _ _ _ _ _ _ _ _ hRl hl9 h11 hnn (Lib.hid hsq.out.1) (Lib.hid hsb.out.1) hsq.out.2.2.1 hsb.out.2.2.1 (Nat.le_trans hn' (bdR_top (by omega))) (Lib.hid (fun _ _ _ _ _ h => hQ.out _ _ _ _ _ h)) (Lib.hid (fun _ _ _ _ _ _ _ _ _ _ _ _ _ _ _ _ _ _ _ _ _ _ _ _ _ _ _ _ _ _ _ _ _ _ _ _ _ _ _ _ _ _ _ _ _ _ _ _ _ _ _ _ _ _ _ _ _ _ _ _ _ _ _ _ _ _ _ _ _ _ _ _ _ _ _ _ wm hm => ?_))
            obtain ⟨vr2, n2, hn2, hRm, hKm⟩ := hm.out
            go_wp2_with fail
            exact ⟨⟨k + 1, vr2, n2, by go_num, by omega, Nat.le_trans hn2 (bdR_succ hn'), Lib.hid hRm, Lib.hid (grown_then hKl.out (.inl rfl) hKm)⟩, by simp [intOf]; omega⟩
    · have hkp' : Hid (k = p) := Lib.hid (by omega)
      have d2 : decide ((k : Int) < (p : Int)) = false := by simp; omega
      go_wp2_with fail
      exact hexit.out _ _ _ _ _ _ _ _ _ _ _ _ _ _ _ _ _ _ _ _ _ _ _ _ _ _ _ _ _ _ _ _ _ _ _ _ _ _ _ _ _ _ _ _ _ _ _ _ _ _ _ _ _ _ _ _ _ _ _ _ _ _ _ _ _ _ _ _ _ _ _ _ _ _ _ _ _ _ _ _ _ _ _ _ _ _ _ _ _ _ _ _ _ _ _ _ _ _ _ _ _ _ (Lib.hid ⟨vr, n', Nat.le_trans hn' (bdR_next (by omega)), hR.out, hK.out⟩)
end Go.Proofs.Ytdhklfbelplbcaa
