/-
  The walk of the document's weight of a race.
  The orders of the document Order, region 6.
-/
import Derived.Test.YtdhklfbelplbcaaZ37
import Derived.Test.YtdhklfbelplbcaaZ10
namespace Go.Proofs.Ytdhklfbelplbcaa
set_option linter.unusedVariables false
set_option linter.unusedSimpArgs false
open Go.RowKit Go.Maps

theorem bl_heap {w w' : World} {g : Nat} {o : Obj} (hb : Below w.heap.size w w') (h : w.heap[g]? = some o) : w'.heap[g]? = some o := (hb.block g (Array.getElem?_eq_some_iff.1 h).1).trans h
/-- while a weight is reckoned: the report lies boxed -/
structure WgSt (w W : World) (v : Array Value) : Prop where
  hB : Below w.heap.size w W
  bx : W.heap[w.heap.size]? = some (.cells v 48 (0, 0))
theorem WgSt.start (w : World) (v : Array Value) : WgSt w (w.alloc (.cells v 48)) v := ⟨bl_alloc (Below.refl _ _) _, heap_alloc_new w _⟩
theorem WgSt.drewN {w W : World} {v : Array Value} (h : WgSt w W v) (n : Nat) : WgSt w (W.drewN n) v := ⟨bl_drewN h.hB n, h.bx⟩

set_option maxHeartbeats 4000000 in
set_option maxRecDepth 100000 in
theorem refweight_any (w : World) (A A1 A2 B C : Option Addr) (c l1 c1 l2 c2 cb cc : Nat) (ns cs : List ByteArray) (hv : List Nat) (k : Nat) (hk : k < ns.length) (hr : RaceR w A ns) (hr1 : Rd w B (strsG cs)) (hr2 : Rd w C (fl hv))
    (hn : ns.length ≤ c) (hc : c ≤ 9223372036854775807) (h30 : ns.length ≤ 1000) (hcb : cs.length ≤ cb) (hcb2 : cb ≤ 9223372036854775807) (hcc : hv.length ≤ cc) (hcc2 : cc ≤ 9223372036854775807) :
    Calls Try.prog 26 #[.agg #[.slice A ns.length c, .slice A1 l1 c1, .slice A2 l2 c2], .int .i64 (k : Nat), .slice B cs.length cb, .slice C hv.length cc] w fun e w' => ∃ r, e = .returned (.float .f64 r) ∧ IsO (mulO (wtP cs hv (ns[k]?.getD ByteArray.empty) cs.length) (cntP ns (ns[k]?.getD ByteArray.empty) ns.length)) r ∧ Below w.heap.size w w' := by
  have hr' := Lib.hid hr
  have hr1' := Lib.hid hr1
  have hr2' := Lib.hid hr2
  clear hr hr1 hr2
  obtain ⟨s0, hs0⟩ : ∃ s0, ns[k] = s0 := ⟨_, rfl⟩
  have hs0' : ns[k]?.getD ByteArray.empty = s0 := by rw [List.getElem?_eq_getElem hk, hs0]; rfl
  rw [hs0']
  replace hs0 := Lib.hid hs0
  clear hs0'
  have k1 : (0 : Int) ≤ (k : Int) := by omega
  have k2 : (k : Int) < (ns.length : Int) := by omega
  go_enter Try.func26, Try.ntmps26
  go_wp2_with fail
  go_loopw [9, 11] (fun v i wr => ∃ j : Nat, i = .int .i64 (j : Nat) ∧ j ≤ cs.length ∧ v = .float .f64 (wtP cs hv s0 j) ∧ WgSt w wr #[.slice A ns.length c, .slice A1 l1 c1, .slice A2 l2 c2]) (fun _ i _ => cs.length - (intOf i).toNat)
  case atStart => exact ⟨0, rfl, Nat.zero_le _, rfl, WgSt.start _ _⟩
  case round =>
    obtain ⟨j, rfl, hj, rfl, hS⟩ := hrel
    by_cases hlt : j < cs.length
    · have hd : decide (j < cs.length) = true := by simpa using hlt
      have hd2 : decide ((j : Int) < (cs.length : Int)) = true := by simp; omega
      have j1 : (0 : Int) ≤ (j : Int) := by omega
      have j2 : (j : Int) < (cs.length : Int) := by omega
      obtain ⟨bd, x, rfl, hx, hxe⟩ := (hr1'.out.below hS.hB).at j hlt
      obtain ⟨ad, s1, x1, s2, x2, rfl, hc0, hc1, hc2, hc3, hc4⟩ := (hr'.out.below hS.hB) k hk
      rw [hs0.out] at hc0
      have y0 : wr.cell? ⟨w.heap.size, 0, none⟩ = some (.slice (some ad) ns.length c) := by rw [cell_of_row _ _ 0 _ 48 (0, 0) hS.bx]; rfl
      have hcx : cs[j]?.any (fun x => x.toList == s0.toList) = (x.toList == s0.toList) := by rw [List.getElem?_eq_getElem hlt, ← hxe]; rfl
      clear hc1 hc2 hc3 hc4
      by_cases e : (x.toList == s0.toList) = true
      · rw [e] at hcx
        by_cases c2 : j < hv.length
        · obtain ⟨vd, y, rfl, hy, hye⟩ := (hr2'.out.below hS.hB).at j c2
          have hw : Hid (wtP cs hv s0 (j + 1) = y) := Lib.hid (by rw [wtP, if_pos hcx, List.getElem?_eq_getElem c2, ← hye]; rfl)
          have he : decide (j < hv.length) = true := by simpa using c2
          have he2 : decide ((j : Int) < (hv.length : Int)) = true := by simp; omega
          have j3 : (j : Int) < (hv.length : Int) := by omega
          clear hxe hye hcx
          replace hS := Lib.hid hS
          go_wp2_with fail
          go_quiet (fail)
          go_wp2_with fail
          exact ⟨⟨j + 1, by go_num, by omega, by rw [hw.out], hS.out.drewN _⟩, by simp [intOf]; omega⟩
        · have he : decide (j < hv.length) = false := by simpa using c2
          have he2 : decide ((j : Int) < (hv.length : Int)) = false := by simp; omega
          have hw : Hid (wtP cs hv s0 (j + 1) = 0) := Lib.hid (by rw [wtP, if_pos hcx, List.getElem?_eq_none (by omega)]; rfl)
          clear hxe hcx
          replace hS := Lib.hid hS
          go_wp2_with fail
          go_quiet (fail)
          go_wp2_with fail
          exact ⟨⟨j + 1, by go_num, by omega, by rw [hw.out], hS.out.drewN _⟩, by simp [intOf]; omega⟩
      · have e2 : (x.toList == s0.toList) = false := Bool.not_eq_true _ ▸ e
        rw [e2] at hcx
        have hw : Hid (wtP cs hv s0 (j + 1) = wtP cs hv s0 j) := Lib.hid (by rw [wtP, if_neg (by rw [hcx]; simp)])
        clear hxe hcx
        replace hS := Lib.hid hS
        go_wp2_with fail
        go_quiet (fail)
        go_wp2_with fail
        exact ⟨⟨j + 1, by go_num, by omega, by rw [hw.out], hS.out.drewN _⟩, by simp [intOf]; omega⟩
    · have hjc : j = cs.length := by omega
      subst hjc
      have hd : decide (cs.length < cs.length) = false := by simp
      have hd2 : decide ((cs.length : Int) < (cs.length : Int)) = false := by simp
      obtain ⟨wv, hwv⟩ : ∃ wv, wtP cs hv s0 cs.length = wv := ⟨_, rfl⟩
      rw [hwv]
      replace hwv := Lib.hid hwv
      replace hS := Lib.hid hS
      obtain ⟨wq, hwq⟩ : ∃ x, x = wr := ⟨_, rfl⟩
      subst hwq
      go_wp2_with fail
      go_loopw [10, 12] (fun v i wr => ∃ j : Nat, i = .int .i64 (j : Nat) ∧ j ≤ ns.length ∧ v = .int .i64 (cntP ns s0 j : Nat) ∧ WgSt w wr #[.slice A ns.length c, .slice A1 l1 c1, .slice A2 l2 c2]) (fun _ i _ => ns.length - (intOf i).toNat)
      case atStart => exact ⟨0, rfl, Nat.zero_le _, rfl, hS.out⟩
      case round =>
        obtain ⟨j, rfl, hj, rfl, hS2⟩ := hrel
        have y0 : wr.cell? ⟨w.heap.size, 0, none⟩ = some (.slice A ns.length c) := by rw [cell_of_row _ _ 0 _ 48 (0, 0) hS2.bx]; rfl
        obtain ⟨q, hq⟩ : ∃ q : Nat, cntP ns s0 j = q := ⟨_, rfl⟩
        have hqj : q ≤ j := by rw [← hq]; exact cntP_le _ _ _
        by_cases hlt : j < ns.length
        · have hd : decide (j < ns.length) = true := by simpa using hlt
          have hd2 : decide ((j : Int) < (ns.length : Int)) = true := by simp; omega
          have j1 : (0 : Int) ≤ (j : Int) := by omega
          have j2 : (j : Int) < (ns.length : Int) := by omega
          obtain ⟨ad, s1, x1, s2, x2, rfl, hc0, hc1, hc2, hc3, hc4⟩ := (hr'.out.below hS2.hB) k hk
          rw [hs0.out] at hc0
          obtain ⟨ad', t1, z1, t2, z2, hae, hc5, -, -, -, -⟩ := (hr'.out.below hS2.hB) j hlt
          cases hae
          obtain ⟨x, hx⟩ : ∃ x, ns[j] = x := ⟨_, rfl⟩
          rw [hx] at hc5
          have hcx : ns[j]?.any (fun x => x.toList == s0.toList) = (x.toList == s0.toList) := by rw [List.getElem?_eq_getElem hlt, hx]; rfl
          clear hc1 hc2 hc3 hc4
          replace hx := Lib.hid hx
          by_cases e : (x.toList == s0.toList) = true
          · have hw : Hid (cntP ns s0 (j + 1) = q + 1) := Lib.hid (by rw [cntP, hq, hcx, e]; rfl)
            rw [hq]
            replace hq := Lib.hid hq
            clear hcx
            replace hS2 := Lib.hid hS2
            go_wp2_with fail
            go_quiet (fail)
            go_wp2_with fail
            exact ⟨⟨j + 1, by go_num, by omega, by rw [hw.out]; go_num, hS2.out.drewN _⟩, by simp [intOf]; omega⟩
          · have e2 : (x.toList == s0.toList) = false := Bool.not_eq_true _ ▸ e
            have hw : Hid (cntP ns s0 (j + 1) = q) := Lib.hid (by rw [cntP, hq, hcx, e2]; rfl)
            rw [hq]
            replace hq := Lib.hid hq
            clear hcx
            replace hS2 := Lib.hid hS2
            go_wp2_with fail
            go_quiet (fail)
            go_wp2_with fail
            exact ⟨⟨j + 1, by go_num, by omega, by rw [hw.out], hS2.out.drewN _⟩, by simp [intOf]; omega⟩
        · have hjn : j = ns.length := by omega
          subst hjn
          have hd : decide (ns.length < ns.length) = false := by simp
          have hd2 : decide ((ns.length : Int) < (ns.length : Int)) = false := by simp
          rw [hq]
          obtain ⟨r, mm, hmul, hro⟩ := run_mul (P := Try.prog) wr 23 wv q
          have hro' : Hid (IsO (mulO (wtP cs hv s0 cs.length) (cntP ns s0 ns.length)) r) := Lib.hid (by rw [hwv.out, hq]; exact hro)
          replace hq := Lib.hid hq
          clear hro
          replace hS2 := Lib.hid hS2
          go_wp2_with fail
          exact bodyPost_ret (v := .float .f64 r) (by simp [results, Try.results26, go_sem]) rfl ⟨r, rfl, hro'.out, (hS2.out.drewN _).hB⟩
end Go.Proofs.Ytdhklfbelplbcaa
namespace Go.Proofs.Ytdhklfbelplbcaa
set_option maxRecDepth 100000
noncomputable def opsO6 : Array Oper := regIn 6 Try.f24
theorem nsO6 : Region.noSelect opsO6 = true := by kernel_rfl
theorem liO6 : Array.replicate opsO6.size false = (bitsB 21 0) := by kernel_rfl
theorem rdO6_0 : Region.ready .any opsO6 (bitsB 21 0) = [0, 1] := by kernel_rfl
theorem frO6_0 : Region.free .any opsO6 (bitsB 21 0) 0 = true := by kernel_rfl
theorem stO6_0 : (bitsB 21 0).setIfInBounds 0 true = (bitsB 21 1) := by kernel_rfl
theorem rdO6_1 : Region.ready .any opsO6 (bitsB 21 1) = [1] := by kernel_rfl
theorem stO6_1 : (bitsB 21 1).setIfInBounds 1 true = (bitsB 21 3) := by kernel_rfl
theorem rdO6_2 : Region.ready .any opsO6 (bitsB 21 3) = [2] := by kernel_rfl
theorem stO6_2 : (bitsB 21 3).setIfInBounds 2 true = (bitsB 21 7) := by kernel_rfl
theorem rdO6_3 : Region.ready .any opsO6 (bitsB 21 7) = [3] := by kernel_rfl
theorem stO6_3 : (bitsB 21 7).setIfInBounds 3 true = (bitsB 21 15) := by kernel_rfl
theorem rdO6_4 : Region.ready .any opsO6 (bitsB 21 15) = [4] := by kernel_rfl
theorem stO6_4 : (bitsB 21 15).setIfInBounds 4 true = (bitsB 21 31) := by kernel_rfl
theorem rdO6_5 : Region.ready .any opsO6 (bitsB 21 31) = [5, 6, 7, 10, 11, 13, 14, 15, 16] := by kernel_rfl
theorem frO6_1 : Region.free .any opsO6 (bitsB 21 31) 5 = true := by kernel_rfl
theorem stO6_5 : (bitsB 21 31).setIfInBounds 5 true = (bitsB 21 63) := by kernel_rfl
theorem rdO6_6 : Region.ready .any opsO6 (bitsB 21 63) = [6, 7, 10, 11, 13, 14, 15, 16] := by kernel_rfl
theorem frO6_2 : Region.free .any opsO6 (bitsB 21 63) 6 = true := by kernel_rfl
theorem stO6_6 : (bitsB 21 63).setIfInBounds 6 true = (bitsB 21 127) := by kernel_rfl
theorem rdO6_7 : Region.ready .any opsO6 (bitsB 21 127) = [7, 10, 11, 13, 14, 15, 16] := by kernel_rfl
theorem frO6_3 : Region.free .any opsO6 (bitsB 21 127) 7 = true := by kernel_rfl
theorem stO6_7 : (bitsB 21 127).setIfInBounds 7 true = (bitsB 21 255) := by kernel_rfl
theorem rdO6_8 : Region.ready .any opsO6 (bitsB 21 255) = [8, 10, 11, 13, 14, 15, 16] := by kernel_rfl
theorem frO6_4 : Region.free .any opsO6 (bitsB 21 255) 8 = true := by kernel_rfl
theorem stO6_8 : (bitsB 21 255).setIfInBounds 8 true = (bitsB 21 511) := by kernel_rfl
theorem rdO6_9 : Region.ready .any opsO6 (bitsB 21 511) = [9, 10, 11, 13, 14, 15, 16] := by kernel_rfl
theorem frO6_5 : Region.free .any opsO6 (bitsB 21 511) 9 = true := by kernel_rfl
theorem stO6_9 : (bitsB 21 511).setIfInBounds 9 true = (bitsB 21 1023) := by kernel_rfl
theorem rdO6_10 : Region.ready .any opsO6 (bitsB 21 1023) = [10, 11, 13, 14, 15, 16] := by kernel_rfl
theorem frO6_6 : Region.free .any opsO6 (bitsB 21 1023) 10 = true := by kernel_rfl
theorem stO6_10 : (bitsB 21 1023).setIfInBounds 10 true = (bitsB 21 2047) := by kernel_rfl
theorem rdO6_11 : Region.ready .any opsO6 (bitsB 21 2047) = [11, 13, 14, 15, 16] := by kernel_rfl
theorem frO6_7 : Region.free .any opsO6 (bitsB 21 2047) 11 = true := by kernel_rfl
theorem stO6_11 : (bitsB 21 2047).setIfInBounds 11 true = (bitsB 21 4095) := by kernel_rfl
theorem rdO6_12 : Region.ready .any opsO6 (bitsB 21 4095) = [12, 13, 14, 15, 16] := by kernel_rfl
theorem frO6_8 : Region.free .any opsO6 (bitsB 21 4095) 13 = true := by kernel_rfl
theorem stO6_12 : (bitsB 21 4095).setIfInBounds 13 true = (bitsB 21 12287) := by kernel_rfl
theorem rdO6_13 : Region.ready .any opsO6 (bitsB 21 12287) = [12, 14, 15, 16] := by kernel_rfl
theorem frO6_9 : Region.free .any opsO6 (bitsB 21 12287) 14 = true := by kernel_rfl
theorem stO6_13 : (bitsB 21 12287).setIfInBounds 14 true = (bitsB 21 28671) := by kernel_rfl
theorem rdO6_14 : Region.ready .any opsO6 (bitsB 21 28671) = [12, 15, 16] := by kernel_rfl
theorem frO6_10 : Region.free .any opsO6 (bitsB 21 28671) 15 = true := by kernel_rfl
theorem stO6_14 : (bitsB 21 28671).setIfInBounds 15 true = (bitsB 21 61439) := by kernel_rfl
theorem rdO6_15 : Region.ready .any opsO6 (bitsB 21 61439) = [12, 16] := by kernel_rfl
theorem frO6_11 : Region.free .any opsO6 (bitsB 21 61439) 16 = true := by kernel_rfl
theorem stO6_15 : (bitsB 21 61439).setIfInBounds 16 true = (bitsB 21 126975) := by kernel_rfl
theorem rdO6_16 : Region.ready .any opsO6 (bitsB 21 126975) = [12] := by kernel_rfl
theorem stO6_16 : (bitsB 21 126975).setIfInBounds 12 true = (bitsB 21 131071) := by kernel_rfl
theorem rdO6_17 : Region.ready .any opsO6 (bitsB 21 131071) = [17] := by kernel_rfl
theorem stO6_17 : (bitsB 21 131071).setIfInBounds 17 true = (bitsB 21 262143) := by kernel_rfl
theorem rdO6_18 : Region.ready .any opsO6 (bitsB 21 262143) = [18] := by kernel_rfl
theorem stO6_18 : (bitsB 21 262143).setIfInBounds 18 true = (bitsB 21 524287) := by kernel_rfl
theorem rdO6_19 : Region.ready .any opsO6 (bitsB 21 524287) = [19] := by kernel_rfl
theorem stO6_19 : (bitsB 21 524287).setIfInBounds 19 true = (bitsB 21 1048575) := by kernel_rfl
theorem rdO6_20 : Region.ready .any opsO6 (bitsB 21 1048575) = [20] := by kernel_rfl
theorem stO6_20 : (bitsB 21 1048575).setIfInBounds 20 true = (bitsB 21 2097151) := by kernel_rfl
theorem rdO6_21 : Region.ready .any opsO6 (bitsB 21 2097151) = [] := by kernel_rfl
theorem frO6_12 : Region.free .any opsO6 (bitsB 21 4095) 12 = true := by kernel_rfl
theorem stO6_21 : (bitsB 21 4095).setIfInBounds 12 true = (bitsB 21 8191) := by kernel_rfl
theorem rdO6_22 : Region.ready .any opsO6 (bitsB 21 8191) = [13, 14, 15, 16] := by kernel_rfl
theorem frO6_13 : Region.free .any opsO6 (bitsB 21 8191) 13 = true := by kernel_rfl
theorem stO6_22 : (bitsB 21 8191).setIfInBounds 13 true = (bitsB 21 16383) := by kernel_rfl
theorem rdO6_23 : Region.ready .any opsO6 (bitsB 21 16383) = [14, 15, 16] := by kernel_rfl
theorem frO6_14 : Region.free .any opsO6 (bitsB 21 16383) 14 = true := by kernel_rfl
theorem stO6_23 : (bitsB 21 16383).setIfInBounds 14 true = (bitsB 21 32767) := by kernel_rfl
theorem rdO6_24 : Region.ready .any opsO6 (bitsB 21 32767) = [15, 16] := by kernel_rfl
theorem frO6_15 : Region.free .any opsO6 (bitsB 21 32767) 15 = true := by kernel_rfl
theorem stO6_24 : (bitsB 21 32767).setIfInBounds 15 true = (bitsB 21 65535) := by kernel_rfl
theorem rdO6_25 : Region.ready .any opsO6 (bitsB 21 65535) = [16] := by kernel_rfl
theorem stO6_25 : (bitsB 21 65535).setIfInBounds 16 true = (bitsB 21 131071) := by kernel_rfl
end Go.Proofs.Ytdhklfbelplbcaa
