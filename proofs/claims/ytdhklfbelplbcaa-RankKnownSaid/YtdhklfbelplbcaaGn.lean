/- The walk of rank.Order. -/
import Derived.Test.YtdhklfbelplbcaaGm
namespace Go.Proofs.Ytdhklfbelplbcaa
set_option linter.unusedVariables false
set_option linter.unusedSimpArgs false
open Go.RowKit Go.Maps

attribute [local go_sem] run_store_float
set_option maxHeartbeats 4000000 in
set_option maxRecDepth 100000 in
theorem order_any (w : World) (A A1 A2 B C : Option Addr) (c l1 c1 l2 c2 cb cc : Nat) (ns cs : List ByteArray) (hv : List Nat) (hr : RaceR w A ns) (hr1 : Rd w B (strs cs)) (hr2 : Rd w C (fl hv))
    (hn : ns.length ≤ c) (hc : c ≤ 9223372036854775807) (h30 : ns.length ≤ 30) (hcb : cs.length ≤ cb) (hcb2 : cb ≤ 9223372036854775807) (hcc : hv.length ≤ cc) (hcc2 : cc ≤ 9223372036854775807) (hsz : ∀ x ∈ ns, x.size ≤ maxLen) :
    Calls Try.prog 23 #[.agg #[.slice A ns.length c, .slice A1 l1 c1, .slice A2 l2 c2], .slice B cs.length cb, .slice C hv.length cc] w fun e w' => ∃ gd f, e = .returned (.slice (some ⟨gd, 0, none⟩) ns.length ns.length) ∧ w'.heap[gd]? = some (.cells (rowF ns.length f).toArray 3 (0, 0)) ∧ PermN ns.length f ∧ SegS (keyR ns cs hv) f 0 ns.length ∧ Below w.heap.size w w' ∧ w.heap.size ≤ gd := by
  have hr' := Lib.hid hr
  have hr1' := Lib.hid hr1
  have hr2' := Lib.hid hr2
  have hsz' := Lib.hid hsz
  clear hr hr1 hr2 hsz
  have hmm := @run_makeMap Try.prog
  go_enter Try.func23, Try.ntmps23
  go_wp2_with fail
  go_loopw [18] (fun i wr => ∃ k : Nat, i = .int .i64 (k : Nat) ∧ k ≤ ns.length ∧ OrdA w wr #[.slice A ns.length c, .slice A1 l1 c1, .slice A2 l2 c2] ns k) (fun i _ => ns.length - (intOf i).toNat)
  case atStart => exact ⟨0, rfl, Nat.zero_le _, OrdA.start _ _ _⟩
  case round =>
    obtain ⟨k, rfl, hk, hO⟩ := hrel
    by_cases hlt : k < ns.length
    · have hd : decide (k < ns.length) = true := by simpa using hlt
      have hd2 : decide ((k : Int) < (ns.length : Int)) = true := by simp; omega
      obtain ⟨ad, s1, x1, s2, x2, rfl, hc0, hc1, hc2, hc3, hc4⟩ := (hr'.out.below hO.hB) k hlt
      obtain ⟨s0, hs0⟩ : ∃ s0, ns[k] = s0 := ⟨_, rfl⟩
      rw [hs0] at hc0
      obtain ⟨q, hq⟩ : ∃ q : Nat, cntP ns s0 k = q := ⟨_, rfl⟩
      have hqk : q ≤ k := by rw [← hq]; exact cntP_le _ _ _
      have hs0z : s0.size ≤ maxLen := hsz'.out s0 (by rw [← hs0]; exact List.getElem_mem _)
      have hmp := hO.mp.kept (World.grownBy_alloc wr (Obj.cells #[.string s0, .string s1, .int .i64 x1, .string s2, .int .i64 x2] 86) none) (by simp)
      have hlk := hmp.lookup s0 hs0z
      obtain ⟨W', hup, hm', hg'⟩ := hmp.update s0 (by rw [List.getElem?_eq_getElem hlt, hs0]) hs0z (by omega) (by omega)
      rw [hq] at hlk hup
      have hO' := Lib.hid (hO.step _ hm' hg')
      have k1 : (0 : Int) ≤ (k : Int) := by omega
      have k2 : (k : Int) < (ns.length : Int) := by omega
      replace hO := Lib.hid hO
      replace hs0 := Lib.hid hs0
      replace hq := Lib.hid hq
      clear hmp hm' hg'
      go_wp2_with fail
      exact ⟨⟨k + 1, by go_num, by omega, hO'.out⟩, by simp [intOf]; omega⟩
    · have hd : decide (k < ns.length) = false := by simpa using hlt
      have hd2 : decide ((k : Int) < (ns.length : Int)) = false := by simp; omega
      have hkn : k = ns.length := by omega
      subst hkn
      have hx := cell_of_row wr w.heap.size 0 _ 48 (0, 0) hO.bx
      simp only [List.getElem?_toArray, List.getElem?_cons_zero, List.getElem?_cons_succ] at hx
      have hx1 : (wr.alloc (.cells (zer (.int .i64 0) ns.length).toArray 3)).cell? ⟨w.heap.size, 0, none⟩ = some (.slice A ns.length c) := bl_cell (bl_alloc (Below.refl _ _) _) hx
      have hx2 : (((wr.alloc (.cells (zer (.int .i64 0) ns.length).toArray 3)).alloc (.cells (zer (.float .f64 0) ns.length).toArray 23)).alloc (.cells #[.slice (some ⟨wr.heap.size + 1, 0, none⟩) ns.length ns.length] 25)).cell? ⟨w.heap.size, 0, none⟩ = some (.slice A ns.length c) := bl_cell (bl_alloc (bl_alloc (bl_alloc (Below.refl _ _) _) _) _) hx
      have hmk1 : ∀ w, (Instr.makeSlice 22 (.int .i64 (ns.length : Nat)) (.int .i64 (ns.length : Nat))).run Try.prog w = .ok (.slice (some ⟨w.heap.size, 0, none⟩) ns.length ns.length) (w.alloc (.cells (zer (.int .i64 0) ns.length).toArray 3)) := fun w => mk_row 22 3 (.int .i64 0) 8 Try.underlying22 info3 rfl ns.length (by omega) (by omega) w
      have hmk2 : ∀ w, (Instr.makeSlice 25 (.int .i64 (ns.length : Nat)) (.int .i64 (ns.length : Nat))).run Try.prog w = .ok (.slice (some ⟨w.heap.size, 0, none⟩) ns.length ns.length) (w.alloc (.cells (zer (.float .f64 0) ns.length).toArray 23)) := fun w => mk_row 25 23 (.float .f64 0) 8 Try.underlying25 info23 rfl ns.length (by omega) (by omega) w
      replace hO := Lib.hid hO
      obtain ⟨wq, hwq⟩ : ∃ x, x = wr := ⟨_, rfl⟩
      subst hwq
      obtain ⟨P, hP⟩ : ∃ P : Nat → Option Nat, P = fun i => mulO (wtP cs hv (ns[i]?.getD ByteArray.empty) cs.length) (cntP ns (ns[i]?.getD ByteArray.empty) ns.length) := ⟨_, rfl⟩
      replace hP := Lib.hid hP
      go_wp2_with fail
      go_loopw [39] (fun i ws => ∃ (k : Nat) (hs : List Nat), i = .int .i64 (k : Nat) ∧ k ≤ ns.length ∧ OrdB wq ws ns.length P k k hs) (fun i _ => ns.length - (intOf i).toNat)
      case atStart => exact ⟨0, _, rfl, Nat.zero_le _, OrdB.start _ _ _⟩
      case round =>
        obtain ⟨k, hs, rfl, hk, hQ⟩ := hrel
        by_cases hlt : k < ns.length
        · have hd : decide (k < ns.length) = true := by simpa using hlt
          have hd2 : decide ((k : Int) < (ns.length : Int)) = true := by simp; omega
          obtain ⟨ad, s1, x1, s2, x2, rfl, hc0, hc1, hc2, hc3, hc4⟩ := ((hr'.out.below hO.out.hB).below hQ.hB) k hlt
          obtain ⟨s0, hs0⟩ : ∃ s0, ns[k] = s0 := ⟨_, rfl⟩
          rw [hs0] at hc0
          obtain ⟨q, hq⟩ : ∃ q : Nat, cntP ns s0 ns.length = q := ⟨_, rfl⟩
          have hqk : q ≤ ns.length := by rw [← hq]; exact cntP_le _ _ _
          have hs0z : s0.size ≤ maxLen := hsz'.out s0 (by rw [← hs0]; exact List.getElem_mem _)
          have k1 : (0 : Int) ≤ (k : Int) := by omega
          have k2 : (k : Int) < (ns.length : Int) := by omega
          replace hs0 := Lib.hid hs0
          replace hq := Lib.hid hq
          obtain ⟨hQ2, hrc⟩ := hQ.into hlt s0 s1 s2 x1 x2
          have hod := hQ.od
          have hfr : (wr.alloc (.cells #[.string s0, .string s1, .int .i64 x1, .string s2, .int .i64 x2] 86)).frozen? ⟨wq.heap.size, k, none⟩ = false := by
            have : (wr.alloc (.cells #[.string s0, .string s1, .int .i64 x1, .string s2, .int .i64 x2] 86)).heap[wq.heap.size]? = some (.cells (rowF ns.length (fun p => if p < k then p else 0)).toArray 3 (0, 0)) := by rw [Below.heap_alloc _ _ _ (by have := hQ.sz; omega)]; exact hod
            simp [World.frozen?, this]
          have hcl : (wr.alloc (.cells #[.string s0, .string s1, .int .i64 x1, .string s2, .int .i64 x2] 86)).cell? ⟨wq.heap.size, k, none⟩ = some (.int .i64 (0 : Nat)) := by
            have : (wr.alloc (.cells #[.string s0, .string s1, .int .i64 x1, .string s2, .int .i64 x2] 86)).heap[wq.heap.size]? = some (.cells (rowF ns.length (fun p => if p < k then p else 0)).toArray 3 (0, 0)) := by rw [Below.heap_alloc _ _ _ (by have := hQ.sz; omega)]; exact hod
            rw [cell_of_row _ wq.heap.size k _ 3 (0, 0) this]
            simp [rowF, hlt]
          replace hQ := Lib.hid hQ
          clear hod
          replace hQ2 := Lib.hid hQ2
          replace hrc := Lib.hid hrc
          go_upto_region 13 with fail
          generalize hW2 : (wr.alloc (.cells #[.string s0, .string s1, .int .i64 x1, .string s2, .int .i64 x2] 86)).setCell ⟨wq.heap.size, k, none⟩ (.int .i64 (k : Nat)) = W2 at hQ2 hrc ⊢
          generalize hZ : wr.heap.size = Z at hrc ⊢
          have y0 := hrc.out
          have y1 : W2.cell? ⟨wq.heap.size + 2, 0, none⟩ = some (.slice (some ⟨wq.heap.size + 1, 0, none⟩) ns.length ns.length) := by rw [cell_of_row _ _ 0 _ 25 (0, 0) hQ2.out.bx]; rfl
          have y2 : ∃ b, W2.cell? ⟨wq.heap.size + 1, k, none⟩ = some (.float .f64 b) := by
            have hl := hQ2.out.len
            exact ⟨hs[k], by rw [cell_of_row _ _ k _ 23 (0, 0) hQ2.out.hv]; simp [fl, enc, show k < hs.length by omega]⟩
          obtain ⟨b, y2⟩ := y2
          have y3 : W2.frozen? ⟨wq.heap.size + 1, k, none⟩ = false := by simp [World.frozen?, hQ2.out.hv]
          have hBd := hQ2.out.hB.drew
          have z0 : W2.drew.cell? ⟨Z, 0, none⟩ = some (.string s0) := y0
          have z1 : W2.drew.cell? ⟨wq.heap.size + 2, 0, none⟩ = some (.slice (some ⟨wq.heap.size + 1, 0, none⟩) ns.length ns.length) := y1
          have z2 : W2.drew.cell? ⟨wq.heap.size + 1, k, none⟩ = some (.float .f64 b) := y2
          have z3 : W2.drew.frozen? ⟨wq.heap.size + 1, k, none⟩ = false := y3
          have hg2 : wq.grownBy W2.drew none := ⟨hBd.os, hBd.tape, hBd.output, hBd.size, fun k hk _ => hBd.block k hk⟩
          have hlk := (hO.out.mp.kept hg2 (by simp)).lookup s0 hs0z
          rw [hq.out] at hlk
          have hbw : Below w.heap.size w W2.drew := bl_then hO.out.hB hO.out.hB.size hBd
          obtain ⟨wv, hwv⟩ : ∃ wv, wtP cs hv s0 cs.length = wv := ⟨_, rfl⟩
          have hwt : Hid (Calls Try.prog 45 #[.string s0, .slice B cs.length cb, .slice C hv.length cc] W2.drew fun e w' => e = .returned (.float .f64 wv) ∧ w' = W2.drew) := Lib.hid (by
            have := weight_any B C cb cc cs hv s0 W2.drew (hr1'.out.below hbw) (hr2'.out.below hbw) hcb hcb2 hcc hcc2
            rwa [hwv] at this)
          have hPk : Hid (P k = mulO wv q) := Lib.hid (by rw [hP.out]; simp only [List.getElem?_eq_getElem hlt, hs0.out, Option.getD_some, hwv, hq.out])
          clear hg2 hbw hBd hfr hcl hc0 hc1 hc2 hc3 hc4 hx hx1 hx2 hmk1 hmk2
          replace hwv := Lib.hid hwv
          replace hW2 := Lib.hid hW2
          replace hZ := Lib.hid hZ
          obtain ⟨r, mm, hmul, hro⟩ := run_mul (P := Try.prog) W2.drew 23 wv q
          have hlaid := Lib.hid (hQ2.out.laid hlt r (by rw [hPk.out]; exact hro))
          have v0 : (W2.drew.drewN mm).cell? ⟨Z, 0, none⟩ = some (.string s0) := y0
          have v1 : (W2.drew.drewN mm).cell? ⟨wq.heap.size + 2, 0, none⟩ = some (.slice (some ⟨wq.heap.size + 1, 0, none⟩) ns.length ns.length) := y1
          have v2 : (W2.drew.drewN mm).cell? ⟨wq.heap.size + 1, k, none⟩ = some (.float .f64 b) := y2
          have v3 : (W2.drew.drewN mm).frozen? ⟨wq.heap.size + 1, k, none⟩ = false := y3
          replace hro := Lib.hid hro
          go_region_with ((go_at_call 45; refine hwt.out.mono ?_; rintro e w' ⟨rfl, rfl⟩))
          all_goals (go_wp2_with fail; exact ⟨⟨k + 1, hs.set k r, by go_num, by omega, hlaid.out.of_eq rfl rfl rfl rfl⟩, by simp [intOf]; omega⟩)
        · have hd : decide (k < ns.length) = false := by simpa using hlt
          have hd2 : decide ((k : Int) < (ns.length : Int)) = false := by simp; omega
          have hkn : k = ns.length := by omega
          subst hkn
          obtain ⟨hE, hst⟩ := hQ.ready (by omega)
          have hE' := Lib.hid hE
          have hst' := Lib.hid hst
          replace hQ := Lib.hid hQ
          clear hE hst hx hx1 hx2 hmk1 hmk2
          go_wp2_with (go_at_call 46; refine (sort_any hE'.out h30 _ hst'.out).mono ?_; rintro ex w' ⟨rfl, f2, h1, h2, h3⟩; have hs2 := Lib.hid h1; have hp := Lib.hid h2; have hsg := Lib.hid h3; clear h1 h2 h3)
          have hB3 : Below w.heap.size w wr := bl_then hO.out.hB hO.out.hB.size hQ.out.hB
          have hz := hO.out.hB.size
          refine bodyPost_ret (v := .slice (some ⟨wq.heap.size, 0, none⟩) ns.length ns.length) (by simp [results, Try.results23, go_sem]) rfl ⟨wq.heap.size, f2, rfl, hs2.out.2, hp.out, hsg.out.congr hp.out (fun i hi => ?_), hB3.grown hs2.out.1 hB3.size (fun j hj => by cases hj; exact hz), hz⟩
          have hl := hQ.out.len
          have := (hQ.out.ok i hi (by omega)).key
          unfold keyL keyR
          rw [List.getElem?_eq_getElem (by omega)]
          rw [hP.out] at this
          exact this
end Go.Proofs.Ytdhklfbelplbcaa
