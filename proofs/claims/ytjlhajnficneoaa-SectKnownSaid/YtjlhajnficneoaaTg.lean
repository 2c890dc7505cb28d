/- The walk of the document's Join. -/
import Derived.Test.YtjlhajnficneoaaTf
namespace Go.Proofs.Ytjlhajnficneoaa
set_option linter.unusedVariables false
set_option linter.unusedSimpArgs false
open Go.RowKit

theorem joinOk_52 {p0 : PartD} {ps : List PartD} (h : JoinOk p0 ps) (k : Nat) (hk : k < ps.length) : ps[k].data.length = 52 := by
  obtain ⟨-, -, hca, hrn, he⟩ := h
  generalize hgen : p0.gen = gen at he
  generalize hrc : p0.rc = rc at he
  generalize hB : joinB ps = B at he
  subst he
  rw [cutOf_get]
  exact part_len _ _ _ k (by rw [cutOf_len] at hk; exact hk)
/-- so many bytes -/
theorem joinAll_len (ps : List PartD) (k : Nat) (hk : k ≤ ps.length) (h : ∀ i, ∀ hi : i < ps.length, i < k → ps[i].data.length = 52) : (joinAll (ps.take k)).length = 52 * k := by
  induction k with
  | zero => simp [joinAll]
  | succ k ih =>
    rw [joinAll_snoc ps k (by omega), List.length_append, ih (by omega) (fun i hi hlt => h i hi (by omega)), h k (by omega) (by omega)]
    omega

set_option maxHeartbeats 8000000 in
set_option maxRecDepth 100000 in
theorem refjoin_walk (ps : List PartD) (p0 : PartD) (g c : Nat) (w : World) (hat : PartsAt w g ps) (h8 : ∀ p ∈ ps, Bytes8 p.data) (h0 : ps[0]? = some p0) (hps : ps.length ≤ 255) (hcl : ps.length ≤ c) :
    Calls Try.prog 25 #[.slice (some ⟨g, 0, none⟩) ps.length c] w fun e w' => ∃ v ok, e = .returned (.tuple #[v, .bool ok]) ∧ (ok = true ↔ JoinOk p0 ps) ∧ (ok = true → OwnB w' w.heap.size v (joinB ps)) ∧ (ok = false → v = .slice none 0 0) ∧ Below w.heap.size w w' := by
  obtain ⟨hpos, hp0⟩ := List.getElem?_eq_some_iff.1 h0
  have hat' := Lib.hid hat
  have h8' := Lib.hid h8
  have hp0' := Lib.hid hp0
  obtain ⟨v0, hs0, x0, x1, x2, x3, x4⟩ := hat 0 hpos
  rw [hp0] at hs0 x0 x1 x2 x3
  simp only [Nat.zero_mul, Nat.zero_add] at x0 x1 x2 x3 x4
  have hS : Hid (∀ w1, Below w.heap.size w w1 → w1.cell? ⟨g, 0, none⟩ = some (.int .i64 p0.gen) ∧ w1.cell? ⟨g, 1, none⟩ = some (.int .i64 p0.rc)) := Lib.hid (fun w1 hb => ⟨bl_cell hb x0, bl_cell hb x1⟩)
  clear hat h8 hp0 h0 hs0 x0 x1 x2 x3 x4
  have hne : ((ps.length : Int) == 0) = false := by rw [beq_eq_false_iff_ne]; omega
  have hd1 : decide (255 < ps.length) = false := by simpa using hps
  have hd2 : decide ((ps.length : Int) > 255) = false := by simp; omega
  go_enter Try.func25, Try.ntmps25
  go_wp2_with fail
  go_loopw [4, 5] (fun v i wr => ∃ (k : Nat), i = .int .i64 k ∧ k ≤ ps.length ∧ Hid (∀ i, ∀ hi : i < ps.length, i < k → ps[i].data.length = 52) ∧ OwnB wr w.heap.size v (joinAll (ps.take k)) ∧ Below w.heap.size w wr) (fun _ i _ => ps.length - (intOf i).toNat)
  case atStart => exact ⟨0, rfl, by omega, Lib.hid (fun i hi h => by omega), own_nil _ _ _ _, Below.refl _ _⟩
  case round =>
    obtain ⟨k, rfl, hk, h52, hown, hbel⟩ := hrel
    have hown' := Lib.hid hown
    have hbel' := Lib.hid hbel
    have hbsz := hbel.size
    clear hown hbel
    by_cases hlt : k < ps.length
    · have hd3 : decide (k < ps.length) = true := by simpa using hlt
      obtain ⟨vk, hsk, y0, y1, y2, y3, y4⟩ := (hat'.out.below hbel'.out) k hlt
      obtain ⟨Ak, ck, rfl, hrk, hAk⟩ := hsk
      replace hrk := Lib.hid hrk
      replace hAk := Lib.hid hAk
      clear y0 y1 y2 y3
      by_cases hk52 : ps[k].data.length = 52
      · have hlen := Lib.hid (joinAll_len ps k hk h52.out)
        have hm : Hid (((joinAll (ps.take k)).length + 52) * 1 ≤ 140737488355328) := Lib.hid (by rw [hlen.out]; omega)
        have h52' : Hid (∀ i, ∀ hi : i < ps.length, i < k + 1 → ps[i].data.length = 52) := Lib.hid (fun i hi h => by
          by_cases e : i = k
          · subst e; exact hk52
          · exact h52.out i hi (by omega))
        have hk52' := Lib.hid hk52
        rw [hk52] at y4 hAk
        replace hAk := Lib.hid hAk.out
        clear hk52
        go_wp2_with (at_builtin; refine app_src (w0 := w) w.heap.size (by rfl) _ _ 22 5 (.int .u8 0) 1 1 rfl Try.underlying22 info5 rfl (by decide) (by decide) _ _ _ rfl hown'.out hbel'.out hbsz Ak 52 ck (bs ps[k].data) rfl (by rw [bs_length, Nat.mul_one]; exact hk52'.out) hrk.out hAk.out (bs_one _) hm.out ?_; rintro v6 w6 hown6 hb6 - -)
        refine ⟨⟨k + 1, by go_num, by omega, h52', ?_, hb6⟩, by simp [intOf]; omega⟩
        rw [joinAll_snoc ps k hlt]
        unfold OwnB
        rw [List.length_append, bs_append, hk52'.out]
        exact hown6
      · have hq1 : ((ps[k].data.length : Int) == 52) = false := by rw [beq_eq_false_iff_ne]; omega
        have hq2 : ((ps[k].data.length : Int) != 52) = true := by simp only [bne, hq1, Bool.not_false]
        replace hk52 := Lib.hid hk52
        go_wp2_with fail
        go_ret2
        exact ⟨_, false, rfl, ⟨(fun h => by cases h), (fun h => absurd (joinOk_52 h k hlt) hk52.out)⟩, (fun h => by cases h), (fun _ => rfl), hbel'.out⟩
    · have hd3 : decide (k < ps.length) = false := by simpa using hlt
      have hks : k = ps.length := by omega
      subst hks
      have hall : joinAll (ps.take ps.length) = joinAll ps := by rw [List.take_length]
      have hLs := joinAll_len ps ps.length (Nat.le_refl _) h52.out
      rw [hall] at hown' hLs
      have hp052 : p0.data.length = 52 := by rw [← hp0'.out]; exact h52.out 0 hpos hpos
      have hNb : joinN ps < 4294967296 := by
        have h1 := num_lt ((joinAll ps).take 4) ((joinAll_8 ps h8'.out).take 4)
        have h2 : ((joinAll ps).take 4).length = 4 := by rw [List.length_take]; omega
        rw [h2] at h1
        exact h1
      obtain ⟨g4, cap4, rfl, hcap4, hg4⟩ := own_some hown'.out (by omega)
      have hr4 : Hid (Rd wr (some ⟨g4, 0, none⟩) (bs (joinAll ps))) := Lib.hid (by obtain ⟨A', c', e, -, -, h, -⟩ := Rd.own hown'.out; cases e; exact h)
      have hcm4 : cap4 ≤ 9223372036854775807 := by obtain ⟨A', c', e, -, h, -⟩ := Rd.own hown'.out; cases e; exact h
      have h4l : Hid (((joinAll ps).take 4).length = 4) := Lib.hid (by rw [List.length_take]; omega)
      have hN' : Hid (num ((joinAll ps).take 4) = joinN ps) := Lib.hid rfl
      obtain ⟨L, hL⟩ : ∃ L, L = (joinAll ps).length := ⟨_, rfl⟩
      rw [← hL] at hcap4 hLs ⊢
      have hL' := Lib.hid hL
      clear hL hall hown'
      generalize hN : joinN ps = N at hNb hN'
      replace hN := Lib.hid hN
      have c4 : (4 : Int) ≤ (cap4 : Int) := by omega
      have hLb : L ≤ 13260 := by omega
      have hL52 : 52 ≤ L := by omega
      replace hLs := Lib.hid hLs
      replace hp052 := Lib.hid hp052
      go_upto_region 11 with (go_at_call 33; refine (num_any (some ⟨g4, 0, none⟩) 4 cap4 ((joinAll ps).take 4) _ h4l.out (by have := hr4.out.take 4; simpa [bs, enc, List.map_take] using this) ((joinAll_8 ps h8'.out).take 4) (by decide)).mono ?_; rintro e w' ⟨rfl, rfl⟩; rw [hN'.out])
      by_cases hj : N + 4 ≤ L
      · have hd4 : decide (L - 4 < N) = false := by simp; omega
        have hd5 : decide ((L : Int) - 4 < (N : Int)) = false := by simp; omega
        go_upto_region 13 with fail
        go_cut [7] (fun v wx => OwnB wx w.heap.size v (joinB ps) ∧ Below w.heap.size w wx)
        case first =>
          have hNL : (4 : Int) + (N : Int) ≤ (cap4 : Int) := by omega
          have hBl : Hid ((joinB ps).length = N) := Lib.hid (by unfold joinB; rw [hN.out, List.length_take, List.length_drop, ← hL'.out]; omega)
          have hrB : Hid (Rd wr (some ⟨g4, 4, none⟩) (bs (joinB ps))) := Lib.hid (by
            have := (hr4.out.drop 4).take N
            unfold joinB
            rw [hN.out]
            simpa [bs, enc, List.map_take, List.map_drop] using this)
          have hc4 : ¬ cap4 = 4 := by omega
          have hc5 : ((cap4 : Int) == 4) = false := by rw [beq_eq_false_iff_ne]; omega
          by_cases hN0 : N = 0
          · subst hN0
            have hB : joinB ps = [] := List.eq_nil_of_length_eq_zero hBl.out
            replace hB := Lib.hid hB
            go_wp2_with fail
            go_meet
            exact ⟨by rw [hB.out]; exact own_lit wr w.heap.size 5 1 0 [] hbsz rfl (by omega), bl_alloc hbel'.out _⟩
          · have hN1 : ((N : Int) == 0) = false := by rw [beq_eq_false_iff_ne]; omega
            go_wp2_with (at_builtin; refine app_src (w0 := wr) wr.heap.size (by rfl) _ _ 22 5 (.int .u8 0) 1 1 rfl Try.underlying22 info5 rfl (by decide) (by decide) _ 0 [] rfl (own_lit wr wr.heap.size 5 1 0 [] (Nat.le_refl _) rfl (by omega)) ((Below.refl _ _).alloc (Nat.le_refl _) _) (by simp) (some ⟨g4, 4, none⟩) (4 + N - 4) (cap4 - 4) (bs (joinB ps)) rfl (by rw [bs_length, Nat.mul_one, hBl.out]; omega) (hrB.out.below (bl_alloc (Below.refl _ _) _)) (fun e => by cases e) (bs_one _) (by omega) ?_; rintro v5 w5 hown5 hb5 - -; rw [show 0 + (4 + N - 4) = N by omega, List.nil_append] at hown5)
            go_meet
            exact ⟨by unfold OwnB; rw [hBl.out]; exact own_weaken hown5 hbsz, bl_then hbel'.out hbsz hb5⟩
        case rest =>
          obtain ⟨hown8, hbel8⟩ := hcut
          have hBn : (joinB ps).length ≤ 100000 := by unfold joinB; rw [List.length_take, List.length_drop, ← hL'.out]; omega
          have hB8 : Hid (Bytes8 (joinB ps)) := Lib.hid (((joinAll_8 ps h8'.out).drop 4).take _)
          obtain ⟨A8, c8, rfl, hlc8, hcm8, hr8, hA8⟩ := Rd.own hown8
          have hown8' := Lib.hid hown8
          have hbel8' := Lib.hid hbel8
          have hr8' := Lib.hid hr8
          have hA8' := Lib.hid hA8
          clear hown8 hbel8 hr8 hA8 hd4 hd5
          obtain ⟨qs, hqs⟩ : ∃ p, cutL p0.gen p0.rc (joinB ps) = p := ⟨_, rfl⟩
          obtain ⟨cd, hcd⟩ : ∃ p, codeN p0.gen p0.rc (joinB ps) = p := ⟨_, rfl⟩
          have hqs8 := Lib.hid (hqs ▸ cutL_8 p0.gen p0.rc (joinB ps) hB8.out)
          have hql : qs.length ≤ 100000 := hqs ▸ cutL_len p0.gen p0.rc (joinB ps) hBn
          replace hqs := Lib.hid hqs
          replace hcd := Lib.hid hcd
          obtain ⟨wo, hwo⟩ : ∃ x, x = wc := ⟨_, rfl⟩
          subst hwo
          go_upto_region 14 with fail
          go_cut [8, 9] (fun v e wx => CutOut wo qs cd v e wx)
          case first =>
            go_region_held3 (fun w' => w'.cell? ⟨g, 0, none⟩ = some (.int .i64 p0.gen) ∧ w'.cell? ⟨g, 1, none⟩ = some (.int .i64 p0.rc)) (first | exact hS.out _ hbel8'.out.drew | exact hS.out _ hB9w.out)
              (first | (go_at_call 23; have hh := refcut_all p0.gen p0.rc A8 c8 (joinB ps) wo.drew hBn (hr8'.out.below (Below.refl _ _).drew) hA8'.out; rw [hqs.out, hcd.out] at hh; refine hh.mono ?_; clear hh; rintro e w9 ⟨B9, cap9, rfl, hcap9, h639, hp9, hb9⟩; replace hp9 := Lib.hid hp9; have hB9 := Lib.hid (Below.trans (Below.refl _ _).drew hb9); have hB9w := Lib.hid (bl_then hbel8'.out hbel8'.out.size hB9.out); clear hb9))
            all_goals (go_wp2_with fail)
            all_goals go_meet
            all_goals exact ⟨B9, cap9, rfl, rfl, hcap9, h639, hp9.out, hB9.out⟩
          case rest =>
            obtain ⟨B9, cap9, rfl, rfl, hcap9, h639, hp9, hB9⟩ := hcut
            replace hp9 := Lib.hid hp9
            replace hB9 := Lib.hid hB9
            have hB9w := Lib.hid (bl_then hbel8'.out hbel8'.out.size hB9.out)
            replace hN := Lib.hid (show joinN ps + 4 ≤ (joinAll ps).length by rw [hN.out, ← hL'.out]; exact hj)
            by_cases hz : cd = 0
            · have q1 : (cd == 0) = true := by simpa using hz
              obtain ⟨hca, hrn⟩ := code_zero (hcd.out.trans hz)
              have hcut : cutOf p0.gen p0.rc (joinB ps) = qs := by
                have := hqs.out
                unfold cutL at this
                rw [if_pos (hcd.out.trans hz)] at this
                exact this
              have hJ : Hid (qs = ps → JoinOk p0 ps) := Lib.hid (fun h => ⟨by have := hp052.out; omega, hN.out, hca, hrn, hcut.trans h⟩)
              have hJ2 : Hid (JoinOk p0 ps → qs = ps) := Lib.hid (fun h => hcut.symm.trans h.2.2.2.2)
              clear hcut hca hrn
              subst hz
              by_cases hln : qs.length = ps.length
              · have hm1 : ((qs.length : Int) == (ps.length : Int)) = true := by rw [hln]; simp
                have hown8c := Lib.hid (hown8'.out.below hB9.out)
                have hat9 := Lib.hid (hat'.out.below hB9w.out)
                obtain ⟨g9, hBe, hat10⟩ := parts_k hp9.out 0 (by omega)
                subst hBe
                have hat10' := Lib.hid hat10
                clear hat10 hp9
                have hs9 := hB9w.out.size
                obtain ⟨w9, hw9⟩ : ∃ x, x = wc := ⟨_, rfl⟩
                subst hw9
                go_wp2_with fail
                go_loopw [10] (fun i wr2 => ∃ (k : Nat), i = .int .i64 k ∧ k ≤ ps.length ∧ Hid (qs.take k = ps.take k) ∧ Below w9.heap.size w9 wr2) (fun i _ => ps.length - (intOf i).toNat)
                case atStart => exact ⟨0, rfl, by omega, Lib.hid (by simp), Below.refl _ _⟩
                case round =>
                  obtain ⟨k, rfl, hk, hpre2, hbl2⟩ := hrel
                  have hbsz2 := hbl2.size
                  have hb2w := Lib.hid (bl_then hB9w.out hs9 hbl2)
                  replace hbl2 := Lib.hid hbl2
                  by_cases hlt2 : k < ps.length
                  · have hd3 : decide (k < ps.length) = true := by simpa using hlt2
                    have hkc : k < qs.length := by rw [hln]; exact hlt2
                    obtain ⟨v1, hs1, y0, y1, y2, y3, y4⟩ := (hat9.out.below hbl2.out.drew) k hlt2
                    obtain ⟨v2, hs2, z0, z1, z2, z3, z4⟩ := (hat10'.out.below hbl2.out.drew) k hkc
                    have hp8 := Lib.hid (h8'.out ps[k] (List.getElem_mem _))
                    have hq8k := Lib.hid (hqs8.out _ (List.getElem_mem hkc))
                    generalize hq : qs[k] = q at hs2 z0 z1 z2 z3 hq8k
                    replace hq := Lib.hid hq
                    have hs1' := Lib.hid hs1
                    have hs2' := Lib.hid hs2
                    obtain ⟨A1, c1, rfl, -⟩ := hs1
                    obtain ⟨A2, c2, rfl, -⟩ := hs2
                    have hSS : wr.drew.cell? ⟨g, k * 5, none⟩ = some (.int .i64 ps[k].gen) ∧ wr.drew.cell? ⟨g, k * 5 + 1, none⟩ = some (.int .i64 ps[k].rc) ∧ wr.drew.cell? ⟨g, k * 5 + 2, none⟩ = some (.int .i64 ps[k].n) ∧ wr.drew.cell? ⟨g, k * 5 + 3, none⟩ = some (.int .i64 ps[k].ofn) ∧ wr.drew.cell? ⟨g, k * 5 + 4, none⟩ = some (.slice A1 ps[k].data.length c1) ∧ wr.drew.cell? ⟨g9, k * 5, none⟩ = some (.int .i64 q.gen) ∧ wr.drew.cell? ⟨g9, k * 5 + 1, none⟩ = some (.int .i64 q.rc) ∧ wr.drew.cell? ⟨g9, k * 5 + 2, none⟩ = some (.int .i64 q.n) ∧ wr.drew.cell? ⟨g9, k * 5 + 3, none⟩ = some (.int .i64 q.ofn) ∧ wr.drew.cell? ⟨g9, k * 5 + 4, none⟩ = some (.slice A2 q.data.length c2) := ⟨y0, y1, y2, y3, y4, z0, z1, z2, z3, z4⟩
                    have hSk : Hid (∀ w', Below wr.drew.heap.size wr.drew w' → (w'.cell? ⟨g, k * 5, none⟩ = some (.int .i64 ps[k].gen) ∧ w'.cell? ⟨g, k * 5 + 1, none⟩ = some (.int .i64 ps[k].rc) ∧ w'.cell? ⟨g, k * 5 + 2, none⟩ = some (.int .i64 ps[k].n) ∧ w'.cell? ⟨g, k * 5 + 3, none⟩ = some (.int .i64 ps[k].ofn) ∧ w'.cell? ⟨g, k * 5 + 4, none⟩ = some (.slice A1 ps[k].data.length c1) ∧ w'.cell? ⟨g9, k * 5, none⟩ = some (.int .i64 q.gen) ∧ w'.cell? ⟨g9, k * 5 + 1, none⟩ = some (.int .i64 q.rc) ∧ w'.cell? ⟨g9, k * 5 + 2, none⟩ = some (.int .i64 q.n) ∧ w'.cell? ⟨g9, k * 5 + 3, none⟩ = some (.int .i64 q.ofn) ∧ w'.cell? ⟨g9, k * 5 + 4, none⟩ = some (.slice A2 q.data.length c2))) := Lib.hid (fun w' hb => ⟨bl_cell hb y0, bl_cell hb y1, bl_cell hb y2, bl_cell hb y3, bl_cell hb y4, bl_cell hb z0, bl_cell hb z1, bl_cell hb z2, bl_cell hb z3, bl_cell hb z4⟩)
                    clear y0 y1 y2 y3 y4 z0 z1 z2 z3 z4
                    replace hln := Lib.hid hln
                    go_upto_region 20 with fail
                    by_cases hsm : ps[k].gen = q.gen ∧ ps[k].rc = q.rc ∧ ps[k].n = q.n ∧ ps[k].ofn = q.ofn ∧ ps[k].data = q.data
                    · have hdec := decide_eq_true hsm
                      have hqp : Hid (ps[k] = q) := Lib.hid (part_eq hsm.1 hsm.2.1 hsm.2.2.1 hsm.2.2.2.1 hsm.2.2.2.2)
                      clear hsm
                      go_region_held3 (fun w' => w'.cell? ⟨g, k * 5, none⟩ = some (.int .i64 ps[k].gen) ∧ w'.cell? ⟨g, k * 5 + 1, none⟩ = some (.int .i64 ps[k].rc) ∧ w'.cell? ⟨g, k * 5 + 2, none⟩ = some (.int .i64 ps[k].n) ∧ w'.cell? ⟨g, k * 5 + 3, none⟩ = some (.int .i64 ps[k].ofn) ∧ w'.cell? ⟨g, k * 5 + 4, none⟩ = some (.slice A1 ps[k].data.length c1) ∧ w'.cell? ⟨g9, k * 5, none⟩ = some (.int .i64 q.gen) ∧ w'.cell? ⟨g9, k * 5 + 1, none⟩ = some (.int .i64 q.rc) ∧ w'.cell? ⟨g9, k * 5 + 2, none⟩ = some (.int .i64 q.n) ∧ w'.cell? ⟨g9, k * 5 + 3, none⟩ = some (.int .i64 q.ofn) ∧ w'.cell? ⟨g9, k * 5 + 4, none⟩ = some (.slice A2 q.data.length c2)) (first | with_reducible exact hSS | exact hSk.out _ hb10.out)
                        (first | (go_at_call 35; have hh := same35_any ps[k] q (.slice A1 ps[k].data.length c1) (.slice A2 q.data.length c2) wr.drew hs1'.out hs2'.out hp8.out hq8k.out; simp only [PartD.val] at hh; rw [hdec] at hh; refine hh.mono ?_; clear hh; rintro e w10 ⟨rfl, hb10⟩; replace hb10 := Lib.hid hb10))
                      go_wp2_with fail
                      refine ⟨⟨k + 1, by go_num, by omega, Lib.hid ?_, bl_then hbl2.out.drew hbsz2 hb10.out⟩, by simp [intOf]; omega⟩
                      rw [List.take_succ_eq_append_getElem hkc, List.take_succ_eq_append_getElem hlt2, hpre2.out, hq.out, hqp.out]
                    · have hdec := decide_eq_false hsm
                      replace hsm := Lib.hid hsm
                      go_region_held3 (fun w' => w'.cell? ⟨g, k * 5, none⟩ = some (.int .i64 ps[k].gen) ∧ w'.cell? ⟨g, k * 5 + 1, none⟩ = some (.int .i64 ps[k].rc) ∧ w'.cell? ⟨g, k * 5 + 2, none⟩ = some (.int .i64 ps[k].n) ∧ w'.cell? ⟨g, k * 5 + 3, none⟩ = some (.int .i64 ps[k].ofn) ∧ w'.cell? ⟨g, k * 5 + 4, none⟩ = some (.slice A1 ps[k].data.length c1) ∧ w'.cell? ⟨g9, k * 5, none⟩ = some (.int .i64 q.gen) ∧ w'.cell? ⟨g9, k * 5 + 1, none⟩ = some (.int .i64 q.rc) ∧ w'.cell? ⟨g9, k * 5 + 2, none⟩ = some (.int .i64 q.n) ∧ w'.cell? ⟨g9, k * 5 + 3, none⟩ = some (.int .i64 q.ofn) ∧ w'.cell? ⟨g9, k * 5 + 4, none⟩ = some (.slice A2 q.data.length c2)) (first | with_reducible exact hSS | exact hSk.out _ hb10.out)
                        (first | (go_at_call 35; have hh := same35_any ps[k] q (.slice A1 ps[k].data.length c1) (.slice A2 q.data.length c2) wr.drew hs1'.out hs2'.out hp8.out hq8k.out; simp only [PartD.val] at hh; rw [hdec] at hh; refine hh.mono ?_; clear hh; rintro e w10 ⟨rfl, hb10⟩; replace hb10 := Lib.hid hb10))
                      go_wp2_with fail
                      go_ret2
                      refine ⟨_, false, rfl, ⟨(fun h => by cases h), (fun h => absurd ?_ hsm.out)⟩, (fun h => by cases h), (fun _ => rfl), bl_then hb2w.out.drew (by have := hb2w.out.size; exact this) hb10.out⟩
                      have h1 := hJ2.out h
                      have h2 : ps[k] = q := by rw [← hq.out]; simp only [h1]
                      rw [h2]
                      exact ⟨rfl, rfl, rfl, rfl, rfl⟩
                  · have hd3 : decide (k < ps.length) = false := by simpa using hlt2
                    have hke : k = ps.length := by omega
                    subst hke
                    have hqe : qs = ps := by
                      have h1 := hpre2.out
                      rwa [List.take_length, List.take_of_length_le (by omega)] at h1
                    have hJx := Lib.hid (hJ.out hqe)
                    clear hqe
                    go_wp2_with fail
                    go_ret2
                    exact ⟨_, true, rfl, ⟨(fun _ => hJx.out), (fun _ => rfl)⟩, (fun _ => hown8c.out.below hbl2.out), (fun h => by cases h), hb2w.out⟩
              · have hm1 : ((qs.length : Int) == (ps.length : Int)) = false := by rw [beq_eq_false_iff_ne]; omega
                have hm2 : ((qs.length : Int) != (ps.length : Int)) = true := by simp only [bne, hm1, Bool.not_false]
                go_wp2_with fail
                go_ret2
                exact ⟨_, false, rfl, ⟨(fun h => by cases h), (fun h => absurd (congrArg List.length (hJ2.out h)) hln)⟩, (fun h => by cases h), (fun _ => rfl), hB9w.out⟩
            · have q1 : (cd == 0) = false := by simpa using hz
              have q2 : (cd != 0) = true := by simp only [bne, q1, Bool.not_false]
              replace hz := Lib.hid hz
              go_wp2_with fail
              go_ret2
              exact ⟨_, false, rfl, ⟨(fun h => by cases h), (fun h => absurd (by have := code_ok (l := joinB ps) h.2.2.1; rw [if_pos h.2.2.2.1] at this; exact hcd.out.symm.trans this) hz.out)⟩, (fun h => by cases h), (fun _ => rfl), hB9w.out⟩
      · have hd4 : decide (L - 4 < N) = true := by simp; omega
        have hd5 : decide ((L : Int) - 4 < (N : Int)) = true := by simp; omega
        go_wp2_with fail
        go_ret2
        exact ⟨_, false, rfl, ⟨(fun h => by cases h), (fun h => absurd h.2.1 (by rw [hN.out, ← hL'.out]; omega))⟩, (fun h => by cases h), (fun _ => rfl), hbel'.out⟩
end Go.Proofs.Ytjlhajnficneoaa
