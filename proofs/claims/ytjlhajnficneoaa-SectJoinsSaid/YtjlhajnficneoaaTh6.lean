/- The walks: SectJoins, way 6 of the switch. -/
import Derived.Test.YtjlhajnficneoaaThs
import Derived.Sort.AtCall
namespace Go.Proofs.Ytjlhajnficneoaa
set_option linter.unusedVariables false
set_option linter.unusedSimpArgs false
open Go.RowKit

set_option maxHeartbeats 8000000 in
set_option maxRecDepth 100000 in
theorem joins_walk6 (w : World) (A0 : Option Addr) (c0 : Nat) (b : List Nat) (hr0 : Rd w A0 (bs b)) (h80 : Bytes8 b) (hn0 : b.length ≤ c0) (hc0 : c0 ≤ 9223372036854775807) (hA0 : A0 = none → b.length = 0 ∧ c0 = 0)
    (A1 : Option Addr) (c1 : Nat) (l : List Nat) (hr1 : Rd w A1 (bs l)) (h81 : Bytes8 l) (hn1 : l.length ≤ c1) (hc1 : c1 ≤ 9223372036854775807) (hA1 : A1 = none → l.length = 0 ∧ c1 = 0)
    (which at_ : Int) (bt : Int) (hbt0 : 0 ≤ bt) (hbt1 : bt < 256) (gen : Int) (hWe : which % 8 = 6) :
    Calls Try.prog 7 #[.slice A0 b.length c0, .slice A1 l.length c1, .int .i64 which, .int .i64 at_, .int .u8 bt, .int .i64 gen] w fun e w' => e = .returned (.bool true) ∧ Below w.heap.size w w' := by
  have hr0' := Lib.hid hr0
  have h80' := Lib.hid h80
  have hA0' := Lib.hid hA0
  have hr1' := Lib.hid hr1
  have h81' := Lib.hid h81
  have hA1' := Lib.hid hA1
  clear hr0 h80 hA0 hr1 h81 hA1
  by_cases h3 : 400 < b.length
  · have hd : decide (400 < b.length) = true := by simpa using h3
    have hd2 : decide ((b.length : Int) > 400) = true := by simp; omega
    go_enter Try.func7, Try.ntmps7
    go_wp2_with (go_at_call 12; refine (known_any _).mono ?_; rintro e w1 ⟨rfl, hb1⟩)
    go_ret
    exact ⟨rfl, hb1⟩
  have hd : decide (400 < b.length) = false := by simpa using h3
  have hd2 : decide ((b.length : Int) > 400) = false := by simp; omega
  by_cases h4 : 400 < l.length
  · have he : decide (400 < l.length) = true := by simpa using h4
    have he2 : decide ((l.length : Int) > 400) = true := by simp; omega
    go_enter Try.func7, Try.ntmps7
    go_wp2_with (go_at_call 12; refine (known_any _).mono ?_; rintro e w1 ⟨rfl, hb1⟩)
    go_ret
    exact ⟨rfl, hb1⟩
  have he : decide (400 < l.length) = false := by simpa using h4
  have he2 : decide ((l.length : Int) > 400) = false := by simp; omega
  have hB := Lib.hid (Below.refl w.heap.size w)
  obtain ⟨G, hG0, hG1, hGe⟩ : ∃ G : Int, 0 ≤ G ∧ G < 3 ∧ gen % 3 = G := ⟨gen % 3, by omega, by omega, rfl⟩
  obtain ⟨H, hH0, hH1, hHe⟩ : ∃ G : Int, 0 ≤ G ∧ G < 3 ∧ wrap64 (gen.tdiv 3) % 3 = G := ⟨wrap64 (gen.tdiv 3) % 3, by omega, by omega, rfl⟩
  obtain ⟨R, hR0, hR1, hRe⟩ : ∃ G : Int, 0 ≤ G ∧ G < 2 ∧ wrap64 (gen.tdiv 9) % 2 = G := ⟨wrap64 (gen.tdiv 9) % 2, by omega, by omega, rfl⟩
  have hca1 : Hid (cutArg (1 + G) 0) := Lib.hid (by unfold cutArg; omega)
  have hca2 : Hid (cutArg (1 + H) R) := Lib.hid (by unfold cutArg; omega)
  replace hGe := Lib.hid hGe
  replace hHe := Lib.hid hHe
  replace hRe := Lib.hid hRe
  obtain ⟨n, hn⟩ : ∃ n, recN b = n := ⟨_, rfl⟩
  obtain ⟨n3, hn3⟩ : ∃ n, recN l = n := ⟨_, rfl⟩
  have hrb : n ≤ 8 := by unfold recN at hn; omega
  have hrb1 : 1 ≤ n := by unfold recN at hn; omega
  have hrl : n3 ≤ 8 := by unfold recN at hn3; omega
  have hrl1 : 1 ≤ n3 := by unfold recN at hn3; omega
  have hq1 : Hid (recN b ≤ 255) := Lib.hid (by omega)
  have hq2 : Hid (recN l ≤ 255) := Lib.hid (by omega)
  replace hn := Lib.hid hn
  replace hn3 := Lib.hid hn3
  obtain ⟨k, hk, hke⟩ : ∃ k : Nat, k < n ∧ at_ % (n : Int) = (k : Int) := ⟨(at_ % (n : Int)).toNat, by have := Int.emod_lt_of_pos at_ (show (0 : Int) < n by omega); have := Int.emod_nonneg at_ (show (n : Int) ≠ 0 by omega); omega, by have := Int.emod_nonneg at_ (show (n : Int) ≠ 0 by omega); omega⟩
  replace hke := Lib.hid hke
  -- which way of the switch
  replace hWe := Lib.hid hWe
  go_enter Try.func7, Try.ntmps7
  go_upto_block 0 with (first
    | (go_at_call 12; refine (known_any _).mono ?_; rintro e w1 ⟨rfl, hb1⟩; replace hB := Lib.hid (bl_then hB.out hB.out.size hb1); clear hb1; have hR0x := Lib.hid (hr0'.out.below hB.out))
    | (go_at_call_of 20 (Value.int .i64 gen); refine (within_any gen 3 _ (by decide) (by decide)).mono ?_; rintro e w' ⟨rfl, rfl⟩; rw [hGe.out])
    | (go_at_call_of 20 (Value.int .i64 at_); refine (within_any at_ (n : Int) _ (by omega) (by omega)).mono ?_; rintro e w' ⟨rfl, rfl⟩; rw [hke.out])
    | (go_at_call_of 20 (Value.int .i64 which); refine (within_any which 8 _ (by decide) (by decide)).mono ?_; rintro e w' ⟨rfl, rfl⟩; rw [hWe.out])
    | (go_at_call_has 23 (Value.int .i64 (1 + G)); have hh := refcut_walk (1 + G) 0 A0 c0 b w1 hca1.out (by omega) hR0x.out hA0'.out; rw [if_pos hq1.out] at hh; refine hh.mono ?_; clear hh; rintro e w2 ⟨v2, cells, rfl, ho2, -, hb2⟩; obtain ⟨g, cap, ps, rfl, hcap, hc63, hg, hown, h52⟩ := cut_own hn.out h80'.out (by omega) (ho2 hq1.out).1 (ho2 hq1.out).2; clear ho2; replace hown := Lib.hid (hown.weaken hB.out.size); replace h52 := Lib.hid h52; have hB1 := hB; have hB1s := Lib.hid hB.out.size; have hB2 := Lib.hid hb2; replace hB := Lib.hid (bl_then hB.out hB.out.size hb2); clear hb2; have hR1x := Lib.hid (hr1'.out.below hB.out))
    | (go_at_call 20; with_reducible refine (within_any _ 3 _ (by decide) (by decide)).mono ?_; rintro e w' ⟨rfl, rfl⟩; rw [hHe.out])
    | (go_at_call 20; with_reducible refine (within_any _ 2 _ (by decide) (by decide)).mono ?_; rintro e w' ⟨rfl, rfl⟩; rw [hRe.out])
    | (go_at_call_has 23 (Value.int .i64 (1 + H)); have hh := refcut_walk (1 + H) R A1 c1 l w2 hca2.out (by omega) hR1x.out hA1'.out; rw [if_pos hq2.out] at hh; refine hh.mono ?_; clear hh; rintro e w3 ⟨v3, cells3, rfl, ho3, -, hb3⟩; obtain ⟨g3, cap3, qs, rfl, hcap3, hc633, hg3, hown3, h523⟩ := cut_own hn3.out h81'.out (by omega) (ho3 hq2.out).1 (ho3 hq2.out).2; clear ho3; replace hown3 := Lib.hid (hown3.weaken hB.out.size); replace hown := Lib.hid (hown.out.below hb3); clear h523; have hB3 := Lib.hid hb3; replace hB := Lib.hid (bl_then hB.out hB.out.size hb3); clear hb3))
  have hNn : n ≤ 9 := by omega
  go_cut [13] (fun v wx => MR w v wx)
  case first =>
    have i1 : (0 : Int) ≤ (k : Int) := by omega
    have i2 : (k : Int) < (n : Int) := by omega
    have i3 : (0 : Int) < (n : Int) := by omega
    have hpl : Hid (ps.length = n) := Lib.hid (by obtain ⟨_, _, _, h, _⟩ := hown.out; exact h)
    have hkp : k < ps.length := by rw [hpl.out]; exact hk
    have h0p : 0 < ps.length := by omega
    have hod := Lib.hid (hown.out.below (Below.refl _ _).drew)
    clear hWe hGe hHe hRe hke hca1 hca2 hq1 hq2 hB1 hB2 hB3 hR0x hR1x hr0' hr1' h80' h81' hA0' hA1' hd hd2 he he2
    obtain ⟨vk, ok, x0, x1, x2, x3, x4, xf⟩ := hod.out.at_ k hk hkp
    obtain ⟨Ak, ck, rfl, -⟩ := own_shape ok
    have f2 := xf 2 (by omega)
    have f3 := xf 3 (by omega)
    have X2 : w3.cell? ⟨g, k * 5 + 2, none⟩ = some (.int .i64 ps[k].n) := x2
    have F2 : w3.frozen? ⟨g, k * 5 + 2, none⟩ = false := f2
    have X3 : w3.cell? ⟨g, k * 5 + 3, none⟩ = some (.int .i64 ps[k].ofn) := x3
    have F3 : w3.frozen? ⟨g, k * 5 + 3, none⟩ = false := f3
    have hpk : Bytes8 ps[k].data ∧ ps[k].data.length ≤ 52 := by obtain ⟨_, _, _, _, h⟩ := hod.out; exact h _ (List.getElem_mem _)
    have hfin : Hid (∀ x y : Int, MR w (.slice (some ⟨g, 0, none⟩) n cap) ((w3.setCell ⟨g, k * 5 + 3, none⟩ (.int .i64 x)).setCell ⟨g, k * 5 + 2, none⟩ (.int .i64 y)).drew) := Lib.hid (by
      intro x y
      have hlp : (ps.set k { ps[k] with ofn := x }).length = ps.length := by simp
      have he : (ps.set k { ps[k] with ofn := x })[k]'(by rw [hlp]; exact hkp) = { ps[k] with ofn := x } := by simp
      obtain ⟨h1, h2⟩ := hown.out.put k hk hkp 3 (.int .i64 x) (by omega) { ps[k] with ofn := x } _ _ ok x4 rfl ok hpk
      obtain ⟨v', o', z0, z1, z2, z3, z4, -⟩ := h1.at_ k hk (by rw [hlp]; exact hkp)
      obtain ⟨t1, t2⟩ := h1.put k hk (by rw [hlp]; exact hkp) 2 (.int .i64 y) (by omega) { ps[k] with ofn := x, n := y } v' v' o' z4 (by rw [he]; rfl) (by rw [he] at o'; exact o') hpk
      exact own28_mr (t1.below (Below.refl _ _).drew) hNn (t2 _ _ (h2 _ _ hB.out (Nat.le_refl _)) (Nat.le_refl _)).drew)
    clear x0 x1 x4 ok xf
    go_upto_region 22 with fail
    go_region_with (first | (go_at_call 20; with_reducible refine (within_any _ 3 _ (by decide) (by decide)).mono ?_; rintro e' w' ⟨rfl, rfl⟩))
    all_goals (go_wp2_with fail)
    all_goals go_meet
    all_goals exact hfin.out _ _
  case rest =>
    obtain ⟨A, cap2, ps2, rfl, hn9, hcap2, hc632, hP, hg2, hBw⟩ := hcut
    replace hP := Lib.hid hP
    replace hg2 := Lib.hid hg2
    replace hBw := Lib.hid hBw
    clear hown hown3 hB h52 hB1 hB2 hB3 hr0' hr1' h80' h81' hA0' hA1' hR0x hR1x hca1 hca2 hWe hGe hHe hRe hke hn hn3
    generalize hN : ps2.length = N at hn9 hcap2 ⊢
    have hN' := Lib.hid hN
    clear hN
    clear hd hd2 he he2
    go_wp2_with fail
    go_loopw [18, 19] (fun v i wr => ∃ (k : Nat) (cells : List Value), i = .int .i64 k ∧ k ≤ N ∧ wr.ownsRow wc.heap.size 33 5 v k cells ∧ PartsIn (OwnB wr wc.heap.size) cells (ps2.take k) ∧ Below wc.heap.size wc wr) (fun _ i _ => N - (intOf i).toNat)
    case atStart => exact ⟨0, [], rfl, by omega, own_nil _ _ _ _, (fun i hi => by simp at hi), Below.refl _ _⟩
    case round =>
      obtain ⟨k2, cells2, rfl, hk2, hoc, hpi, hbl⟩ := hrel
      replace hoc := Lib.hid hoc
      replace hpi := Lib.hid hpi
      replace hbl := Lib.hid hbl
      have hbs := hbl.out.size
      by_cases hlt : k2 < N
      · have hd : decide (k2 < N) = true := by simpa using hlt
        have hkp2 : k2 < ps2.length := by rw [hN'.out]; exact hlt
        have i1 : (0 : Int) ≤ (k2 : Int) := by omega
        have i2 : (k2 : Int) < (N : Int) := by omega
        obtain ⟨gx, rfl, hat⟩ := parts_k hP.out k2 hkp2
        obtain ⟨v1, hs1, y0, y1, y2, y3, y4⟩ := hat k2 hkp2
        have hq := Lib.hid (hg2.out ps2[k2] (List.getElem_mem _))
        obtain ⟨q, hqe⟩ : ∃ q, ps2[k2] = q := ⟨_, rfl⟩
        rw [hqe] at hs1 y0 y1 y2 y3 hq
        replace hqe := Lib.hid hqe
        obtain ⟨Aq, cq, rfl, hrq, hAq⟩ := hs1
        obtain ⟨Lq, hLq⟩ : ∃ x, q.data.length = x := ⟨_, rfl⟩
        rw [hLq] at y4 hAq
        have hL52 : Lq ≤ 52 := by rw [← hLq]; exact hq.out.2
        replace hLq := Lib.hid hLq
        have hSk : Hid (∀ w', Below wc.heap.size wc w' → (w'.cell? ⟨gx, k2 * 5, none⟩ = some (.int .i64 q.gen) ∧ w'.cell? ⟨gx, k2 * 5 + 1, none⟩ = some (.int .i64 q.rc) ∧ w'.cell? ⟨gx, k2 * 5 + 2, none⟩ = some (.int .i64 q.n) ∧ w'.cell? ⟨gx, k2 * 5 + 3, none⟩ = some (.int .i64 q.ofn) ∧ w'.cell? ⟨gx, k2 * 5 + 4, none⟩ = some (.slice Aq Lq cq))) := Lib.hid (fun w' hb => ⟨bl_cell hb y0, bl_cell hb y1, bl_cell hb y2, bl_cell hb y3, bl_cell hb y4⟩)
        have hrqr : Hid (Rd wr Aq (bs q.data)) := Lib.hid (hrq.below hbl.out)
        replace hAq := Lib.hid hAq
        clear y0 y1 y2 y3 y4 hrq hat
        obtain ⟨Av, cv, rfl, -⟩ := own_shape hoc.out
        go_upto_region 27 with fail
        go_region_held3 (fun w' => w'.cell? ⟨gx, k2 * 5, none⟩ = some (.int .i64 q.gen) ∧ w'.cell? ⟨gx, k2 * 5 + 1, none⟩ = some (.int .i64 q.rc) ∧ w'.cell? ⟨gx, k2 * 5 + 2, none⟩ = some (.int .i64 q.n) ∧ w'.cell? ⟨gx, k2 * 5 + 3, none⟩ = some (.int .i64 q.ofn) ∧ w'.cell? ⟨gx, k2 * 5 + 4, none⟩ = some (.slice Aq Lq cq)) (first | exact hSk.out _ hbl.out.drew | exact hSk.out _ (bl_alloc hbl.out _).drew | exact hSk.out _ hB5.out | exact hSk.out _ (bl_alloc hB5.out _) | exact hSk.out _ hB6.out) (first
          | (refine step_app wr.heap.size rfl _ _ 22 5 (.int .u8 0) 1 1 rfl Try.underlying22 info5 rfl (by decide) (by decide) (.slice (some ⟨wr.heap.size, 0, none⟩) 0 0) 0 [] rfl (own_below (own_lit wr wr.heap.size 5 1 0 [] (Nat.le_refl _) rfl (by omega)) (Below.refl _ _).drew) (by simp) Aq Lq cq (bs q.data) rfl (by rw [bs_length, Nat.mul_one]; exact hLq.out) (hrqr.out.below (bl_alloc (Below.refl _ _) _).drew) hAq.out (bs_one _) (by omega) ?_; rintro v5 w5 ho5 hb5 - -; rw [Nat.zero_add, List.nil_append] at ho5; obtain ⟨A5, c5, rfl, -⟩ := own_shape ho5; replace ho5 := Lib.hid ho5; have hB5r := Lib.hid ((bl_alloc (Below.refl _ _) _).drew.trans hb5); have hB5 := Lib.hid (bl_then hbl.out hbs hB5r.out); clear hb5)
          | (refine step_app wc.heap.size rfl _ _ 46 33 _ 5 56 rfl Try.underlying46 info33 rfl (by decide) (by decide) (.slice Av k2 cv) k2 cells2 rfl (own_below (own_below hoc.out hB5r.out) (bl_alloc (Below.refl _ _) _)) (by have := hB5.out.size; simp; omega) (some ⟨w5.heap.size, 0, none⟩) 1 1 [.int .i64 q.gen, .int .i64 q.rc, .int .i64 q.n, .int .i64 q.ofn, .slice A5 Lq c5] rfl rfl (rd_new w5 _ 33) (fun e => by cases e) (by simp [Value.oneCell']) (by omega) ?_; rintro v6 w6 ho6 hb6 hg6 -; replace ho6 := Lib.hid ho6; have hB6 := Lib.hid ((bl_alloc hB5.out _).trans hb6); clear hb6))
        all_goals (go_wp2_with fail)
        have hoW := own_below (own_below hoc.out hB5r.out) (bl_alloc (Below.refl w5.heap.size w5) (.cells #[.int .i64 q.gen, .int .i64 q.rc, .int .i64 q.n, .int .i64 q.ofn, .slice A5 Lq c5] 33))
        have hk6 : ∀ v l, OwnB w5 wc.heap.size v l → OwnB w6 wc.heap.size v l := fun v l h => World.ownsRow.kept (own_below h (bl_alloc (Below.refl w5.heap.size w5) (.cells #[.int .i64 q.gen, .int .i64 q.rc, .int .i64 q.n, .int .i64 q.ofn, .slice A5 Lq c5] 33))) hg6 (own_apart (own_below h (bl_alloc (Below.refl w5.heap.size w5) (.cells #[.int .i64 q.gen, .int .i64 q.rc, .int .i64 q.n, .int .i64 q.ofn, .slice A5 Lq c5] 33))) hoW (by decide))
        have hnew : OwnB w5 wc.heap.size (.slice A5 Lq c5) q.data := by
          unfold OwnB
          rw [hLq.out]
          exact own_weaken ho5.out hbs
        refine ⟨⟨k2 + 1, _, by go_num, by omega, ho6.out, ?_, hB6.out⟩, by simp [intOf]; omega⟩
        rw [List.take_succ_eq_append_getElem hkp2, hqe.out]
        exact PartsIn.app (parts_mono hpi.out (fun v l h => hk6 v l (OwnB.below h hB5r.out))) (by rw [hoc.out.1, List.length_take]; omega) (hk6 _ _ hnew)
      · have hd : decide (k2 < N) = false := by simpa using hlt
        have hkN : k2 = N := by omega
        subst hkN
        obtain ⟨Av, cv, rfl, hcv, -⟩ := own_shape hoc.out
        have hps : ps2.take k2 = ps2 := by rw [List.take_of_length_le (by rw [hN'.out]; exact Nat.le_refl _)]
        have hpi2 : PartsIn (OwnB wr wc.heap.size) cells2 ps2 := by have := hpi.out; rwa [hps] at this
        have hPl : PartsOf wr Av ps2 := by
          by_cases h0 : k2 = 0
          · exact .inl (List.eq_nil_of_length_eq_zero (by rw [hN'.out]; exact h0))
          · obtain ⟨gl, cl, hv, -, -⟩ := own_some hoc.out (by omega)
            cases hv
            exact .inr ⟨gl, rfl, PartsIn.at_ hoc.out hpi2 (fun v l h => OwnB.slB h)⟩
        obtain ⟨ok, hj1, hj2⟩ := both_joins k2 ps2 hN'.out hn9 Av A cv cap2 wr hPl (hP.out.below hbl.out) hg2.out hcv hcap2
        replace hj1 := Lib.hid hj1
        replace hj2 := Lib.hid hj2
        have hBr := Lib.hid (bl_then hBw.out hBw.out.size hbl.out)
        clear hps hpi2 hPl
        go_upto_region 30 with (first
          | (go_at_call 24; refine hj1.out.mono ?_; rintro e w5 ⟨B1, d1, l1, rfl, ⟨s1, e1, e2, e3, e4, e5, e6⟩, hb5⟩; subst e1; replace e2 := Lib.hid e2; replace e3 := Lib.hid e3; replace e4 := Lib.hid e4; replace e5 := Lib.hid e5; replace e6 := Lib.hid e6; replace hb5 := Lib.hid hb5)
          | (go_at_call 25; refine (hj2.out w5 hb5.out).mono ?_; rintro e w6 ⟨B2, d2, l2, rfl, ⟨s2, f1, f2, f3, f4, f5, f6⟩, hb6⟩; subst f1; replace f3 := Lib.hid f3; replace f4 := Lib.hid f4; replace f5 := Lib.hid f5; replace f6 := Lib.hid f6; replace hb6 := Lib.hid hb6; clear f2))
        have hss : s1 = s2 := by
          cases ok with
          | true => rw [e3.out rfl, f3.out rfl]
          | false => rw [e4.out rfl, f4.out rfl]
        subst hss
        have t1 := str_any B1 s1.length d1 s1 w6 rfl (e5.out.below hb6.out) e6.out
        have t2 := str_any B2 s1.length d2 s1 w6 rfl f5.out f6.out
        have hz1 := (strB_beq e2.out e2.out).2 rfl
        cases ok
        all_goals
          go_wp2_with fail
          go_ret
          exact ⟨by first | rfl | exact ret_bool (by first | exact hz1 | simp), bl_then (bl_then hBr.out hBr.out.size hb5.out) (bl_then hBr.out hBr.out.size hb5.out).size hb6.out⟩
end Go.Proofs.Ytjlhajnficneoaa
