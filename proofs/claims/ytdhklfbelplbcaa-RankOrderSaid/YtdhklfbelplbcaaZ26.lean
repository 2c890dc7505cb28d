/-
  The walk of a body.
-/
import Derived.Test.YtdhklfbelplbcaaZ09
import Derived.Test.YtdhklfbelplbcaaZ14
namespace Go.Proofs.Ytdhklfbelplbcaa
set_option linter.unusedVariables false
set_option linter.unusedSimpArgs false
open Go.RowKit

theorem pt_one {k x N : Int} {nm e : ByteArray} {va vb : Value} (ha : va.oneCell' = true) (hb : vb.oneCell' = true) : ∀ u ∈ [.int .i64 k, .int .i64 x, .string nm, va, vb, .int .i64 N, .string e], u.oneCell' = true := by
  intro u hu
  simp only [List.mem_cons, List.not_mem_nil, or_false] at hu
  rcases hu with rfl | rfl | rfl | rfl | rfl | rfl | rfl <;> first | assumption | rfl
set_option maxHeartbeats 64000000 in
set_option maxRecDepth 100000 in
theorem wblock_any (bs : Nat → St) (own : Nat → List Int) (hown : ∀ j, j < 4 → Ef 3 (own j)) (most : Bool) (T : St) : ∀ (m : Nat) (t : St), t.cnt < m → ∀ (w0 W0 : World) (g n : Nat) (q0 q1 q2 Ao : Option Addr) (n0 n1 n2 c0 c1 c2 co : Nat) (vL : Value) (xs : List Value) (A : Option Addr) (c : Nat) (e0 : List Int),
    PrOk w0.cell? (.agg #[.slice q0 n0 c0, .slice q1 n1 c1, .slice q2 n2 c2]) bs → Rd w0 Ao (ownV own) → 4 ≤ co → co ≤ 9223372036854775807 →
    RdSt w0.cell? t A 0 → t.len ≤ c → c ≤ 9223372036854775807 → StOk t → (∀ s, InSt 5 s t → InSt 5 s T) → Below w0.heap.size w0 W0 → w0.heap.size ≤ g →
    WayS W0 g (.slice q0 n0 c0) (.slice q1 n1 c1) (.slice q2 n2 c2) (.slice Ao 4 co) most T vL n xs → n + ptsN t ≤ 1000 → Ef 3 e0 →
    Calls Try.prog 57 #[.pointer (some ⟨g, 0, none⟩), .slice A t.len c, .string (st e0)] W0 fun en W' => en = .returned (.string (st (effM most own t e0))) ∧ Hid (∃ vL' xs', WayS W' g (.slice q0 n0 c0) (.slice q1 n1 c1) (.slice q2 n2 c2) (.slice Ao 4 co) most T vL' (n + ptsN t) xs' ∧ Gr2 W0 W' g vL vL') := by
  intro m
  induction m with
  | zero => intro t ht; omega
  | succ m ih =>
    intro t ht w0 W0 g n q0 q1 q2 Ao n0 n1 n2 c0 c1 c2 co vL xs A c e0 hp hro hco hco2 hr hl hc hok hin hB0 hg hW hb he0
    have hr' := Lib.hid hr
    have ih' := Lib.hid ih
    have hp' := Lib.hid hp
    have hro' := Lib.hid hro
    have hB0' := Lib.hid hB0
    have hok' := Lib.hid hok
    have hin' := Lib.hid hin
    have hlc := St.len_le t
    replace hW := Lib.hid hW
    replace he0 := Lib.hid he0
    replace hown := Lib.hid hown
    clear hr ih hp hro hB0 hok hin
    go_enter Try.func57, Try.ntmps57
    go_wp2_with fail
    go_loopw [2, 7] (fun v i wr => ∃ (j : Nat) (s : St) (es : List Int) (vL' : Value) (n' : Nat) (xs' : List Value), i = .int .i64 (j : Nat) ∧ v = .string (st es) ∧ Hid (j + s.len = t.len) ∧ s.cnt < m + 1 ∧ Hid (RdSt w0.cell? s A j) ∧ Hid (StOk s) ∧ Hid (∀ x, InSt 5 x s → InSt 5 x T) ∧ Hid (Ef 3 es) ∧ Hid (effM most own s es = effM most own t e0) ∧
      Hid (WayS wr g (.slice q0 n0 c0) (.slice q1 n1 c1) (.slice q2 n2 c2) (.slice Ao 4 co) most T vL' n' xs') ∧ n' + ptsN s = n + ptsN t ∧ Hid (Gr2 W0 wr g vL vL')) (fun _ i _ => t.len - (intOf i).toNat)
    case atStart => exact ⟨0, t, e0, vL, n, xs, rfl, rfl, Lib.hid (by omega), ht, hr', hok', hin', he0, Lib.hid rfl, hW, rfl, Lib.hid (Gr2.refl _ _ _)⟩
    case round =>
      obtain ⟨j, s, es, vL', n', xs', rfl, rfl, hj, hcs, hrs, hso, hsi, hes, hef, hWr, hnn, hG⟩ := hrel
      have hB := Lib.hid (hW.out.gr2 hG.out)
      cases s with
      | nil =>
        have hjl : j = t.len := by have := hj.out; simp only [St.len] at this; omega
        subst hjl
        have d1 : decide (t.len < t.len) = false := by simp
        have d2 : decide ((t.len : Int) < (t.len : Int)) = false := by simp
        have hn' : Hid (n' = n + ptsN t) := Lib.hid (by simpa [ptsN] using hnn)
        have hfe : Hid (effM most own t e0 = es) := Lib.hid (by rw [← hef.out]; rfl)
        go_wp2_with fail
        go_ret
        exact ⟨ret_str (a := st es) (by rw [hfe.out]), Lib.hid ⟨vL', xs', by rw [← hn'.out]; exact hWr.out, hG.out⟩⟩
      | cons k nm a b r =>
        have hjl : j < t.len := by have := hj.out; simp only [St.len] at this; omega
        have d1 : decide (j < t.len) = true := by simpa using hjl
        have d2 : decide ((j : Int) < (t.len : Int)) = true := by simp; omega
        have j1 : (0 : Int) ≤ (j : Int) := by omega
        have j2 : (j : Int) < (t.len : Int) := by omega
        simp only [St.cnt] at hcs
        have hnn' := hnn
        simp only [ptsN] at hnn'
        replace hnn := Lib.hid hnn
        have hj' : Hid (j + 1 + r.len = t.len) := Lib.hid (by have := hj.out; simp only [St.len] at this; omega)
        have hrs' : Hid (RdSt w0.cell? r A (j + 1)) := Lib.hid hrs.out.2
        have hcr : r.cnt < m + 1 := by omega
        have hBw : Hid (Below w0.heap.size w0 wr) := Lib.hid (hB0'.out.trans (hB.out.mono hg))
        obtain ⟨hnm, hkf, hoa, hob, hor⟩ := hso.out
        replace hkf := Lib.hid hkf
        obtain ⟨⟨ad, x, A1, q1', A2, q2', rfl, f0, f1, f2, f3, f4, l1, l2, l3, l4, ra, rb⟩, rr⟩ := RdSt.below hBw.out _ _ _ hrs.out
        have ra0 : Hid (RdSt w0.cell? a A1 0 ∧ RdSt w0.cell? b A2 0) := Lib.hid (by
          obtain ⟨⟨ad', x', A1', q1'', A2', q2'', hae, g0, g1, g2, g3, g4, -, -, -, -, ga, gb⟩, -⟩ := hrs.out
          cases hae
          have e3 := bl_cell hBw.out g3
          have e4 := bl_cell hBw.out g4
          rw [f3] at e3
          rw [f4] at e4
          cases e3; cases e4
          exact ⟨ga, gb⟩)
        obtain ⟨AL, cL, rfl, nL, mL, hrL, aL⟩ := Rd.own hWr.out.own
        obtain ⟨y0, y1, y2, y3, y4, y5, yz⟩ := hWr.out.cells
        have z5 := yz 5
        replace hrL := Lib.hid hrL
        replace aL := Lib.hid aL
        have hgz : g < wr.heap.size := (Array.getElem?_eq_some_iff.1 hWr.out.bx).1
        clear yz ra rb rr hj hrs
        go_upto_region 6 with fail
        obtain ⟨Wa, hWa⟩ : ∃ Z, Z = wr.alloc (.cells #[.int .i64 k, .int .i64 x, .string nm, .slice A1 a.len q1', .slice A2 b.len q2'] 100) := ⟨_, rfl⟩
        rw [← hWa]
        have hba : Hid (Below wr.heap.size wr Wa) := Lib.hid (by rw [hWa]; exact bl_alloc (Below.refl _ _) _)
        have hrow : Hid (Wa.heap[wr.heap.size]? = some (.cells #[.int .i64 k, .int .i64 x, .string nm, .slice A1 a.len q1', .slice A2 b.len q2'] 100 (0, 0))) := Lib.hid (by rw [hWa]; exact heap_alloc_new wr _)
        have hsa : Hid (Wa.heap.size = wr.heap.size + 1) := Lib.hid (by rw [hWa]; simp)
        replace hWa := Lib.hid hWa
        have hWy := Lib.hid (hWr.out.below hba.out)
        have x0 : Wa.cell? ⟨wr.heap.size, 0, none⟩ = some (.int .i64 k) := by rw [cell_of_row _ _ 0 _ 100 (0, 0) hrow.out]; rfl
        have x1 : Wa.cell? ⟨wr.heap.size, 1, none⟩ = some (.int .i64 x) := by rw [cell_of_row _ _ 1 _ 100 (0, 0) hrow.out]; rfl
        have x2 : Wa.cell? ⟨wr.heap.size, 2, none⟩ = some (.string nm) := by rw [cell_of_row _ _ 2 _ 100 (0, 0) hrow.out]; rfl
        have x3 : Wa.cell? ⟨wr.heap.size, 3, none⟩ = some (.slice A1 a.len q1') := by rw [cell_of_row _ _ 3 _ 100 (0, 0) hrow.out]; rfl
        have x4 : Wa.cell? ⟨wr.heap.size, 4, none⟩ = some (.slice A2 b.len q2') := by rw [cell_of_row _ _ 4 _ 100 (0, 0) hrow.out]; rfl
        have w5 := bl_cell hba.out y5
        have w5' := bl_cell (bl_alloc (Below.refl Wa.heap.size Wa) (.cells [.int .i64 k, .int .i64 x, .string nm, .slice A1 a.len q1', .slice A2 b.len q2', .int .i64 (n' : Nat), .string (st es)].toArray 120)) w5
        have hnb : n' + 1 ≤ 1000 := by omega
        replace hnn' := Lib.hid hnn'
        have haz : g + 1 ≤ Wa.heap.size := by have := hsa.out; omega
        clear f0 f1 f2 f3 f4 y0 y1 y2 y3 y4 y5 z5
        go_cut [] (fun wx => Hid (∃ v1 xs1, WayS wx g (.slice q0 n0 c0) (.slice q1 n1 c1) (.slice q2 n2 c2) (.slice Ao 4 co) most T v1 (n' + 1) xs1 ∧ Gr2 wr wx g (.slice AL n' cL) v1) ∧ Hid (wx.heap[wr.heap.size]? = some (.cells #[.int .i64 k, .int .i64 x, .string nm, .slice A1 a.len q1', .slice A2 b.len q2'] 100 (0, 0))))
        case first =>
          go_region_law (first
            | (refine step_app (g + 1) rfl _ _ 115 120 (.agg #[.int .i64 0, .int .i64 0, .string ⟨#[]⟩, .slice none 0 0, .slice none 0 0, .int .i64 0, .string ⟨#[]⟩]) 7 104 rfl Try.underlying115 info120 rfl (by decide) (by decide) (.slice AL n' cL) n' xs' rfl (own_below hWy.out.own (by repeat (with_reducible (first | exact Below.refl _ _ | apply bl_alloc | apply Below.drew)))) (by first | exact haz | (simp; omega)) (some ⟨Wa.heap.size, 0, none⟩) 1 1 [.int .i64 k, .int .i64 x, .string nm, .slice A1 a.len q1', .slice A2 b.len q2', .int .i64 (n' : Nat), .string (st es)] rfl rfl (rd_new Wa [.int .i64 k, .int .i64 x, .string nm, .slice A1 a.len q1', .slice A2 b.len q2', .int .i64 (n' : Nat), .string (st es)] 120) (fun e => by cases e) (by simp [Value.oneCell']) (by omega) ?_; intro v1 w1 ho1 hb1 hg1 hat1; obtain ⟨g1, cap1, rfl, hcap1, hgb1⟩ := own_some ho1 (by omega); have hge := Lib.hid ((hWy.out.below (show Below Wa.heap.size Wa (Wa.alloc (.cells [.int .i64 k, .int .i64 x, .string nm, .slice A1 a.len q1', .slice A2 b.len q2', .int .i64 (n' : Nat), .string (st es)].toArray 120)).drew from (bl_alloc (Below.refl _ _) _).drew)).grow ho1 (hWy.out.pts.snoc (by have := hWy.out.own.1; omega) hes.out hnm (fun h => ⟨hkf.out (.inl h), hsi.out _ (.inl ⟨h, rfl⟩)⟩) rfl rfl) hg1); have hk1 := hg1.block g (by have := hsa.out; show g < (Wa.alloc _).heap.size; rw [World.size_alloc]; omega) (fun e => by have := (hWy.out.own.lt _ e.symm).1; omega); have hk2 : w1.heap[g]? = _ := hk1.trans (blk_alloc hWy.out.bx _); have u5 : w1.cell? ⟨g, 5, none⟩ = some (.slice AL n' cL) := (by rw [cell_of_row _ _ 5 _ 117 (0, 0) hk2]; rfl); have v5 : w1.frozen? ⟨g, 5, none⟩ = false := (by simp [World.frozen?, hk2]); replace hk1 := Lib.hid hk1; replace hk2 := Lib.hid hk2; replace ho1 := Lib.hid ho1; replace hb1 := Lib.hid hb1; replace hg1 := Lib.hid hg1; replace hat1 := Lib.hid hat1))
          all_goals
            (go_wp2_with fail
             go_meet
             have hz := hsa.out
             have hzO : wr.heap.size < (Wa.alloc (.cells [.int .i64 k, .int .i64 x, .string nm, .slice A1 a.len q1', .slice A2 b.len q2', .int .i64 (n' : Nat), .string (st es)].toArray 120)).drew.heap.size := (by show wr.heap.size < (Wa.alloc _).heap.size; rw [World.size_alloc]; omega)
             have hGx : Gr2 wr _ g (.slice AL n' cL) (.slice (some ⟨g1, 0, none⟩) (n' + 1) cap1) := ((Gr2.of_below (bl_then hba.out (Nat.le_of_lt (by omega)) (bl_alloc (Below.refl _ _) _).drew) g _).trans (Gr2.of_grown hg1.out hat1.out)).trans (Gr2.of_row hge.out.2 _)
             refine ⟨Lib.hid ⟨_, _, hge.out.1, hGx⟩, Lib.hid ?_⟩
             have e1 := hg1.out.block wr.heap.size hzO (fun e => by have := (hWr.out.own.lt _ e.symm).2; omega)
             rw [hge.out.2.block _ (by have := hg1.out.size; omega) (by simp only [ne_eq, Option.some.injEq]; omega), e1]
             exact blk_alloc hrow.out _)
        case rest =>
          obtain ⟨hW1, hS1⟩ := hcut
          obtain ⟨v1, xs1, hWc, hGc⟩ := hW1.out
          replace hWc := Lib.hid hWc
          replace hGc := Lib.hid (hG.out.trans hGc)
          obtain ⟨gs, hgs⟩ : ∃ gs, gs = wr.heap.size := ⟨_, rfl⟩
          rw [← hgs] at hS1 ⊢
          have hBc : Hid (Below g W0 wc) := Lib.hid (hW.out.gr2 hGc.out)
          have hB0c : Hid (Below w0.heap.size w0 wc) := Lib.hid (hB0'.out.trans (hBc.out.mono hg))
          have hgc : g < wc.heap.size := (Array.getElem?_eq_some_iff.1 hWc.out.bx).1
          have hpc : Hid (PrOk wc.cell? (.agg #[.slice q0 n0 c0, .slice q1 n1 c1, .slice q2 n2 c2]) bs) := Lib.hid (hp'.out.mono (cell_le hB0c.out))
          replace hgs := Lib.hid hgs
          clear w5 w5' hWy haz x0 x1 x2 x3 x4 hW1
          have x0 : wc.cell? ⟨gs, 0, none⟩ = some (.int .i64 k) := by rw [cell_of_row _ _ 0 _ 100 (0, 0) hS1.out]; rfl
          have x2 : wc.cell? ⟨gs, 2, none⟩ = some (.string nm) := by rw [cell_of_row _ _ 2 _ 100 (0, 0) hS1.out]; rfl
          have x3 : wc.cell? ⟨gs, 3, none⟩ = some (.slice A1 a.len q1') := by rw [cell_of_row _ _ 3 _ 100 (0, 0) hS1.out]; rfl
          have x4 : wc.cell? ⟨gs, 4, none⟩ = some (.slice A2 b.len q2') := by rw [cell_of_row _ _ 4 _ 100 (0, 0) hS1.out]; rfl
          obtain ⟨y0, y1, y2, y3, y4, y5, yz⟩ := hWc.out.cells
          have hm3 : Hid ((3 : Nat) ≤ 1000) := Lib.hid (by omega)
          by_cases h3 : k = 3
          · subst h3
            have hef' : Hid (effM most own r (putL es (placeM nm) 50) = effM most own t e0) := Lib.hid (by rw [← hef.out, effM]; rfl)
            have hnn2 : Hid (n' + 1 + ptsN r = n + ptsN t) := Lib.hid (by have h := hnn'.out; simp at h; omega)
            have hSd : wc.drew.cell? ⟨g, 0, none⟩ = some (.slice q0 n0 c0) ∧ wc.drew.cell? ⟨g, 1, none⟩ = some (.slice q1 n1 c1) ∧ wc.drew.cell? ⟨g, 2, none⟩ = some (.slice q2 n2 c2) ∧ wc.drew.cell? ⟨gs, 2, none⟩ = some (.string nm) := ⟨y0, y1, y2, x2⟩
            have hSk : Hid (∀ w', Below wc.drew.heap.size wc.drew w' → (w'.cell? ⟨g, 0, none⟩ = some (.slice q0 n0 c0) ∧ w'.cell? ⟨g, 1, none⟩ = some (.slice q1 n1 c1) ∧ w'.cell? ⟨g, 2, none⟩ = some (.slice q2 n2 c2) ∧ w'.cell? ⟨gs, 2, none⟩ = some (.string nm))) := Lib.hid (fun w' hb => ⟨bl_cell hb hSd.1, bl_cell hb hSd.2.1, bl_cell hb hSd.2.2.1, bl_cell hb hSd.2.2.2⟩)
            have hpl := Lib.hid (place_any (.agg #[.slice q0 n0 c0, .slice q1 n1 c1, .slice q2 n2 c2]) bs nm wc.drew (hpc.out.mono (cell_le (Below.refl wc.heap.size wc).drew)))
            have hpt : Hid (∀ w', Calls Try.prog 65 #[.string (st es), .int .i64 (placeM nm), .int .u8 50] w' fun e w'' => e = .returned (.string (st (putL es (placeM nm) 50))) ∧ Below w'.heap.size w' w'') := Lib.hid (fun w' => refput_e (m := 3) (Lib.hid rfl) hes (Lib.hid (by omega)) hm3 w')
            have hep := Lib.hid (hes.out.put (placeM nm) (c := 50) (by omega) (by omega))
            generalize putL es (placeM nm) 50 = es2 at *
            generalize placeM nm = pl at *
            clear x3 x4 y3 y4 y5 yz
            go_upto_region 9 with fail
            go_region_held3 (fun w' => w'.cell? ⟨g, 0, none⟩ = some (.slice q0 n0 c0) ∧ w'.cell? ⟨g, 1, none⟩ = some (.slice q1 n1 c1) ∧ w'.cell? ⟨g, 2, none⟩ = some (.slice q2 n2 c2) ∧ w'.cell? ⟨gs, 2, none⟩ = some (.string nm)) (first | with_reducible exact hSd | exact hSk.out _ hb9.out | exact hSk.out _ hb8.out)
              (first
                | (go_at_call 66; (with_reducible refine hpl.out.mono ?_); rintro e w8 ⟨rfl, hb8⟩; replace hb8 := Lib.hid hb8)
                | (go_at_call 65; (with_reducible refine (hpt.out w8).mono ?_); rintro e w9 ⟨rfl, hb9⟩; replace hb9 := Lib.hid (bl_then hb8.out hb8.out.size hb9)))
            all_goals
              (go_wp2_with fail
               exact ⟨⟨j + 1, r, es2, v1, n' + 1, xs1, by go_num, rfl, hj', hcr, hrs', Lib.hid hor, Lib.hid (fun s hs => hsi.out s (.inr (.inr (.inr hs)))), hep, hef', Lib.hid (hWc.out.drew.below hb9.out), hnn2.out, Lib.hid (hGc.out.trans (Gr2.of_below (bl_then (Below.refl _ _).drew (Nat.le_refl _) hb9.out) g _))⟩, by simp [intOf]; omega⟩)
          · by_cases h4 : k = 4
            · subst h4
              have hef' : Hid (effM most own r (putL es (placeM nm) 48) = effM most own t e0) := Lib.hid (by rw [← hef.out, effM]; rfl)
              have hnn2 : Hid (n' + 1 + ptsN r = n + ptsN t) := Lib.hid (by have h := hnn'.out; simp at h; omega)
              have hSd : wc.drew.cell? ⟨g, 0, none⟩ = some (.slice q0 n0 c0) ∧ wc.drew.cell? ⟨g, 1, none⟩ = some (.slice q1 n1 c1) ∧ wc.drew.cell? ⟨g, 2, none⟩ = some (.slice q2 n2 c2) ∧ wc.drew.cell? ⟨gs, 2, none⟩ = some (.string nm) := ⟨y0, y1, y2, x2⟩
              have hSk : Hid (∀ w', Below wc.drew.heap.size wc.drew w' → (w'.cell? ⟨g, 0, none⟩ = some (.slice q0 n0 c0) ∧ w'.cell? ⟨g, 1, none⟩ = some (.slice q1 n1 c1) ∧ w'.cell? ⟨g, 2, none⟩ = some (.slice q2 n2 c2) ∧ w'.cell? ⟨gs, 2, none⟩ = some (.string nm))) := Lib.hid (fun w' hb => ⟨bl_cell hb hSd.1, bl_cell hb hSd.2.1, bl_cell hb hSd.2.2.1, bl_cell hb hSd.2.2.2⟩)
              have hpl := Lib.hid (place_any (.agg #[.slice q0 n0 c0, .slice q1 n1 c1, .slice q2 n2 c2]) bs nm wc.drew (hpc.out.mono (cell_le (Below.refl wc.heap.size wc).drew)))
              have hpt : Hid (∀ w', Calls Try.prog 65 #[.string (st es), .int .i64 (placeM nm), .int .u8 48] w' fun e w'' => e = .returned (.string (st (putL es (placeM nm) 48))) ∧ Below w'.heap.size w' w'') := Lib.hid (fun w' => refput_e (m := 3) (Lib.hid rfl) hes (Lib.hid (by omega)) hm3 w')
              have hep := Lib.hid (hes.out.put (placeM nm) (c := 48) (by omega) (by omega))
              generalize putL es (placeM nm) 48 = es2 at *
              generalize placeM nm = pl at *
              clear x3 x4 y3 y4 y5 yz
              go_upto_region 11 with fail
              go_region_held3 (fun w' => w'.cell? ⟨g, 0, none⟩ = some (.slice q0 n0 c0) ∧ w'.cell? ⟨g, 1, none⟩ = some (.slice q1 n1 c1) ∧ w'.cell? ⟨g, 2, none⟩ = some (.slice q2 n2 c2) ∧ w'.cell? ⟨gs, 2, none⟩ = some (.string nm)) (first | with_reducible exact hSd | exact hSk.out _ hb9.out | exact hSk.out _ hb8.out)
                (first
                  | (go_at_call 66; (with_reducible refine hpl.out.mono ?_); rintro e w8 ⟨rfl, hb8⟩; replace hb8 := Lib.hid hb8)
                  | (go_at_call 65; (with_reducible refine (hpt.out w8).mono ?_); rintro e w9 ⟨rfl, hb9⟩; replace hb9 := Lib.hid (bl_then hb8.out hb8.out.size hb9)))
              all_goals
                (go_wp2_with fail
                 exact ⟨⟨j + 1, r, es2, v1, n' + 1, xs1, by go_num, rfl, hj', hcr, hrs', Lib.hid hor, Lib.hid (fun s hs => hsi.out s (.inr (.inr (.inr hs)))), hep, hef', Lib.hid (hWc.out.drew.below hb9.out), hnn2.out, Lib.hid (hGc.out.trans (Gr2.of_below (bl_then (Below.refl _ _).drew (Nat.le_refl _) hb9.out) g _))⟩, by simp [intOf]; omega⟩)
            · by_cases h5 : k = 5
              · subst h5
                have hfn := hkf.out (.inl rfl)
                have hf4 := fnIx_lt nm
                have hfe := fnIx_fn hfn
                have hef' : Hid (effM most own r (thenL es (own (fnIx nm))) = effM most own t e0) := Lib.hid (by rw [← hef.out, effM]; rfl)
                have hnn2 : Hid (n' + 1 + ptsN r = n + ptsN t) := Lib.hid (by have h := hnn'.out; simp at h; omega)
                obtain ⟨ad0, hAo, hcell⟩ := hro'.out (fnIx nm) (by show fnIx nm < 4; exact hf4)
                have hcell' : wc.cell? (ad0.add (fnIx nm)) = some (.string (st (own (fnIx nm)))) := by
                  rw [bl_cell hB0c.out hcell]
                  have := ownV_at own (fnIx nm) hf4
                  rw [List.getElem?_eq_getElem (by show fnIx nm < 4; exact hf4)] at this
                  exact this
                subst hAo
                clear hcell
                have x2' : wc.cell? ⟨gs, 2, none⟩ = some (.string (fnN (fnIx nm))) := by rw [hfe]; exact x2
                have hep := Lib.hid (hes.out.tn (hown.out _ hf4))
                have hto : Hid (Ef 3 (own (fnIx nm))) := Lib.hid (hown.out _ hf4)
                generalize fnIx nm = f at *
                have hSd : wc.drew.cell? ⟨g, 0, none⟩ = some (.slice q0 n0 c0) ∧ wc.drew.cell? ⟨g, 1, none⟩ = some (.slice q1 n1 c1) ∧ wc.drew.cell? ⟨g, 2, none⟩ = some (.slice q2 n2 c2) ∧ wc.drew.cell? ⟨g, 4, none⟩ = some (.slice (some ad0) 4 co) ∧ wc.drew.cell? ⟨gs, 2, none⟩ = some (.string (fnN f)) ∧ wc.drew.cell? (ad0.add f) = some (.string (st (own f))) := ⟨y0, y1, y2, y4, x2', hcell'⟩
                have hSk : Hid (∀ w', Below wc.drew.heap.size wc.drew w' → (w'.cell? ⟨g, 0, none⟩ = some (.slice q0 n0 c0) ∧ w'.cell? ⟨g, 1, none⟩ = some (.slice q1 n1 c1) ∧ w'.cell? ⟨g, 2, none⟩ = some (.slice q2 n2 c2) ∧ w'.cell? ⟨g, 4, none⟩ = some (.slice (some ad0) 4 co) ∧ w'.cell? ⟨gs, 2, none⟩ = some (.string (fnN f)) ∧ w'.cell? (ad0.add f) = some (.string (st (own f))))) := Lib.hid (fun w' hb => ⟨bl_cell hb hSd.1, bl_cell hb hSd.2.1, bl_cell hb hSd.2.2.1, bl_cell hb hSd.2.2.2.1, bl_cell hb hSd.2.2.2.2.1, bl_cell hb hSd.2.2.2.2.2⟩)
                have hfi := Lib.hid (find_any (.agg #[.slice q0 n0 c0, .slice q1 n1 c1, .slice q2 n2 c2]) bs f hf4 wc.drew (hpc.out.mono (cell_le (Below.refl wc.heap.size wc).drew)))
                have hth : Hid (∀ w', Calls Try.prog 59 #[.string (st es), .string (st (own f))] w' fun e w'' => e = .returned (.string (st (thenL es (own f)))) ∧ Below w'.heap.size w' w'') := Lib.hid (fun w' => refthen_e (m := 3) (Lib.hid rfl) hes hto hm3 w')
                have f1 : (0 : Int) ≤ (f : Int) := by omega
                have f2 : (f : Int) < 4 := by omega
                generalize thenL es (own f) = es2 at *
                clear x3 x4 y3 y5 yz x2 x2' hcell' hfe hfn
                go_upto_region 13 with fail
                go_region_held3 (fun w' => w'.cell? ⟨g, 0, none⟩ = some (.slice q0 n0 c0) ∧ w'.cell? ⟨g, 1, none⟩ = some (.slice q1 n1 c1) ∧ w'.cell? ⟨g, 2, none⟩ = some (.slice q2 n2 c2) ∧ w'.cell? ⟨g, 4, none⟩ = some (.slice (some ad0) 4 co) ∧ w'.cell? ⟨gs, 2, none⟩ = some (.string (fnN f)) ∧ w'.cell? (ad0.add f) = some (.string (st (own f)))) (first | with_reducible exact hSd | exact hSk.out _ hb9.out | exact hSk.out _ hb8.out)
                  (first
                    | (go_at_call 53; (with_reducible refine hfi.out.mono ?_); rintro e w8 ⟨rfl, hb8⟩; replace hb8 := Lib.hid hb8)
                    | (go_at_call 59; (with_reducible refine (hth.out w8).mono ?_); rintro e w9 ⟨rfl, hb9⟩; replace hb9 := Lib.hid (bl_then hb8.out hb8.out.size hb9)))
                all_goals
                  (go_wp2_with fail
                   exact ⟨⟨j + 1, r, es2, v1, n' + 1, xs1, by go_num, rfl, hj', hcr, hrs', Lib.hid hor, Lib.hid (fun s hs => hsi.out s (.inr (.inr (.inr hs)))), hep, hef', Lib.hid (hWc.out.drew.below hb9.out), hnn2.out, Lib.hid (hGc.out.trans (Gr2.of_below (bl_then (Below.refl _ _).drew (Nat.le_refl _) hb9.out) g _))⟩, by simp [intOf]; omega⟩)
              · by_cases h7 : k = 7
                · subst h7
                  have hgn : gs ≠ g := by have := hgs.out; omega
                  have hvn : v1.ownBlock ≠ some gs := fun e => by
                    rcases hWc.out.own.2 with ⟨h1, -⟩ | ⟨g8, cap8, cur8, h1, -, h2, -⟩
                    · rw [h1] at e; cases e
                    · rw [h1] at e
                      simp only [Value.ownBlock, Option.some.injEq] at e
                      subst e
                      rw [hS1.out] at h2
                      cases h2
                  have hef' : Hid (effM most own r (bothL most (effM most own a es) (effM most own b es)) = effM most own t e0) := Lib.hid (by rw [← hef.out, effM]; rfl)
                  have hnn2 : Hid (n' + 1 + ptsN a + ptsN b + ptsN r = n + ptsN t) := Lib.hid (by have h := hnn'.out; simp at h; omega)
                  have hea := Lib.hid (effM_ef (most := most) hown.out a es hes.out)
                  have heb := Lib.hid (effM_ef (most := most) hown.out b es hes.out)
                  have hep := Lib.hid (Ef.both most hea.out heb.out)
                  have hca := Lib.hid (ih'.out a (by omega) w0 wc g (n' + 1) q0 q1 q2 Ao n0 n1 n2 c0 c1 c2 co v1 xs1 A1 q1' es hp'.out hro'.out hco hco2 ra0.out.1 l1 l2 hoa (fun s hs => hsi.out s (.inr (.inl hs))) hB0c.out hg hWc.out (by have := hnn2.out; omega) hes.out)
                  have hcb : Hid (∀ W5 v5 x5, WayS W5 g (.slice q0 n0 c0) (.slice q1 n1 c1) (.slice q2 n2 c2) (.slice Ao 4 co) most T v5 (n' + 1 + ptsN a) x5 → Gr2 wc W5 g v1 v5 → Calls Try.prog 57 #[.pointer (some ⟨g, 0, none⟩), .slice A2 b.len q2', .string (st es)] W5 fun en W' => en = .returned (.string (st (effM most own b es))) ∧ Hid (∃ vL' xs', WayS W' g (.slice q0 n0 c0) (.slice q1 n1 c1) (.slice q2 n2 c2) (.slice Ao 4 co) most T vL' (n' + 1 + ptsN a + ptsN b) xs' ∧ Gr2 W5 W' g v5 vL')) :=
                    Lib.hid (fun W5 v5 x5 h1 h2 => ih'.out b (by omega) w0 W5 g (n' + 1 + ptsN a) q0 q1 q2 Ao n0 n1 n2 c0 c1 c2 co v5 x5 A2 q2' es hp'.out hro'.out hco hco2 ra0.out.2 l3 l4 hob (fun s hs => hsi.out s (.inr (.inr (.inl hs)))) (hB0c.out.trans ((hWc.out.gr2 h2).mono hg)) hg h1 (by have := hnn2.out; omega) hes.out)
                  have hbo : Hid (∀ w', w'.cell? ⟨g, 3, none⟩ = some (.bool most) → Calls Try.prog 58 #[.pointer (some ⟨g, 0, none⟩), .string (st (effM most own a es)), .string (st (effM most own b es))] w' fun e w'' => e = .returned (.string (st (bothL most (effM most own a es) (effM most own b es)))) ∧ Below w'.heap.size w' w'') := Lib.hid (fun w' hm => both_any g most _ _ hea.out heb.out w' hm)
                  generalize effM most own a es = ea at *
                  generalize effM most own b es = eb at *
                  generalize bothL most ea eb = es2 at *
                  clear y0 y1 y2 y3 y4 y5 yz
                  replace hvn := Lib.hid hvn
                  go_wp2_with (first
                    | (go_at_call_of 57 (Value.slice A1 a.len q1'); (with_reducible refine hca.out.mono ?_); rintro e w5 ⟨rfl, h5⟩; obtain ⟨v5, x5, hW5, hG5⟩ := h5.out; replace hW5 := Lib.hid hW5; replace hG5 := Lib.hid hG5; have hg5 := hG5.out.block gs (Array.getElem?_eq_some_iff.1 hS1.out).1 hgn hvn.out; have x4' : w5.cell? ⟨gs, 4, none⟩ = some (.slice A2 b.len q2') := (World.cell?_of_block (a := ⟨gs, 4, none⟩) hg5).trans x4; clear hg5)
                    | (go_at_call_of 57 (Value.slice A2 b.len q2'); (with_reducible refine (hcb.out w5 v5 x5 hW5.out hG5.out).mono ?_); rintro e w6 ⟨rfl, h6⟩; obtain ⟨v6, x6, hW6, hG6⟩ := h6.out; replace hW6 := Lib.hid hW6; replace hG6 := Lib.hid hG6)
                    | (go_at_call 58; (with_reducible refine (hbo.out w6 hW6.out.cells.2.2.2.1).mono ?_); rintro e w7 ⟨rfl, hb7⟩; replace hb7 := Lib.hid hb7))
                  exact ⟨⟨j + 1, r, es2, v6, n' + 1 + ptsN a + ptsN b, x6, by go_num, rfl, hj', hcr, hrs', Lib.hid hor, Lib.hid (fun s hs => hsi.out s (.inr (.inr (.inr hs)))), hep, hef', Lib.hid (hW6.out.below hb7.out), hnn2.out, Lib.hid (((hGc.out.trans hG5.out).trans hG6.out).trans (Gr2.of_below hb7.out g _))⟩, by simp [intOf]; omega⟩
                · by_cases h8 : k = 8
                  · subst h8
                    have hgn : gs ≠ g := by have := hgs.out; omega
                    have hvn : v1.ownBlock ≠ some gs := fun e => by
                      rcases hWc.out.own.2 with ⟨h1, -⟩ | ⟨g8, cap8, cur8, h1, -, h2, -⟩
                      · rw [h1] at e; cases e
                      · rw [h1] at e
                        simp only [Value.ownBlock, Option.some.injEq] at e
                        subst e
                        rw [hS1.out] at h2
                        cases h2
                    obtain ⟨g1, cap1, rfl, hcap1, hgb1⟩ := own_some hWc.out.own (by omega)
                    have hef' : Hid (effM most own r (thenL es (bothL most oneE (effM most own a oneE))) = effM most own t e0) := Lib.hid (by rw [← hef.out, effM]; rfl)
                    have hnn2 : Hid (n' + 1 + ptsN a + ptsN r = n + ptsN t) := Lib.hid (by have h := hnn'.out; simp at h; omega)
                    have hsz : (st es).size = 3 := by rw [st_size]; exact hes.out.2
                    have hal : Hid (∀ w', Calls Try.prog 56 #[.int .i64 ((st es).size : Nat), .int .u8 49] w' fun e w'' => e = .returned (.string (st oneE)) ∧ Below w'.heap.size w' w'') := Lib.hid (fun w' => by rw [hsz]; exact refall_to (n := 3) rfl (by omega) (by omega) (by omega) w')
                    have hea := Lib.hid (effM_ef (most := most) hown.out a oneE oneE_ef)
                    have heb := Lib.hid (Ef.both most oneE_ef hea.out)
                    have hep := Lib.hid (hes.out.tn heb.out)
                    have hth : Hid (∀ w' l, Ef 3 l → Calls Try.prog 59 #[.string (st es), .string (st l)] w' fun e w'' => e = .returned (.string (st (thenL es l))) ∧ Below w'.heap.size w' w'') := Lib.hid (fun w' l hl => refthen_e (m := 3) (Lib.hid rfl) hes (Lib.hid hl) hm3 w')
                    replace hsz := Lib.hid hsz
                    replace hvn := Lib.hid hvn
                    have hSd : wc.drew.cell? ⟨g, 0, none⟩ = some (.slice q0 n0 c0) ∧ wc.drew.cell? ⟨g, 1, none⟩ = some (.slice q1 n1 c1) ∧ wc.drew.cell? ⟨g, 2, none⟩ = some (.slice q2 n2 c2) ∧ wc.drew.cell? ⟨g, 3, none⟩ = some (.bool most) ∧ wc.drew.cell? ⟨g, 4, none⟩ = some (.slice Ao 4 co) := ⟨y0, y1, y2, y3, y4⟩
                    have hSk : Hid (∀ w', Below wc.drew.heap.size wc.drew w' → (w'.cell? ⟨g, 0, none⟩ = some (.slice q0 n0 c0) ∧ w'.cell? ⟨g, 1, none⟩ = some (.slice q1 n1 c1) ∧ w'.cell? ⟨g, 2, none⟩ = some (.slice q2 n2 c2) ∧ w'.cell? ⟨g, 3, none⟩ = some (.bool most) ∧ w'.cell? ⟨g, 4, none⟩ = some (.slice Ao 4 co))) := Lib.hid (fun w' hb => ⟨bl_cell hb hSd.1, bl_cell hb hSd.2.1, bl_cell hb hSd.2.2.1, bl_cell hb hSd.2.2.2.1, bl_cell hb hSd.2.2.2.2⟩)
                    go_upto_region 19 with fail
                    go_region_held3 (fun w' => w'.cell? ⟨g, 0, none⟩ = some (.slice q0 n0 c0) ∧ w'.cell? ⟨g, 1, none⟩ = some (.slice q1 n1 c1) ∧ w'.cell? ⟨g, 2, none⟩ = some (.slice q2 n2 c2) ∧ w'.cell? ⟨g, 3, none⟩ = some (.bool most) ∧ w'.cell? ⟨g, 4, none⟩ = some (.slice Ao 4 co)) (first | with_reducible exact hSd | exact hSk.out _ (bl_alloc (Below.refl _ _) _)) (fail)
                    all_goals
                      (go_upto_region 20 with fail
                       obtain ⟨g2, hg2⟩ : ∃ g2, g2 = wc.heap.size := ⟨_, rfl⟩
                       obtain ⟨Wb, hWb⟩ : ∃ Z, Z = (wc.alloc (Obj.cells #[.slice q0 n0 c0, .slice q1 n1 c1, .slice q2 n2 c2, .bool most, .slice Ao 4 co, .slice none 0 0] 117)).drew := ⟨_, rfl⟩
                       rw [← hWb, ← hg2]
                       have hBb : Hid (Below wc.heap.size wc Wb) := Lib.hid (by rw [hWb]; exact (bl_alloc (Below.refl _ _) _).drew)
                       have hWi : Hid (WayS Wb g2 (.slice q0 n0 c0) (.slice q1 n1 c1) (.slice q2 n2 c2) (.slice Ao 4 co) most T (.slice none 0 0) 0 []) := Lib.hid (by rw [hWb, hg2]; exact (way_new wc _ _ _ _ most T).drew)
                       have hgg : g < g2 := by rw [hg2]; exact hgc
                       have hg1g : g1 < g2 := by rw [hg2]; exact (hWc.out.own.lt g1 rfl).2
                       replace hWb := Lib.hid hWb
                       replace hg2 := Lib.hid hg2
                       have hgs1 : Hid (gs < wc.heap.size) := Lib.hid (Array.getElem?_eq_some_iff.1 hS1.out).1
                       have hca : Hid (∀ W5, Below Wb.heap.size Wb W5 → Calls Try.prog 57 #[.pointer (some ⟨g2, 0, none⟩), .slice A1 a.len q1', .string (st oneE)] W5 fun en W' => en = .returned (.string (st (effM most own a oneE))) ∧ Hid (∃ vL' xs', WayS W' g2 (.slice q0 n0 c0) (.slice q1 n1 c1) (.slice q2 n2 c2) (.slice Ao 4 co) most T vL' (0 + ptsN a) xs' ∧ Gr2 W5 W' g2 (.slice none 0 0) vL')) :=
                         Lib.hid (fun W5 hb => ih'.out a (by omega) w0 W5 g2 0 q0 q1 q2 Ao n0 n1 n2 c0 c1 c2 co (.slice none 0 0) [] A1 q1' oneE hp'.out hro'.out hco hco2 ra0.out.1 l1 l2 hoa (fun s hs => hsi.out s (.inr (.inl hs))) (hB0c.out.trans ((bl_then hBb.out hBb.out.size hb).mono (by have := hg; have := hgc; omega))) (by omega) (hWi.out.below hb) (by have := hnn2.out; omega) oneE_ef)
                       have hbo : Hid (∀ w', w'.cell? ⟨g, 3, none⟩ = some (.bool most) → Calls Try.prog 58 #[.pointer (some ⟨g, 0, none⟩), .string (st oneE), .string (st (effM most own a oneE))] w' fun e w'' => e = .returned (.string (st (bothL most oneE (effM most own a oneE)))) ∧ Below w'.heap.size w' w'') := Lib.hid (fun w' hm => both_any g most _ _ oneE_ef hea.out w' hm)
                       have hth' := Lib.hid (fun w' => hth.out w' _ heb.out)
                       generalize bothL most oneE (effM most own a oneE) = eb at *
                       generalize effM most own a oneE = ea at *
                       generalize oneE = e1 at *
                       generalize thenL es eb = es2 at *
                       have x3' : Wb.cell? ⟨gs, 3, none⟩ = some (.slice A1 a.len q1') := bl_cell hBb.out x3
                       clear x3 x4 y0 y1 y2 y3 y4 y5 yz x0 x2
                       go_upto_region 22 with (first
                         | (go_at_call 56; (with_reducible refine (hal.out Wb).mono ?_); rintro e w5 ⟨rfl, hb5⟩; have x3'' := bl_cell hb5 x3'; replace hb5 := Lib.hid hb5)
                         | (go_at_call 57; (with_reducible refine (hca.out w5 hb5.out).mono ?_); rintro e w6 ⟨rfl, h6⟩; obtain ⟨v6, xs6, hW6, hG6⟩ := h6.out; have hB6 : Hid (Below g2 wc w6) := Lib.hid (by have h := (hWi.out.below hb5.out).gr2 hG6; rw [hg2.out] at h ⊢; exact (bl_then hBb.out hBb.out.size hb5.out).trans h); have hWo6 := Lib.hid (hWc.out.below (by have h := hB6.out; rw [hg2.out] at h; exact h)); replace hW6 := Lib.hid hW6; replace hG6 := Lib.hid hG6)
                         | (go_at_call 58; (with_reducible refine (hbo.out w6 hWo6.out.cells.2.2.2.1).mono ?_); rintro e w7 ⟨rfl, hb7⟩; replace hb7 := Lib.hid hb7)
                         | (go_at_call 59; (with_reducible refine (hth'.out w7).mono ?_); rintro e w8 ⟨rfl, hb8⟩; replace hb8 := Lib.hid (bl_then hb7.out hb7.out.size hb8)))
                       have hW8 := Lib.hid (hWo6.out.below hb8.out)
                       have hI8 := Lib.hid (hW6.out.below hb8.out)
                       obtain ⟨-, -, -, -, -, y5, -⟩ := hW8.out.cells
                       obtain ⟨z6, z7⟩ : (∃ v, w8.cell? ⟨g1, n' * 7 + 6, none⟩ = some v) ∧ w8.frozen? ⟨g1, n' * 7 + 6, none⟩ = false := own_cell hW8.out.own (n' * 7 + 6) (by omega)
                       obtain ⟨v9, z6⟩ := z6
                       have i1 : (0 : Int) ≤ (n' : Int) := by omega
                       have i2 : (n' : Int) < (n' : Int) + 1 := by omega
                       go_upto_region 23 with fail
                       obtain ⟨W9, hW9⟩ : ∃ Z, Z = w8.setCell ⟨g1, n' * 7 + 6, none⟩ (.string (st es2)) := ⟨_, rfl⟩
                       rw [← hW9]
                       obtain ⟨hs9, hG9⟩ := hW8.out.setE (at_ := n') (by omega) hep.out
                       rw [← hW9] at hs9 hG9
                       have hI9 := hI8.out.kept2 hG9 (by omega) (fun e => by simp only [Value.ownBlock, Option.some.injEq] at e; omega) (fun b hb => by have h := (hI8.out.own.lt b hb).1; refine ⟨by omega, fun e => ?_⟩; simp only [Value.ownBlock, Option.some.injEq] at e; omega)
                       rw [Nat.zero_add] at hI9
                       have hG9' : Hid (Gr2 W0 W9 g vL (.slice (some ⟨g1, 0, none⟩) (n' + 1) cap1)) := Lib.hid ((hGc.out.trans (Gr2.of_below (bl_then (by have h := hB6.out; rw [hg2.out] at h; exact h) hB6.out.size hb8.out) g _)).trans hG9)
                       obtain ⟨A6, c6, rfl, n6, m6, -, a6⟩ := Rd.own hI9.own
                       obtain ⟨np, hnp⟩ : ∃ np, np = ptsN a := ⟨_, rfl⟩
                       rw [← hnp] at hI9 hnn2 n6
                       replace hnp := Lib.hid hnp
                       replace hW9 := Lib.hid hW9
                       replace hs9 := Lib.hid hs9
                       replace hI9 := Lib.hid hI9
                       replace hG9 := Lib.hid hG9
                       have hg69 : Hid (∀ b, (Value.slice A6 np c6).ownBlock = some b → b ≠ g ∧ (Value.slice (some ⟨g1, 0, none⟩) (n' + 1) cap1).ownBlock ≠ some b) := Lib.hid (fun b hb => by have h := (hI9.out.own.lt b hb).1; refine ⟨by omega, fun e => ?_⟩; simp only [Value.ownBlock, Option.some.injEq] at e; omega)
                       have hth9 : Hid (∀ w' l, Ef 3 l → Calls Try.prog 59 #[.string (st es2), .string (st l)] w' fun e w'' => e = .returned (.string (st (thenL es2 l))) ∧ Below w'.heap.size w' w'') := Lib.hid (fun w' l hl => refthen_e (m := 3) (Lib.hid rfl) hep (Lib.hid hl) hm3 w')
                       clear y5 z6 z7 hal hca hbo hth hth' hSk hSd i1 i2 x3' x3'' a6
                       go_wp2_with fail
                       go_loopw [14] (fun i w2 => ∃ (k9 : Nat) (v9 : Value) (x9 : List Value), i = .int .i64 (k9 : Nat) ∧ k9 ≤ np ∧ Hid (WayS w2 g (.slice q0 n0 c0) (.slice q1 n1 c1) (.slice q2 n2 c2) (.slice Ao 4 co) most T v9 (n' + 1 + k9) x9) ∧ Hid (Gr2 W9 w2 g (.slice (some ⟨g1, 0, none⟩) (n' + 1) cap1) v9)) (fun i _ => np - (intOf i).toNat)
                       case atStart => exact ⟨0, _, _, rfl, Nat.zero_le _, hs9, Lib.hid (Gr2.refl _ _ _)⟩
                       case round =>
                         obtain ⟨wq, rfl⟩ : ∃ x, x = wr := ⟨_, rfl⟩
                         obtain ⟨k9, v9, x9, rfl, hk9, hW2, hG2⟩ := hrel
                         have hIq := Lib.hid (hI9.out.kept2 hG2.out (by omega) (fun e => by simp only [Value.ownBlock, Option.some.injEq] at e; omega) hg69.out)
                         obtain ⟨-, -, -, -, -, yi5, -⟩ := hIq.out.cells
                         by_cases hlt : k9 < np
                         · have d1 : decide ((k9 : Int) < (np : Int)) = true := by simp; omega
                           have j1 : (0 : Int) ≤ (k9 : Int) := by omega
                           have j2 : (k9 : Int) < (np : Int) := by omega
                           obtain ⟨g6, cap6, he6, hc6, hb6⟩ := own_some hIq.out.own (by omega)
                           cases he6
                           obtain ⟨pk, px, pnm, pva, pvb, pE, e0', e1', e2', e3', e4', -, e6', hpE, hpn, hpk, hpa, hpb⟩ := hIq.out.pts k9 hlt
                           have z0 := own_at hIq.out.own _ e0'
                           have z1 := own_at hIq.out.own _ e1'
                           have z2 := own_at hIq.out.own _ e2'
                           have z3 := own_at hIq.out.own _ e3'
                           have z4 := own_at hIq.out.own _ e4'
                           have z6 := own_at hIq.out.own _ e6'
                           clear e0' e1' e2' e3' e4' e6'
                           replace hpE := Lib.hid hpE
                           replace hpk := Lib.hid hpk
                           have hpo : Hid (pva.oneCell' = true ∧ pvb.oneCell' = true) := Lib.hid ⟨hpa, hpb⟩
                           clear hpa hpb
                           obtain ⟨N, hN⟩ : ∃ N, N = n' + 1 + k9 := ⟨_, rfl⟩
                           rw [← hN] at hW2
                           have hNb : N + 1 ≤ 1000 := by have := hnn2.out; omega
                           replace hN := Lib.hid hN
                           obtain ⟨gq, cq, rfl, hcq, hbq⟩ := own_some hW2.out.own (by have := hN.out; omega)
                           obtain ⟨-, -, -, -, -, y5, yz⟩ := hW2.out.cells
                           have y5z := yz 5
                           clear yz
                           have hgq : g < wq.heap.size := (Array.getElem?_eq_some_iff.1 hW2.out.bx).1
                           have hct : Hid (∀ w', Calls Try.prog 59 #[.string (st es2), .string (st pE)] w' fun e w'' => e = .returned (.string (st (thenL es2 pE))) ∧ Below w'.heap.size w' w'') := Lib.hid (fun w' => hth9.out w' _ hpE.out)
                           have hep2 : Hid (Ef 3 (thenL es2 pE)) := Lib.hid (hep.out.tn hpE.out)
                           generalize thenL es2 pE = e3 at *
                           have hq2z : g2 < wq.heap.size := (Array.getElem?_eq_some_iff.1 hIq.out.bx).1
                           have hq6z : g6 < wq.heap.size := (hIq.out.own.lt g6 rfl).2
                           have hq69 : g6 < W9.heap.size := (hI9.out.own.lt g6 rfl).2
                           have hq29 : g2 < W9.heap.size := (Array.getElem?_eq_some_iff.1 hI9.out.bx).1
                           have hqg : g ≠ gq := by omega
                           obtain ⟨hq2, hq6⟩ : g2 ≠ gq ∧ g6 ≠ gq := by
                             rcases hG2.out.at_ with e | ⟨b, e, hb⟩
                             · simp only [Value.ownBlock, Option.some.injEq] at e
                               have h6 := (hg69.out g6 rfl).2
                               simp only [Value.ownBlock, ne_eq, Option.some.injEq] at h6
                               omega
                             · simp only [Value.ownBlock, Option.some.injEq] at e
                               omega
                           have hSd : wq.drew.cell? ⟨g, 5, none⟩ = some (.slice (some ⟨gq, 0, none⟩) N cq) ∧ wq.drew.cell? ⟨g2, 5, none⟩ = some (.slice (some ⟨g6, 0, none⟩) np c6) ∧ wq.drew.cell? ⟨g6, k9 * 7, none⟩ = some (.int .i64 pk) ∧ wq.drew.cell? ⟨g6, k9 * 7 + 1, none⟩ = some (.int .i64 px) ∧ wq.drew.cell? ⟨g6, k9 * 7 + 2, none⟩ = some (.string pnm) ∧ wq.drew.cell? ⟨g6, k9 * 7 + 3, none⟩ = some pva ∧ wq.drew.cell? ⟨g6, k9 * 7 + 4, none⟩ = some pvb ∧ wq.drew.cell? ⟨g6, k9 * 7 + 6, none⟩ = some (.string (st pE)) := ⟨y5, yi5, z0, z1, z2, z3, z4, z6⟩
                           have hSk : Hid (∀ w', Below wq.heap.size wq w' → (w'.cell? ⟨g, 5, none⟩ = some (.slice (some ⟨gq, 0, none⟩) N cq) ∧ w'.cell? ⟨g2, 5, none⟩ = some (.slice (some ⟨g6, 0, none⟩) np c6) ∧ w'.cell? ⟨g6, k9 * 7, none⟩ = some (.int .i64 pk) ∧ w'.cell? ⟨g6, k9 * 7 + 1, none⟩ = some (.int .i64 px) ∧ w'.cell? ⟨g6, k9 * 7 + 2, none⟩ = some (.string pnm) ∧ w'.cell? ⟨g6, k9 * 7 + 3, none⟩ = some pva ∧ w'.cell? ⟨g6, k9 * 7 + 4, none⟩ = some pvb ∧ w'.cell? ⟨g6, k9 * 7 + 6, none⟩ = some (.string (st pE)))) := Lib.hid (fun w' hb => ⟨bl_cell hb y5, bl_cell hb yi5, bl_cell hb z0, bl_cell hb z1, bl_cell hb z2, bl_cell hb z3, bl_cell hb z4, bl_cell hb z6⟩)
                           clear y5 z0 z1 z2 z3 z4 z6
                           go_upto_region 26 with fail
                           clear yi5
                           refine wp_region_F (fun w' => w'.cell? ⟨g, 5, none⟩ = some (.slice (some ⟨gq, 0, none⟩) N cq) ∧ w'.cell? ⟨g2, 5, none⟩ = some (.slice (some ⟨g6, 0, none⟩) np c6) ∧ w'.cell? ⟨g6, k9 * 7, none⟩ = some (.int .i64 pk) ∧ w'.cell? ⟨g6, k9 * 7 + 1, none⟩ = some (.int .i64 px) ∧ w'.cell? ⟨g6, k9 * 7 + 2, none⟩ = some (.string pnm) ∧ w'.cell? ⟨g6, k9 * 7 + 3, none⟩ = some pva ∧ w'.cell? ⟨g6, k9 * 7 + 4, none⟩ = some pvb ∧ w'.cell? ⟨g6, k9 * 7 + 6, none⟩ = some (.string (st pE))) 33 (by kernel_rfl) (by (try dsimp only); first | with_reducible exact hSd | exact hSk.out _ hb10.out | exact hSk.out _ (bl_alloc hb10.out _) | with_reducible exact hSw) (fun hHeld => ?_)
                           refine wpAnyF_take (i := 0) (oi := _) (v := ?v26_0) rfl (by kernel_rfl) (by kernel_rfl) (by kernel_rfl) (by kernel_rfl) (fun _ _ _ h => h) (Or.inl ⟨by rfl, ?hy26_0⟩) (by assumption) ?rest26_0
                           case hy26_0 => (intro w hSw; (try dsimp only at hSw); go_split_ands; go_simp; (try with_reducible rfl))
                           try simp only [Act.put, List.setIfInBounds_toArray, List.set_cons_zero, List.set_cons_succ]
                           refine wpAnyF_take (i := 1) (oi := _) (v := ?v26_1) rfl (by kernel_rfl) (by kernel_rfl) (by kernel_rfl) (by kernel_rfl) (fun _ _ _ h => h) (Or.inl ⟨by rfl, ?hy26_1⟩) (by assumption) ?rest26_1
                           case hy26_1 => (intro w hSw; (try dsimp only at hSw); go_split_ands; go_simp; (try with_reducible rfl))
                           try simp only [Act.put, List.setIfInBounds_toArray, List.set_cons_zero, List.set_cons_succ]
                           refine wpAnyF_take (i := 2) (oi := _) (v := ?v26_2) rfl (by kernel_rfl) (by kernel_rfl) (by kernel_rfl) (by kernel_rfl) (fun _ _ _ h => h) (Or.inl ⟨by rfl, ?hy26_2⟩) (by assumption) ?rest26_2
                           case hy26_2 => (intro w hSw; (try dsimp only at hSw); go_split_ands; go_simp; (try with_reducible rfl))
                           try simp only [Act.put, List.setIfInBounds_toArray, List.set_cons_zero, List.set_cons_succ]
                           refine wpAnyF_take (i := 3) (oi := _) (v := ?v26_3) rfl (by kernel_rfl) (by kernel_rfl) (by kernel_rfl) (by kernel_rfl) (fun _ _ _ h => h) (Or.inl ⟨by rfl, ?hy26_3⟩) (by assumption) ?rest26_3
                           case hy26_3 => (intro w hSw; (try dsimp only at hSw); go_split_ands; go_simp; (try with_reducible rfl))
                           try simp only [Act.put, List.setIfInBounds_toArray, List.set_cons_zero, List.set_cons_succ]
                           refine wpAnyF_take (i := 4) (oi := _) (v := ?v26_4) rfl (by kernel_rfl) (by kernel_rfl) (by kernel_rfl) (by kernel_rfl) (fun _ _ _ h => h) (Or.inl ⟨by rfl, ?hy26_4⟩) (by assumption) ?rest26_4
                           case hy26_4 => (intro w hSw; (try dsimp only at hSw); go_split_ands; go_simp; (try with_reducible rfl))
                           try simp only [Act.put, List.setIfInBounds_toArray, List.set_cons_zero, List.set_cons_succ]
                           refine wpAnyF_take (i := 5) (oi := _) (v := ?v26_5) rfl (by kernel_rfl) (by kernel_rfl) (by kernel_rfl) (by kernel_rfl) (fun _ _ _ h => h) (Or.inl ⟨by rfl, ?hy26_5⟩) (by assumption) ?rest26_5
                           case hy26_5 => (intro w hSw; (try dsimp only at hSw); go_split_ands; go_simp; (try with_reducible rfl))
                           try simp only [Act.put, List.setIfInBounds_toArray, List.set_cons_zero, List.set_cons_succ]
                           refine wpAnyF_take (i := 6) (oi := _) (v := ?v26_6) rfl (by kernel_rfl) (by kernel_rfl) (by kernel_rfl) (by kernel_rfl) (fun _ _ _ h => h) (Or.inl ⟨by rfl, ?hy26_6⟩) (by assumption) ?rest26_6
                           case hy26_6 => (intro w hSw; (try dsimp only at hSw); go_split_ands; go_simp; (try with_reducible rfl))
                           try simp only [Act.put, List.setIfInBounds_toArray, List.set_cons_zero, List.set_cons_succ]
                           refine wpAnyF_take (i := 7) (oi := _) (v := ?v26_7) rfl (by kernel_rfl) (by kernel_rfl) (by kernel_rfl) (by kernel_rfl) (fun _ _ _ h => h) (Or.inl ⟨by rfl, ?hy26_7⟩) (by assumption) ?rest26_7
                           case hy26_7 => (intro w hSw; (try dsimp only at hSw); go_split_ands; go_simp; (try with_reducible rfl))
                           try simp only [Act.put, List.setIfInBounds_toArray, List.set_cons_zero, List.set_cons_succ]
                           refine wpAnyF_take (i := 8) (oi := _) (v := ?v26_8) rfl (by kernel_rfl) (by kernel_rfl) (by kernel_rfl) (by kernel_rfl) (fun _ _ _ h => h) (Or.inl ⟨by rfl, ?hy26_8⟩) (by assumption) ?rest26_8
                           case hy26_8 => (intro w hSw; (try dsimp only at hSw); go_split_ands; go_simp; (try with_reducible rfl))
                           try simp only [Act.put, List.setIfInBounds_toArray, List.set_cons_zero, List.set_cons_succ]
                           refine wpAnyF_take (i := 9) (oi := _) (v := ?v26_9) rfl (by kernel_rfl) (by kernel_rfl) (by kernel_rfl) (by kernel_rfl) (fun _ _ _ h => h) (Or.inl ⟨by rfl, ?hy26_9⟩) (by assumption) ?rest26_9
                           case hy26_9 => (intro w hSw; (try dsimp only at hSw); go_split_ands; go_simp; (try with_reducible rfl))
                           try simp only [Act.put, List.setIfInBounds_toArray, List.set_cons_zero, List.set_cons_succ]
                           refine wpAnyF_take (i := 10) (oi := _) (v := ?v26_10) rfl (by kernel_rfl) (by kernel_rfl) (by kernel_rfl) (by kernel_rfl) (fun _ _ _ h => h) (Or.inl ⟨by rfl, ?hy26_10⟩) (by assumption) ?rest26_10
                           case hy26_10 => (intro w hSw; (try dsimp only at hSw); go_split_ands; go_simp; (try with_reducible rfl))
                           try simp only [Act.put, List.setIfInBounds_toArray, List.set_cons_zero, List.set_cons_succ]
                           refine wpAnyF_take (i := 11) (oi := _) (v := ?v26_11) rfl (by kernel_rfl) (by kernel_rfl) (by kernel_rfl) (by kernel_rfl) (fun _ _ _ h => h) (Or.inl ⟨by rfl, ?hy26_11⟩) (by assumption) ?rest26_11
                           case hy26_11 => (intro w hSw; (try dsimp only at hSw); go_split_ands; go_simp; (try with_reducible rfl))
                           try simp only [Act.put, List.setIfInBounds_toArray, List.set_cons_zero, List.set_cons_succ]
                           refine wpAnyF_take (i := 12) (oi := _) (v := ?v26_12) rfl (by kernel_rfl) (by kernel_rfl) (by kernel_rfl) (by kernel_rfl) (fun _ _ _ h => h) (Or.inl ⟨by rfl, ?hy26_12⟩) (by assumption) ?rest26_12
                           case hy26_12 => (intro w hSw; (try dsimp only at hSw); go_split_ands; go_simp; (try with_reducible rfl))
                           try simp only [Act.put, List.setIfInBounds_toArray, List.set_cons_zero, List.set_cons_succ]
                           refine wpAnyF_take (i := 13) (oi := _) (v := ?v26_13) rfl (by kernel_rfl) (by kernel_rfl) (by kernel_rfl) (by kernel_rfl) (fun _ _ _ h => h) (Or.inl ⟨by rfl, ?hy26_13⟩) (by assumption) ?rest26_13
                           case hy26_13 => (intro w hSw; (try dsimp only at hSw); go_split_ands; go_simp; (try with_reducible rfl))
                           try simp only [Act.put, List.setIfInBounds_toArray, List.set_cons_zero, List.set_cons_succ]
                           refine wpAnyF_take (i := 14) (oi := _) (v := ?v26_14) rfl (by kernel_rfl) (by kernel_rfl) (by kernel_rfl) (by kernel_rfl) (fun _ _ _ h => h) (Or.inl ⟨by rfl, ?hy26_14⟩) (by assumption) ?rest26_14
                           case hy26_14 => (intro w hSw; (try dsimp only at hSw); go_split_ands; go_simp; (try with_reducible rfl))
                           try simp only [Act.put, List.setIfInBounds_toArray, List.set_cons_zero, List.set_cons_succ]
                           refine wpAnyF_take (i := 15) (oi := _) (v := ?v26_15) rfl (by kernel_rfl) (by kernel_rfl) (by kernel_rfl) (by kernel_rfl) (fun _ _ _ h => h) (Or.inl ⟨by rfl, ?hy26_15⟩) (by assumption) ?rest26_15
                           case hy26_15 => (intro w hSw; (try dsimp only at hSw); go_split_ands; go_simp; (try with_reducible rfl))
                           try simp only [Act.put, List.setIfInBounds_toArray, List.set_cons_zero, List.set_cons_succ]
                           refine wpAnyF_take (i := 16) (oi := _) (v := ?v26_16) rfl (by kernel_rfl) (by kernel_rfl) (by kernel_rfl) (by kernel_rfl) (fun _ _ _ h => h) (Or.inl ⟨by rfl, ?hy26_16⟩) (by assumption) ?rest26_16
                           case hy26_16 => (intro w hSw; (try dsimp only at hSw); go_split_ands; go_simp; (try with_reducible rfl))
                           try simp only [Act.put, List.setIfInBounds_toArray, List.set_cons_zero, List.set_cons_succ]
                           refine wpAnyF_take (i := 17) (oi := _) (v := ?v26_17) rfl (by kernel_rfl) (by kernel_rfl) (by kernel_rfl) (by kernel_rfl) (fun _ _ _ h => h) (Or.inl ⟨by rfl, ?hy26_17⟩) (by assumption) ?rest26_17
                           case hy26_17 => (intro w hSw; (try dsimp only at hSw); go_split_ands; go_simp; (try with_reducible rfl))
                           try simp only [Act.put, List.setIfInBounds_toArray, List.set_cons_zero, List.set_cons_succ]
                           refine wpAnyF_take (i := 18) (oi := _) (v := ?v26_18) rfl (by kernel_rfl) (by kernel_rfl) (by kernel_rfl) (by kernel_rfl) (fun _ _ _ h => h) (Or.inl ⟨by rfl, ?hy26_18⟩) (by assumption) ?rest26_18
                           case hy26_18 => (intro w hSw; (try dsimp only at hSw); go_split_ands; go_simp; (try with_reducible rfl))
                           try simp only [Act.put, List.setIfInBounds_toArray, List.set_cons_zero, List.set_cons_succ]
                           refine wpAnyF_take (i := 19) (oi := _) (v := ?v26_19) rfl (by kernel_rfl) (by kernel_rfl) (by kernel_rfl) (by kernel_rfl) (fun _ _ _ h => h) (Or.inl ⟨by rfl, ?hy26_19⟩) (by assumption) ?rest26_19
                           case hy26_19 => (intro w hSw; (try dsimp only at hSw); go_split_ands; go_simp; (try with_reducible rfl))
                           try simp only [Act.put, List.setIfInBounds_toArray, List.set_cons_zero, List.set_cons_succ]
                           refine wpAnyF_take (i := 20) (oi := _) (v := ?v26_20) rfl (by kernel_rfl) (by kernel_rfl) (by kernel_rfl) (by kernel_rfl) (fun _ _ _ h => h) (Or.inl ⟨by rfl, ?hy26_20⟩) (by assumption) ?rest26_20
                           case hy26_20 => (intro w hSw; (try dsimp only at hSw); go_split_ands; go_simp; (try with_reducible rfl))
                           try simp only [Act.put, List.setIfInBounds_toArray, List.set_cons_zero, List.set_cons_succ]
                           refine wpAnyF_take (i := 21) (oi := _) (v := ?v26_21) rfl (by kernel_rfl) (by kernel_rfl) (by kernel_rfl) (by kernel_rfl) (fun _ _ _ h => h) (Or.inl ⟨by rfl, ?hy26_21⟩) (by assumption) ?rest26_21
                           case hy26_21 => (intro w hSw; (try dsimp only at hSw); go_split_ands; go_simp; (try with_reducible rfl))
                           try simp only [Act.put, List.setIfInBounds_toArray, List.set_cons_zero, List.set_cons_succ]
                           refine wpAnyF_take (i := 22) (oi := _) (v := ?v26_22) rfl (by kernel_rfl) (by kernel_rfl) (by kernel_rfl) (by kernel_rfl) (fun _ _ _ h => h) (Or.inl ⟨by rfl, ?hy26_22⟩) (by assumption) ?rest26_22
                           case hy26_22 => (intro w hSw; (try dsimp only at hSw); go_split_ands; go_simp; (try with_reducible rfl))
                           try simp only [Act.put, List.setIfInBounds_toArray, List.set_cons_zero, List.set_cons_succ]
                           refine wpAnyF_take (i := 23) (oi := _) (v := ?v26_23) rfl (by kernel_rfl) (by kernel_rfl) (by kernel_rfl) (by kernel_rfl) (fun _ _ _ h => h) (Or.inl ⟨by rfl, ?hy26_23⟩) (by assumption) ?rest26_23
                           case hy26_23 => (intro w hSw; (try dsimp only at hSw); go_split_ands; go_simp; (try with_reducible rfl))
                           try simp only [Act.put, List.setIfInBounds_toArray, List.set_cons_zero, List.set_cons_succ]
                           refine wpAnyF_take (i := 24) (oi := _) (v := ?v26_24) rfl (by kernel_rfl) (by kernel_rfl) (by kernel_rfl) (by kernel_rfl) (fun _ _ _ h => h) (Or.inl ⟨by rfl, ?hy26_24⟩) (by assumption) ?rest26_24
                           case hy26_24 => (intro w hSw; (try dsimp only at hSw); go_split_ands; go_simp; (try with_reducible rfl))
                           try simp only [Act.put, List.setIfInBounds_toArray, List.set_cons_zero, List.set_cons_succ]
                           refine wpAnyF_take (i := 25) (oi := _) (v := ?v26_25) rfl (by kernel_rfl) (by kernel_rfl) (by kernel_rfl) (by kernel_rfl) (fun _ _ _ h => h) (Or.inl ⟨by rfl, ?hy26_25⟩) (by assumption) ?rest26_25
                           case hy26_25 => (intro w hSw; (try dsimp only at hSw); go_split_ands; go_simp; (try with_reducible rfl))
                           try simp only [Act.put, List.setIfInBounds_toArray, List.set_cons_zero, List.set_cons_succ]
                           refine wpAnyF_take (i := 26) (oi := _) (v := ?v26_26) rfl (by kernel_rfl) (by kernel_rfl) (by kernel_rfl) (by kernel_rfl) (fun _ _ _ h => h) (Or.inl ⟨by rfl, ?hy26_26⟩) (by assumption) ?rest26_26
                           case hy26_26 => (intro w hSw; (try dsimp only at hSw); go_split_ands; go_simp; (try with_reducible rfl))
                           try simp only [Act.put, List.setIfInBounds_toArray, List.set_cons_zero, List.set_cons_succ]
                           refine wpAnyF_step (i := 27) (by kernel_rfl) rfl (by rfl) (fun K hK => ?_)
                           (go_simp; go_wp2_with (go_at_call 59; (with_reducible refine (hct.out _).mono ?_); rintro e w10 ⟨rfl, hb10⟩; replace hb10 := Lib.hid (bl_then (Below.refl wq.heap.size wq).drew (Nat.le_refl _) hb10)))
                           refine hK.out _ _ (by (try dsimp only); first | with_reducible exact hSd | exact hSk.out _ hb10.out | exact hSk.out _ (bl_alloc hb10.out _) | with_reducible exact hSw) (fun hHeld => ?_)
                           clear hK K
                           try simp only [Act.put, List.setIfInBounds_toArray, List.set_cons_zero, List.set_cons_succ]
                           refine wpAnyF_take (i := 28) (oi := _) (v := ?v26_28) rfl (by kernel_rfl) (by kernel_rfl) (by kernel_rfl) (by kernel_rfl) (fun _ _ _ h => h) (Or.inl ⟨by rfl, ?hy26_28⟩) (by assumption) ?rest26_28
                           case hy26_28 => (intro w hSw; (try dsimp only at hSw); go_split_ands; go_simp; (try with_reducible rfl))
                           try simp only [Act.put, List.setIfInBounds_toArray, List.set_cons_zero, List.set_cons_succ]
                           refine wpAnyF_step (i := 29) (by kernel_rfl) rfl (by rfl) (fun K hK => ?_)
                           go_simp
                           refine hK.out _ _ (by (try dsimp only); first | with_reducible exact hSd | exact hSk.out _ hb10.out | exact hSk.out _ (bl_alloc hb10.out _) | with_reducible exact hSw) (fun hHeld => ?_)
                           clear hK K
                           try simp only [Act.put, List.setIfInBounds_toArray, List.set_cons_zero, List.set_cons_succ]
                           refine wpAnyF_step (i := 30) (by kernel_rfl) rfl (by rfl) (fun K hK => ?_)
                           refine step_app (g + 1) rfl _ _ 115 120 (.agg #[.int .i64 0, .int .i64 0, .string ⟨#[]⟩, .slice none 0 0, .slice none 0 0, .int .i64 0, .string ⟨#[]⟩]) 7 104 rfl Try.underlying115 info120 rfl (by decide) (by decide) (.slice (some ⟨gq, 0, none⟩) N cq) N x9 rfl (own_below hW2.out.own (bl_alloc hb10.out _)) (by rw [World.size_alloc]; have := hb10.out.size; omega) (some ⟨w10.heap.size, 0, none⟩) 1 1 [.int .i64 pk, .int .i64 px, .string pnm, pva, pvb, .int .i64 (N : Nat), .string (st e3)] rfl rfl (rd_new w10 [.int .i64 pk, .int .i64 px, .string pnm, pva, pvb, .int .i64 (N : Nat), .string (st e3)] 120) (fun e => by cases e) (pt_one hpo.out.1 hpo.out.2) (by omega) ?_
                           intro v1 w1 ho1 hb1 hg1 hat1
                           obtain ⟨gr, cr, rfl, hcr1, hgr1⟩ := own_some ho1 (by omega)
                           have hWW := hW2.out.below (bl_alloc hb10.out (.cells [.int .i64 pk, .int .i64 px, .string pnm, pva, pvb, .int .i64 (N : Nat), .string (st e3)].toArray 120))
                           have hge := Lib.hid (hWW.grow ho1 (hWW.pts.snoc hWW.own.1 hep2.out hpn hpk.out hpo.out.1 hpo.out.2) hg1)
                           have hwz : wq.heap.size < (w10.alloc (.cells [.int .i64 pk, .int .i64 px, .string pnm, pva, pvb, .int .i64 (N : Nat), .string (st e3)].toArray 120)).heap.size := by have := hb10.out.size; rw [World.size_alloc]; omega
                           have hk2 : w1.heap[g]? = _ := (hg1.block g (by omega) (fun e => by have := (hWW.own.lt _ e.symm).1; omega)).trans hWW.bx
                           have hS1' := hSk.out _ (bl_alloc hb10.out (.cells [.int .i64 pk, .int .i64 px, .string pnm, pva, pvb, .int .i64 (N : Nat), .string (st e3)].toArray 120))
                           have hkb : ∀ b, b < wq.heap.size → b ≠ gq → ∀ o, w1.cell? ⟨b, o, none⟩ = (w10.alloc (.cells [.int .i64 pk, .int .i64 px, .string pnm, pva, pvb, .int .i64 (N : Nat), .string (st e3)].toArray 120)).cell? ⟨b, o, none⟩ := fun b hb hne o => World.cell?_of_block (a := ⟨b, o, none⟩) (hg1.block b (by omega) (fun e => hne (by simpa [Value.ownBlock] using e)))
                           have hSw : w1.cell? ⟨g, 5, none⟩ = some (.slice (some ⟨gq, 0, none⟩) N cq) ∧ w1.cell? ⟨g2, 5, none⟩ = some (.slice (some ⟨g6, 0, none⟩) np c6) ∧ w1.cell? ⟨g6, k9 * 7, none⟩ = some (.int .i64 pk) ∧ w1.cell? ⟨g6, k9 * 7 + 1, none⟩ = some (.int .i64 px) ∧ w1.cell? ⟨g6, k9 * 7 + 2, none⟩ = some (.string pnm) ∧ w1.cell? ⟨g6, k9 * 7 + 3, none⟩ = some pva ∧ w1.cell? ⟨g6, k9 * 7 + 4, none⟩ = some pvb ∧ w1.cell? ⟨g6, k9 * 7 + 6, none⟩ = some (.string (st pE)) := by
                             rw [hkb g hgq hqg, hkb g2 hq2z hq2, hkb g6 hq6z hq6, hkb g6 hq6z hq6, hkb g6 hq6z hq6, hkb g6 hq6z hq6, hkb g6 hq6z hq6, hkb g6 hq6z hq6]; exact hS1'
                           have v5 : w1.frozen? ⟨g, 5, none⟩ = false := by simp [World.frozen?, hk2]
                           clear hWW hkb hS1'
                           replace hk2 := Lib.hid hk2; replace ho1 := Lib.hid ho1; replace hb1 := Lib.hid hb1; replace hg1 := Lib.hid hg1; replace hat1 := Lib.hid hat1
                           refine hK.out _ _ (by (try dsimp only); first | with_reducible exact hSd | exact hSk.out _ hb10.out | exact hSk.out _ (bl_alloc hb10.out _) | with_reducible exact hSw) (fun hHeld => ?_)
                           clear hK K
                           try simp only [Act.put, List.setIfInBounds_toArray, List.set_cons_zero, List.set_cons_succ]
                           refine wpAnyF_step (i := 31) (by kernel_rfl) rfl (by rfl) (fun K hK => ?_)
                           go_simp
                           refine hK.out _ _ (by (try dsimp only); first | with_reducible exact hSd | exact hSk.out _ hb10.out | exact hSk.out _ (bl_alloc hb10.out _) | with_reducible exact hSw) (fun hHeld => ?_)
                           clear hK K
                           try simp only [Act.put, List.setIfInBounds_toArray, List.set_cons_zero, List.set_cons_succ]
                           refine wpAnyF_take (i := 32) (oi := _) (v := ?v26_32) rfl (by kernel_rfl) (by kernel_rfl) (by kernel_rfl) (by kernel_rfl) (fun _ _ _ h => h) (Or.inl ⟨by rfl, ?hy26_32⟩) (by assumption) ?rest26_32
                           case hy26_32 => (intro w hSw; (try dsimp only at hSw); go_split_ands; go_simp; (try with_reducible rfl))
                           try simp only [Act.put, List.setIfInBounds_toArray, List.set_cons_zero, List.set_cons_succ]
                           refine wpAnyF_last (by kernel_rfl) rfl (fun K hK => ?_)
                           go_simp
                           refine hK.out _ _ ?_
                           clear hK K
                           try simp only [Act.put, List.setIfInBounds_toArray, List.set_cons_zero, List.set_cons_succ]
                           refine wpAnyF_done (by kernel_rfl) ?_ _
                           clear hHeld
                           go_wp2_with fail
                           have hGx : Gr2 W9 _ g (.slice (some ⟨g1, 0, none⟩) (n' + 1) cap1) (.slice (some ⟨gr, 0, none⟩) (N + 1) cr) := ((hG2.out.trans (Gr2.of_below (bl_alloc hb10.out _) g _)).trans (Gr2.of_grown hg1.out hat1.out)).trans (Gr2.of_row hge.out.2 _)
                           have hNk : N + 1 = n' + 1 + (k9 + 1) := by have := hN.out; omega
                           exact ⟨⟨k9 + 1, .slice (some ⟨gr, 0, none⟩) (N + 1) cr, _, by go_num, by omega, Lib.hid (by rw [← hNk]; exact hge.out.1), Lib.hid hGx⟩, by simp [intOf]; omega⟩
                         · have hkn : k9 = np := by omega
                           subst hkn
                           have d1 : decide ((k9 : Int) < (k9 : Int)) = false := by simp
                           go_wp2_with fail
                           exact ⟨⟨j + 1, r, es2, v9, n' + 1 + k9, x9, by go_num, rfl, hj', hcr, hrs', Lib.hid hor, Lib.hid (fun s hs => hsi.out s (.inr (.inr (.inr hs)))), hep, hef', hW2, hnn2.out, Lib.hid (hG9'.out.trans hG2.out)⟩, by simp [intOf]; omega⟩)
                  · have hef' : Hid (effM most own r es = effM most own t e0) := Lib.hid (by rw [← hef.out, effM, if_neg h3, if_neg h4, if_neg h5, if_neg h7, if_neg h8])
                    have hnn2 : Hid (n' + 1 + ptsN r = n + ptsN t) := Lib.hid (by have h := hnn'.out; rw [if_neg h7, if_neg h8] at h; omega)
                    clear x2 x3 x4 y0 y1 y2 y3 y4 y5 yz
                    go_wp2_with fail
                    exact ⟨⟨j + 1, r, es, v1, n' + 1, xs1, by go_num, rfl, hj', hcr, hrs', Lib.hid hor, Lib.hid (fun s hs => hsi.out s (.inr (.inr (.inr hs)))), hes, hef', hWc, hnn2.out, hGc⟩, by simp [intOf]; omega⟩
end Go.Proofs.Ytdhklfbelplbcaa
