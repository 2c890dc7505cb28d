/- The walks: ref.Parse. -/
import Derived.Test.YtjlhajnficneoaaSl
namespace Go.Proofs.Ytjlhajnficneoaa
set_option linter.unusedVariables false
set_option linter.unusedSimpArgs false
open Go.RowKit

theorem num_one (l : List Nat) (k : Nat) (h : k < l.length) : num ((l.drop k).take 1) = l[k] := by
  rw [List.drop_eq_getElem_cons h, List.take_succ_cons, List.take_zero]
  unfold num num
  omega

theorem boxed_gen {W w5 : World} {t : TypeId} {v z0 z1 z2 z3 z4 : Value} {q : PartD} {b : Nat} (ht : t ≠ 5) (hb0 : W.heap.size ≤ b) (hb : Below W.heap.size W w5)
    (hrow : w5.heap[b]? = some (.cells #[z0, z1, z2, z3, z4] t (0, 0))) (ho : OwnB w5 W.heap.size v q.data) :
    Boxed W (((((w5.setCell ⟨b, 0, none⟩ (.int .i64 q.gen)).setCell ⟨b, 1, none⟩ (.int .i64 q.rc)).setCell ⟨b, 2, none⟩ (.int .i64 q.n)).setCell ⟨b, 3, none⟩ (.int .i64 q.ofn)).setCell ⟨b, 4, none⟩ v) t (.pointer (some ⟨b, 0, none⟩)) q := by
  rw [five_set _ _ t _ _ _ _ _ _ _ _ _ _ hrow]
  exact ⟨_, _, rfl, hb0, setRow_heap _ _ _ _ t _ hrow, OwnB.other ho hrow ht _, below_setRow hb hb0 _⟩

theorem grown_row {w w' : World} {row : Option Nat} {b : Nat} {o : Obj} (h : w.grownBy w' row) (hr : w.heap[b]? = some o) (hne : row ≠ some b) : w'.heap[b]? = some o := by
  rw [← hr]
  exact h.block b (Array.getElem?_eq_some_iff.1 hr).1 (fun e => hne e.symm)

theorem grown_new {W w' : World} {row : Option Nat} {o : Obj} (h : (W.alloc o).drew.grownBy w' row) (hne : row ≠ some W.heap.size) : w'.heap[W.heap.size]? = some o :=
  grown_row h (show (W.alloc o).drew.heap[W.heap.size]? = some o from heap_alloc_new W o) hne
theorem grown_old {W w' : World} {row : Option Nat} {o o' : Obj} (h : ((W.alloc o).alloc o').drew.grownBy w' row) (hne : row ≠ some W.heap.size) : w'.heap[W.heap.size]? = some o :=
  grown_row h (show ((W.alloc o).alloc o').drew.heap[W.heap.size]? = some o from blk_alloc (heap_alloc_new W o) o') hne
theorem box_facts {W : World} {b : Nat} {z0 z1 z2 z3 z4 : Value} {t : TypeId} (h : W.heap[b]? = some (.cells #[z0, z1, z2, z3, z4] t (0, 0))) :
    W.cell? ⟨b, 0, none⟩ = some z0 ∧ W.cell? ⟨b, 1, none⟩ = some z1 ∧ W.cell? ⟨b, 2, none⟩ = some z2 ∧ W.cell? ⟨b, 3, none⟩ = some z3 ∧ W.cell? ⟨b, 4, none⟩ = some z4 ∧
    W.frozen? ⟨b, 0, none⟩ = false ∧ W.frozen? ⟨b, 1, none⟩ = false ∧ W.frozen? ⟨b, 2, none⟩ = false ∧ W.frozen? ⟨b, 3, none⟩ = false ∧ W.frozen? ⟨b, 4, none⟩ = false := by
  refine ⟨box_cell h 0, box_cell h 1, box_cell h 2, box_cell h 3, box_cell h 4, ?_, ?_, ?_, ?_, ?_⟩ <;> simp [World.frozen?, h]

theorem boxed_gen5 {W w5 : World} {t : TypeId} {v z0 z1 z2 z3 z4 : Value} {x y z u : Int} {l : List Nat} {b : Nat} (ht : t ≠ 5) (hb0 : W.heap.size ≤ b) (hb : Below W.heap.size W w5)
    (hrow : w5.heap[b]? = some (.cells #[z0, z1, z2, z3, z4] t (0, 0))) (ho : OwnB w5 W.heap.size v l) :
    Boxed W (((((w5.setCell ⟨b, 0, none⟩ (.int .i64 x)).setCell ⟨b, 1, none⟩ (.int .i64 y)).setCell ⟨b, 2, none⟩ (.int .i64 z)).setCell ⟨b, 3, none⟩ (.int .i64 u)).setCell ⟨b, 4, none⟩ v) t (.pointer (some ⟨b, 0, none⟩)) ⟨x, y, z, u, l⟩ :=
  boxed_gen (q := ⟨x, y, z, u, l⟩) ht hb0 hb hrow ho
theorem boxed_last5 {W w5 : World} {t : TypeId} {v : Value} {x y z u : Int} {l : List Nat} (hb : Below W.heap.size W w5) (ho : OwnB w5 W.heap.size v l) :
    Boxed W (w5.alloc (.cells #[.int .i64 x, .int .i64 y, .int .i64 z, .int .i64 u, v] t (0, 0))) t (.pointer (some ⟨w5.heap.size, 0, none⟩)) ⟨x, y, z, u, l⟩ :=
  boxed_last (q := ⟨x, y, z, u, l⟩) hb ho

set_option maxHeartbeats 0 in
set_option maxRecDepth 100000 in
theorem refparse_64 (ad : Addr) (c : Nat) (l : List Nat) (w : World) (hr : Rd w (some ad) (bs l)) (h8 : Bytes8 l) (hl : l.length = 64) (hn : 64 ≤ c) (hc : c ≤ 9223372036854775807) :
    Calls Try.prog 21 #[.slice (some ad) 64 c] w fun e w' => ∃ v, e = .returned (.tuple #[(parseD l).1.val v, .bool (parseD l).2]) ∧ OwnB w' w.heap.size v (parseD l).1.data ∧ Below w.heap.size w w' := by
  have hr' := Lib.hid hr
  have h8' := Lib.hid h8
  have hl' := Lib.hid hl
  have l6 : l[6]'(by omega) < 256 := h8 _ (List.getElem_mem _)
  have l7 : l[7]'(by omega) < 256 := h8 _ (List.getElem_mem _)
  have l6a : ((l[6]'(by omega) : Nat) : Int) < 256 := by omega
  have l7a : ((l[7]'(by omega) : Nat) : Int) < 256 := by omega
  have x6 : Hid (∀ W', Below w.heap.size w W' → W'.cell? { block := ad.block, off := ad.off + 6, spot := none } = some (.int .u8 ((l[6]'(by omega) : Nat) : Int))) := Lib.hid (fun W' hb => by
    have h1 := (hr'.out.below hb).get 6 (by rw [bs_length]; omega)
    have h2 : W'.cell? (ad.add 6) = some (.int .u8 ((l[6]'(by omega) : Nat) : Int)) := by simpa [bs, enc, by_] using h1
    exact h2)
  have x7 : Hid (∀ W', Below w.heap.size w W' → W'.cell? { block := ad.block, off := ad.off + 7, spot := none } = some (.int .u8 ((l[7]'(by omega) : Nat) : Int))) := Lib.hid (fun W' hb => by
    have h1 := (hr'.out.below hb).get 7 (by rw [bs_length]; omega)
    have h2 : W'.cell? (ad.add 7) = some (.int .u8 ((l[7]'(by omega) : Nat) : Int)) := by simpa [bs, enc, by_] using h1
    exact h2)
  have l4 : Hid ((l.take 4).length = 4) := Lib.hid (by have := hl'.out; simp; omega)
  have l2 : Hid (((l.drop 4).take 2).length = 2) := Lib.hid (by have := hl'.out; simp; omega)
  have l52 : Hid ((l.drop 12).length = 52) := Lib.hid (by have := hl'.out; simp; omega)
  have hrp : Hid (readP l = ⟨(num (l.take 4) : Nat), (num ((l.drop 4).take 2) : Nat), IntKind.i64.wrap (l[6]'(by omega) : Nat), IntKind.i64.wrap (l[7]'(by omega) : Nat), l.drop 12⟩) := Lib.hid (by unfold readP; rw [num_one l 6 (by omega), num_one l 7 (by omega), wraps_i64 _ (by omega) (by omega), wraps_i64 _ (by omega) (by omega)])
  have r4 : Hid (∀ W', Below w.heap.size w W' → Rd W' (some ad) (bs (l.take 4))) := Lib.hid (fun W' hb => by have := (hr'.out.below hb).take 4; simpa [bs, enc, List.map_take] using this)
  have r2 : Hid (∀ W', Below w.heap.size w W' → Rd W' (some { block := ad.block, off := ad.off + 4, spot := none }) (bs ((l.drop 4).take 2))) := Lib.hid (fun W' hb => seg W' ad l (hr'.out.below hb) 4 2)
  have r52 : Hid (∀ W', Below w.heap.size w W' → Rd W' (some (ad.add 12)) (bs (l.drop 12))) := Lib.hid (fun W' hb => by have := (hr'.out.below hb).dropA 12; simpa [bs, enc, List.map_drop] using this)
  generalize hx6 : l[6]'(by omega) = y6 at l6 l6a x6 hrp
  generalize hx7 : l[7]'(by omega) = y7 at l7 l7a x7 hrp
  clear hr h8 hl hx6 hx7
  go_enter Try.func21, Try.ntmps21
  go_upto_region 3 with fail
  generalize hW : w.alloc (Obj.cells #[Value.int .i64 0, Value.int .i64 0, Value.int .i64 0, Value.int .i64 0, Value.slice none 0 0] 28) = W
  have hres : W.heap[w.heap.size]? = some (.cells #[Value.int .i64 0, Value.int .i64 0, Value.int .i64 0, Value.int .i64 0, Value.slice none 0 0] 28 (0, 0)) := by
    rw [← hW]; exact heap_alloc_new w _
  have hsW : W.heap.size = w.heap.size + 1 := by rw [← hW]; simp
  have hbelW : Below w.heap.size w W := by rw [← hW]; exact bl_alloc (Below.refl _ _) _
  have c4 : (4 : Int) ≤ (c : Int) := by omega
  have d4 : ¬ c = 4 := by omega
  have c6 : (6 : Int) ≤ (c : Int) := by omega
  have d6 : ¬ c = 6 := by omega
  have c12 : (12 : Int) ≤ (c : Int) := by omega
  have d12 : ¬ c = 12 := by omega
  have x6a := x6.out _ hbelW
  have x7a := x7.out _ hbelW
  have z6 := Int.natCast_nonneg y6
  have z7 := Int.natCast_nonneg y7
  have kk : Hid (∀ W', Below W.heap.size W W' → W'.cell? { block := ad.block, off := ad.off + 6, spot := none } = some (.int .u8 (y6 : Int)) ∧ W'.cell? { block := ad.block, off := ad.off + 7, spot := none } = some (.int .u8 (y7 : Int))) := Lib.hid (fun W' hb => ⟨x6.out W' (bl_then hbelW (by omega) hb), x7.out W' (bl_then hbelW (by omega) hb)⟩)
  have hres' := Lib.hid hres
  have hbelW' := Lib.hid hbelW
  replace hsW := Lib.hid hsW
  clear hres hbelW hW
  go_cut [4] (fun s4 wx => Boxed W wx 28 s4 (readP l))
  case first =>
    go_region_held3 (fun w' => w'.cell? { block := ad.block, off := ad.off + 6, spot := none } = some (.int .u8 (y6 : Int)) ∧ w'.cell? { block := ad.block, off := ad.off + 7, spot := none } = some (.int .u8 (y7 : Int)))
      (first | with_reducible exact ⟨x6a, x7a⟩ | (rw [five_set _ _ 28 _ _ _ _ _ _ _ _ _ _ hrow5.out]; exact kk.out _ (below_setRow hb5.out (by omega) _)) | exact kk.out _ (by repeat (with_reducible (first | exact Below.refl _ _ | exact hb5.out | apply bl_alloc | apply Below.drew)))) (first
      | (go_at_call_has 33 (Value.slice (some ad) 4 c); refine (num_any (some ad) 4 c (l.take 4) _ l4.out (r4.out _ (by repeat (with_reducible (first | exact Below.refl _ _ | exact hbelW'.out | apply bl_alloc | apply Below.drew)))) (h8'.out.take 4) (by decide)).mono ?_; rintro e w' ⟨rfl, rfl⟩)
      | (go_at_call_has 33 (Value.slice (some { block := ad.block, off := ad.off + 4 }) 2 (c - 4)); refine (num_any (some { block := ad.block, off := ad.off + 4 }) 2 (c - 4) ((l.drop 4).take 2) _ l2.out (r2.out _ (by repeat (with_reducible (first | exact Below.refl _ _ | exact hbelW'.out | apply bl_alloc | apply Below.drew)))) ((h8'.out.drop 4).take 2) (by decide)).mono ?_; rintro e w' ⟨rfl, rfl⟩)
      | (refine step_app W.heap.size rfl _ _ 22 5 (.int .u8 0) 1 1 rfl Try.underlying22 info5 rfl (by decide) (by decide) (.slice (some ⟨W.heap.size, 0, none⟩) 0 0) 0 [] rfl (own_below (own_lit W W.heap.size 5 1 0 [] (Nat.le_refl _) rfl (by omega)) (Below.refl _ _).drew) (by simp <;> omega) (some (ad.add 12)) 52 (c - 12) (bs (l.drop 12)) rfl (by rw [bs_length, l52.out]) (r52.out _ (by repeat (with_reducible (first | exact Below.refl _ _ | exact hbelW'.out | apply bl_alloc | apply Below.drew)))) (fun e => by cases e) (bs_one _) (by decide) ?_; rintro v5 w5 hown5 hb5 hg5 -; obtain ⟨g5, cap5, rfl, hcap5, hgg5⟩ := own_some hown5 (by decide); replace hown5 : Hid (OwnB w5 W.heap.size (.slice (some ⟨g5, 0, none⟩) 52 cap5) (l.drop 12)) := Lib.hid (by unfold OwnB; rw [l52.out]; simpa using hown5); replace hb5 := Lib.hid ((bl_alloc (Below.refl _ _) _).drew.trans hb5); clear hg5)
      | (refine step_app W.heap.size rfl _ _ 22 5 (.int .u8 0) 1 1 rfl Try.underlying22 info5 rfl (by decide) (by decide) (.slice (some ⟨W.heap.size, 0, none⟩) 0 0) 0 [] rfl (own_below (own_lit W W.heap.size 5 1 0 [] (Nat.le_refl _) rfl (by omega)) (bl_alloc (Below.refl _ _) (Obj.cells #[Value.int .i64 0, Value.int .i64 0, Value.int .i64 0, Value.int .i64 0, Value.slice none 0 0] 28)).drew) (by simp <;> omega) (some (ad.add 12)) 52 (c - 12) (bs (l.drop 12)) rfl (by rw [bs_length, l52.out]) (r52.out _ (by repeat (with_reducible (first | exact Below.refl _ _ | exact hbelW'.out | apply bl_alloc | apply Below.drew)))) (fun e => by cases e) (bs_one _) (by decide) ?_; rintro v5 w5 hown5 hb5 hg5 -; obtain ⟨g5, cap5, rfl, hcap5, hgg5⟩ := own_some hown5 (by decide); replace hown5 : Hid (OwnB w5 W.heap.size (.slice (some ⟨g5, 0, none⟩) 52 cap5) (l.drop 12)) := Lib.hid (by unfold OwnB; rw [l52.out]; simpa using hown5); replace hb5 := Lib.hid ((bl_alloc (bl_alloc (Below.refl _ _) _) _).drew.trans hb5); have hrow5 : Hid (w5.heap[W.heap.size + 1]? = some (Obj.cells #[Value.int .i64 0, Value.int .i64 0, Value.int .i64 0, Value.int .i64 0, Value.slice none 0 0] 28 (0, 0))) := Lib.hid (by rw [show W.heap.size + 1 = (W.alloc (Obj.cells (#[] : Array Value) 5)).heap.size by simp]; exact grown_new hg5 (by simp [Value.ownBlock])); obtain ⟨i0, i1, i2, i3, i4, j0, j1, j2, j3, j4⟩ := box_facts hrow5.out; clear hg5)
      | (refine step_app W.heap.size rfl _ _ 22 5 (.int .u8 0) 1 1 rfl Try.underlying22 info5 rfl (by decide) (by decide) (.slice (some ⟨W.heap.size + 1, 0, none⟩) 0 0) 0 [] rfl (by have h := own_below (own_lit (W.alloc (Obj.cells #[Value.int .i64 0, Value.int .i64 0, Value.int .i64 0, Value.int .i64 0, Value.slice none 0 0] 28)) W.heap.size 5 1 0 [] (by simp) rfl (by omega)) (Below.refl _ _).drew; rw [show (W.alloc (Obj.cells #[Value.int .i64 0, Value.int .i64 0, Value.int .i64 0, Value.int .i64 0, Value.slice none 0 0] 28)).heap.size = W.heap.size + 1 by simp] at h; exact h) (by simp <;> omega) (some (ad.add 12)) 52 (c - 12) (bs (l.drop 12)) rfl (by rw [bs_length, l52.out]) (r52.out _ (by repeat (with_reducible (first | exact Below.refl _ _ | exact hbelW'.out | apply bl_alloc | apply Below.drew)))) (fun e => by cases e) (bs_one _) (by decide) ?_; rintro v5 w5 hown5 hb5 hg5 -; obtain ⟨g5, cap5, rfl, hcap5, hgg5⟩ := own_some hown5 (by decide); replace hown5 : Hid (OwnB w5 W.heap.size (.slice (some ⟨g5, 0, none⟩) 52 cap5) (l.drop 12)) := Lib.hid (by unfold OwnB; rw [l52.out]; simpa using hown5); replace hb5 := Lib.hid ((bl_alloc (bl_alloc (Below.refl _ _) _) _).drew.trans hb5); have hrow5 : Hid (w5.heap[W.heap.size]? = some (Obj.cells #[Value.int .i64 0, Value.int .i64 0, Value.int .i64 0, Value.int .i64 0, Value.slice none 0 0] 28 (0, 0))) := Lib.hid (grown_old hg5 (by simp [Value.ownBlock])); obtain ⟨i0, i1, i2, i3, i4, j0, j1, j2, j3, j4⟩ := box_facts hrow5.out; clear hg5))
    all_goals (go_wp2_with fail)
    all_goals go_meet
    all_goals rw [hrp.out]
    all_goals first
      | (have hq := hrow5.out; exact boxed_gen5 (by decide) (by omega) hb5.out hq hown5.out)
      | exact boxed_last5 hb5.out hown5.out
  case rest =>
    obtain ⟨g, v, rfl, hg, hrow, hown, hb⟩ := hcut
    have hown1 := hown
    unfold OwnB at hown1
    rw [readP_len l hl'.out] at hown1
    obtain ⟨g5, cap5, rfl, hcap5, hg5⟩ := own_some hown1 (by decide)
    clear hown1
    have hx0 := box_cell hrow 0
    have hx1 := box_cell hrow 1
    have hx2 := box_cell hrow 2
    have hx3 := box_cell hrow 3
    have hx4 := box_cell hrow 4
    simp only [List.getElem?_toArray, List.getElem?_cons_zero, List.getElem?_cons_succ] at hx0 hx1 hx2 hx3 hx4
    have hrow' := Lib.hid hrow
    have hown' := Lib.hid hown
    have hbx := Lib.hid hb
    clear hrow hown hb
    have hdl := Lib.hid (readP_len l hl'.out)
    have hrd : Hid (Rd wc (some ⟨g5, 0, none⟩) (bs (readP l).data)) := by
      have h1 := hown'.out
      unfold OwnB at h1
      rw [hdl.out] at h1
      obtain ⟨A, c1, e, -, -, h2, -⟩ := Rd.own h1
      cases e
      exact Lib.hid h2
    have hsW' := hsW.out
    have hsz := hbx.out.size
    have hbw : Hid (Below w.heap.size w wc) := Lib.hid (bl_then hbelW'.out (by omega) hbx.out)
    have hresc : Hid (wc.heap[w.heap.size]? = some (.cells #[Value.int .i64 0, Value.int .i64 0, Value.int .i64 0, Value.int .i64 0, Value.slice none 0 0] 28 (0, 0))) := Lib.hid (bl_row hbx.out hres'.out)
    by_cases hok : (readP l).ok
    · have hbl := Lib.hid (show (readP l).bytes.length = 64 by simp [PartD.bytes, head_len, leN_len, hdl.out])
      have hb8 := Lib.hid (show Bytes8 (readP l).bytes from ((head_8 _).append (leN_8 _ _)).append (h8'.out.drop 12))
      have hz := Lib.hid (strB_beq hb8.out h8'.out)
      by_cases heq : (readP l).bytes = l
      · have hpd : Hid (parseD l = (readP l, true)) := Lib.hid (if_pos ⟨hl'.out, hok, heq⟩)
        have hz1 := hz.out.2 heq
        have hz2 : ((strB (readP l).bytes).toList != (strB l).toList) = false := by simp only [bne, hz1, Bool.not_true]
        replace heq := Lib.hid heq
        go_wp2_with (first
        | (go_at_call 18; refine (refbytes_ok (readP l) (some ⟨g5, 0, none⟩) cap5 _ hok hrd.out (h8'.out.drop 12)).mono ?_; rintro e w2 ⟨v2, rfl, hown2, hb2⟩; obtain ⟨A2, c2, rfl, hn2, hc2, hr2, hA2⟩ := Rd.own hown2; have hrl : Rd w2 (some ad) (bs l) := (hr'.out.below hbw.out).below hb2; have hres2 : Hid (w2.heap[w.heap.size]? = some (.cells #[Value.int .i64 0, Value.int .i64 0, Value.int .i64 0, Value.int .i64 0, Value.slice none 0 0] 28 (0, 0))) := Lib.hid (bl_row hb2 hresc.out); have hbz : Hid (Below w.heap.size w w2) := Lib.hid (bl_then hbw.out (by omega) hb2); have hrow2 := bl_row hb2 hrow'.out; have hx0 := box_cell hrow2 0; have hx1 := box_cell hrow2 1; have hx2 := box_cell hrow2 2; have hx3 := box_cell hrow2 3; have hx4 := box_cell hrow2 4; simp only [List.getElem?_toArray, List.getElem?_cons_zero, List.getElem?_cons_succ] at hx0 hx1 hx2 hx3 hx4; have hown3 : Hid (OwnB w2 W.heap.size (Value.slice (some { block := g5, off := 0 }) 52 cap5) (readP l).data) := Lib.hid (hown'.out.below hb2); have s1 := str_any A2 64 c2 (readP l).bytes w2 hbl.out hr2 hA2; have s2 := str_any (some ad) 64 c l w2 hl'.out hrl (fun e => by cases e); clear hown2 hb2 hr2 hA2 hrow2 hrl)
        | (refine store_mid (by rfl) 28 _ _ rfl w.heap.size 0 #[Value.int .i64 (readP l).gen, Value.int .i64 (readP l).rc, Value.int .i64 (readP l).n, Value.int .i64 (readP l).ofn, Value.slice (some { block := g5, off := 0 }) 52 cap5] rfl rfl 28 [Value.int .i64 0, Value.int .i64 0, Value.int .i64 0, Value.int .i64 0, Value.slice none 0 0] hres2.out (by kernel_rfl) (by simp) (by simp [Value.oneCell']) ?_))
        have hr0 := setRow_heap w2 w.heap.size _ #[Value.int .i64 (readP l).gen, Value.int .i64 (readP l).rc, Value.int .i64 (readP l).n, Value.int .i64 (readP l).ofn, Value.slice (some { block := g5, off := 0 }) 52 cap5] 28 _ hres2.out
        exact bodyPost_ret (res_ct rfl _ _ w.heap.size 28 #[Value.int .i64 (readP l).gen, Value.int .i64 (readP l).rc, Value.int .i64 (readP l).n, Value.int .i64 (readP l).ofn, Value.slice (some { block := g5, off := 0 }) 52 cap5] (0, 0) _ rfl hr0 Try.underlying28 (by kernel_rfl) (by kernel_rfl)) rfl ⟨.slice (some { block := g5, off := 0 }) 52 cap5, by rw [hpd.out]; rfl, by rw [hpd.out]; exact OwnB.other (show OwnB w2 w.heap.size _ _ from own_weaken hown3.out (by omega)) hres2.out (by decide) _, below_setRow hbz.out (Nat.le_refl _) _⟩
      · have hpd : Hid (parseD l = (zeroP, false)) := Lib.hid (if_neg (fun h => heq h.2.2))
        have hz1 : ((strB (readP l).bytes).toList == (strB l).toList) = false := by rw [Bool.eq_false_iff]; exact fun h => heq (hz.out.1 h)
        have hz2 : ((strB (readP l).bytes).toList != (strB l).toList) = true := by simp only [bne, hz1, Bool.not_false]
        replace heq := Lib.hid heq
        go_wp2_with (first
        | (go_at_call 18; refine (refbytes_ok (readP l) (some ⟨g5, 0, none⟩) cap5 _ hok hrd.out (h8'.out.drop 12)).mono ?_; rintro e w2 ⟨v2, rfl, hown2, hb2⟩; obtain ⟨A2, c2, rfl, hn2, hc2, hr2, hA2⟩ := Rd.own hown2; have hrl : Rd w2 (some ad) (bs l) := (hr'.out.below hbw.out).below hb2; have hres2 : Hid (w2.heap[w.heap.size]? = some (.cells #[Value.int .i64 0, Value.int .i64 0, Value.int .i64 0, Value.int .i64 0, Value.slice none 0 0] 28 (0, 0))) := Lib.hid (bl_row hb2 hresc.out); have hbz : Hid (Below w.heap.size w w2) := Lib.hid (bl_then hbw.out (by omega) hb2); have hrow2 := bl_row hb2 hrow'.out; have hx0 := box_cell hrow2 0; have hx1 := box_cell hrow2 1; have hx2 := box_cell hrow2 2; have hx3 := box_cell hrow2 3; have hx4 := box_cell hrow2 4; simp only [List.getElem?_toArray, List.getElem?_cons_zero, List.getElem?_cons_succ] at hx0 hx1 hx2 hx3 hx4; have hown3 : Hid (OwnB w2 W.heap.size (Value.slice (some { block := g5, off := 0 }) 52 cap5) (readP l).data) := Lib.hid (hown'.out.below hb2); have s1 := str_any A2 64 c2 (readP l).bytes w2 hbl.out hr2 hA2; have s2 := str_any (some ad) 64 c l w2 hl'.out hrl (fun e => by cases e); clear hown2 hb2 hr2 hA2 hrow2 hrl)
        | (refine store_mid (by rfl) 28 _ _ rfl w.heap.size 0 #[Value.int .i64 0, Value.int .i64 0, Value.int .i64 0, Value.int .i64 0, Value.slice none 0 0] rfl rfl 28 [Value.int .i64 0, Value.int .i64 0, Value.int .i64 0, Value.int .i64 0, Value.slice none 0 0] hres2.out (by kernel_rfl) (by simp) (by simp [Value.oneCell']) ?_))
        have hr0 := setRow_heap w2 w.heap.size _ #[Value.int .i64 0, Value.int .i64 0, Value.int .i64 0, Value.int .i64 0, Value.slice none 0 0] 28 _ hres2.out
        exact bodyPost_ret (res_ct rfl _ _ w.heap.size 28 #[Value.int .i64 0, Value.int .i64 0, Value.int .i64 0, Value.int .i64 0, Value.slice none 0 0] (0, 0) _ rfl hr0 Try.underlying28 (by kernel_rfl) (by kernel_rfl)) rfl ⟨.slice none 0 0, by rw [hpd.out]; rfl, by rw [hpd.out]; exact own_nil _ _ _ _, below_setRow hbz.out (Nat.le_refl _) _⟩
    · go_wp2_with (first | (go_at_call 18; have hh := refbytes_no (readP l) (some ⟨g5, 0, none⟩) cap5 wc hok (by rw [hdl.out]; decide); rw [hdl.out] at hh; refine hh.mono ?_; clear hh; rintro e w2 ⟨rfl, hb2⟩; have hres2 : Hid (w2.heap[w.heap.size]? = some (.cells #[Value.int .i64 0, Value.int .i64 0, Value.int .i64 0, Value.int .i64 0, Value.slice none 0 0] 28 (0, 0))) := Lib.hid (bl_row hb2 hresc.out); have hbz : Hid (Below w.heap.size w w2) := Lib.hid (bl_then hbw.out (by omega) hb2); clear hb2) | (refine store_mid (by rfl) 28 _ _ rfl w.heap.size 0 #[Value.int .i64 0, Value.int .i64 0, Value.int .i64 0, Value.int .i64 0, Value.slice none 0 0] rfl rfl 28 [Value.int .i64 0, Value.int .i64 0, Value.int .i64 0, Value.int .i64 0, Value.slice none 0 0] hres2.out (by kernel_rfl) (by simp) (by simp [Value.oneCell']) ?_))
      have hpd : Hid (parseD l = (zeroP, false)) := Lib.hid (if_neg (fun h => hok h.2.1))
      have hr0 := setRow_heap w2 w.heap.size _ #[Value.int .i64 0, Value.int .i64 0, Value.int .i64 0, Value.int .i64 0, Value.slice none 0 0] 28 _ hres2.out
      exact bodyPost_ret (res_ct rfl _ _ w.heap.size 28 #[Value.int .i64 0, Value.int .i64 0, Value.int .i64 0, Value.int .i64 0, Value.slice none 0 0] (0, 0) _ rfl hr0 Try.underlying28 (by kernel_rfl) (by kernel_rfl)) rfl ⟨.slice none 0 0, by rw [hpd.out]; rfl, by rw [hpd.out]; exact own_nil _ _ _ _, below_setRow hbz.out (Nat.le_refl _) _⟩

set_option maxHeartbeats 1000000 in
set_option maxRecDepth 100000 in
theorem refparse_any (A : Option Addr) (c : Nat) (l : List Nat) (w : World) (hr : Rd w A (bs l)) (h8 : Bytes8 l) (hn : l.length ≤ c) (hc : c ≤ 9223372036854775807) :
    Calls Try.prog 21 #[.slice A l.length c] w fun e w' => ∃ v, e = .returned (.tuple #[(parseD l).1.val v, .bool (parseD l).2]) ∧ OwnB w' w.heap.size v (parseD l).1.data ∧ Below w.heap.size w w' := by
  by_cases hl : l.length = 64
  · obtain ⟨ad, rfl, -⟩ := hr 0 (by rw [bs_length]; omega)
    rw [hl] at hn ⊢
    exact refparse_64 ad c l w hr h8 hl hn hc
  have hpd : Hid (parseD l = (zeroP, false)) := Lib.hid (if_neg (fun h => hl h.1))
  have h1 : decide ((l.length : Int) = 64) = false := by simp; omega
  have h2 : decide (¬ (l.length : Int) = 64) = true := by simp; omega
  clear hr h8
  go_enter Try.func21, Try.ntmps21
  go_wp2_with (refine store_mid (by rfl) 28 _ _ rfl w.heap.size 0 #[Value.int .i64 0, Value.int .i64 0, Value.int .i64 0, Value.int .i64 0, Value.slice none 0 0] rfl rfl 28 [Value.int .i64 0, Value.int .i64 0, Value.int .i64 0, Value.int .i64 0, Value.slice none 0 0] (by exact heap_alloc_new _ _) (by kernel_rfl) (by simp) (by simp [Value.oneCell']) ?_)
  have hr0 := setRow_heap (w.alloc (Obj.cells #[Value.int .i64 0, Value.int .i64 0, Value.int .i64 0, Value.int .i64 0, Value.slice none 0 0] 28)) w.heap.size _ #[Value.int .i64 0, Value.int .i64 0, Value.int .i64 0, Value.int .i64 0, Value.slice none 0 0] 28 _ (heap_alloc_new _ _)
  exact bodyPost_ret (res_ct rfl _ _ w.heap.size 28 #[Value.int .i64 0, Value.int .i64 0, Value.int .i64 0, Value.int .i64 0, Value.slice none 0 0] (0, 0) _ rfl hr0 Try.underlying28 (by kernel_rfl) (by kernel_rfl)) rfl ⟨.slice none 0 0, by rw [hpd.out]; rfl, by rw [hpd.out]; exact own_nil _ _ _ _, below_setRow (bl_alloc (Below.refl _ _) _) (Nat.le_refl _) _⟩
end Go.Proofs.Ytjlhajnficneoaa
