/- The walks: Parse. -/
import Derived.Test.YtjlhajnficneoaaSg
import Derived.Sort.AtCall
import Derived.Deep.RegionHeld3
namespace Go.Proofs.Ytjlhajnficneoaa
set_option linter.unusedVariables false
set_option linter.unusedSimpArgs false
open Go.RowKit

def zeroP : PartD := ⟨0, 0, 0, 0, []⟩
def readP (l : List Nat) : PartD := ⟨(num (l.take 4) : Nat), (num ((l.drop 4).take 2) : Nat), (num ((l.drop 6).take 1) : Nat), (num ((l.drop 7).take 1) : Nat), l.drop 12⟩
theorem readP_len (l : List Nat) (h : l.length = 64) : (readP l).data.length = 52 := by simp [readP, h]
/-- what Parse tells -/
def parseD (l : List Nat) : PartD × Bool := if l.length = 64 ∧ (readP l).ok ∧ (readP l).bytes = l then (readP l, true) else (zeroP, false)

theorem seg (w : World) (ad : Addr) (l : List Nat) (h : Rd w (some ad) (bs l)) (k n : Nat) : Rd w (some (ad.add k)) (bs ((l.drop k).take n)) := by
  have := (h.dropA k).take n
  simpa [bs, enc, List.map_take, List.map_drop] using this


theorem five_set (W : World) (g : Nat) (t : TypeId) (z0 z1 z2 z3 z4 a b c d e : Value) (h : W.heap[g]? = some (.cells #[z0, z1, z2, z3, z4] t (0, 0))) :
    ((((W.setCell ⟨g, 0, none⟩ a).setCell ⟨g, 1, none⟩ b).setCell ⟨g, 2, none⟩ c).setCell ⟨g, 3, none⟩ d).setCell ⟨g, 4, none⟩ e = W.setRow g #[a, b, c, d, e] := by
  have h1 := setRow_heap W g _ #[a, z1, z2, z3, z4] t _ h
  have h2 := setRow_heap W g _ #[a, b, z2, z3, z4] t _ h
  have h3 := setRow_heap W g _ #[a, b, c, z3, z4] t _ h
  have h4 := setRow_heap W g _ #[a, b, c, d, z4] t _ h
  have e1 : W.setCell ⟨g, 0, none⟩ a = W.setRow g #[a, z1, z2, z3, z4] := setCell_eq_setRow W g 0 _ t _ a h
  have e2 : (W.setRow g #[a, z1, z2, z3, z4]).setCell ⟨g, 1, none⟩ b = W.setRow g #[a, b, z2, z3, z4] := (setCell_eq_setRow _ g 1 _ t _ b h1).trans (setRow_setRow _ _ _ _)
  have e3 : (W.setRow g #[a, b, z2, z3, z4]).setCell ⟨g, 2, none⟩ c = W.setRow g #[a, b, c, z3, z4] := (setCell_eq_setRow _ g 2 _ t _ c h2).trans (setRow_setRow _ _ _ _)
  have e4 : (W.setRow g #[a, b, c, z3, z4]).setCell ⟨g, 3, none⟩ d = W.setRow g #[a, b, c, d, z4] := (setCell_eq_setRow _ g 3 _ t _ d h3).trans (setRow_setRow _ _ _ _)
  have e5 : (W.setRow g #[a, b, c, d, z4]).setCell ⟨g, 4, none⟩ e = W.setRow g #[a, b, c, d, e] := (setCell_eq_setRow _ g 4 _ t _ e h4).trans (setRow_setRow _ _ _ _)
  rw [e1, e2, e3, e4, e5]

/-- a Part of five cells in a block of its own behind W, its bytes in another -/
def Boxed (W wx : World) (t : TypeId) (p : Value) (q : PartD) : Prop :=
  ∃ g v, p = .pointer (some ⟨g, 0, none⟩) ∧ W.heap.size ≤ g ∧ wx.heap[g]? = some (.cells #[.int .i64 q.gen, .int .i64 q.rc, .int .i64 q.n, .int .i64 q.ofn, v] t (0, 0)) ∧ OwnB wx W.heap.size v q.data ∧ Below W.heap.size W wx

theorem boxed_last {W w5 : World} {t : TypeId} {v : Value} {q : PartD} (hb : Below W.heap.size W w5) (ho : OwnB w5 W.heap.size v q.data) :
    Boxed W (w5.alloc (.cells #[.int .i64 q.gen, .int .i64 q.rc, .int .i64 q.n, .int .i64 q.ofn, v] t (0, 0))) t (.pointer (some ⟨w5.heap.size, 0, none⟩)) q :=
  ⟨_, _, rfl, hb.size, heap_alloc_new _ _, ho.below (bl_alloc (Below.refl _ _) _), bl_alloc hb _⟩

theorem Boxed.undrew {W wx : World} {t : TypeId} {p : Value} {q : PartD} (h : Boxed W.drew wx t p q) : Boxed W wx t p q := by
  obtain ⟨g, v, h1, h2, h3, h4, h5⟩ := h
  exact ⟨g, v, h1, h2, h3, h4, (Below.refl _ _).drew.trans h5⟩

theorem boxed_first {W W1 w5 : World} {t : TypeId} (ht : t ≠ 5) {v z0 z1 z2 z3 z4 : Value} {q : PartD} {b : Nat} (hbk : b = W.heap.size) (hW : W1 = W.alloc (.cells #[z0, z1, z2, z3, z4] t (0, 0))) (hb : Below W1.heap.size W1 w5) (ho : OwnB w5 W1.heap.size v q.data) :
    Boxed W (((((w5.setCell ⟨b, 0, none⟩ (.int .i64 q.gen)).setCell ⟨b, 1, none⟩ (.int .i64 q.rc)).setCell ⟨b, 2, none⟩ (.int .i64 q.n)).setCell ⟨b, 3, none⟩ (.int .i64 q.ofn)).setCell ⟨b, 4, none⟩ v) t (.pointer (some ⟨b, 0, none⟩)) q := by
  subst hW hbk
  have h := bl_row hb (heap_alloc_new W (.cells #[z0, z1, z2, z3, z4] t (0, 0)))
  rw [five_set _ _ t _ _ _ _ _ _ _ _ _ _ h]
  have hb2 : Below W.heap.size W w5 := bl_then (bl_alloc (Below.refl _ _) _) (by simp) hb
  exact ⟨_, _, rfl, Nat.le_refl _, setRow_heap _ _ _ _ t _ h, OwnB.other (show OwnB w5 W.heap.size v q.data from own_weaken ho (by simp)) h ht _, below_setRow hb2 (Nat.le_refl _) _⟩

set_option maxHeartbeats 0 in
set_option maxRecDepth 100000 in
theorem parse_64 (ad : Addr) (c : Nat) (l : List Nat) (w : World) (hr : Rd w (some ad) (bs l)) (h8 : Bytes8 l) (hl : l.length = 64) (hn : 64 ≤ c) (hc : c ≤ 9223372036854775807) :
    Calls Try.prog 17 #[.slice (some ad) 64 c] w fun e w' => ∃ v, e = .returned (.tuple #[(parseD l).1.val v, .bool (parseD l).2]) ∧ OwnB w' w.heap.size v (parseD l).1.data ∧ Below w.heap.size w w' := by
  have hr' := Lib.hid hr
  have h8' := Lib.hid h8
  have hl' := Lib.hid hl
  clear hr h8 hl
  go_enter Try.func17, Try.ntmps17
  have l4 : Hid ((l.take 4).length = 4) := Lib.hid (by have := hl'.out; simp; omega)
  have l2 : Hid (((l.drop 4).take 2).length = 2) := Lib.hid (by have := hl'.out; simp; omega)
  have l1 : Hid (((l.drop 6).take 1).length = 1) := Lib.hid (by have := hl'.out; simp; omega)
  have l0 : Hid (((l.drop 7).take 1).length = 1) := Lib.hid (by have := hl'.out; simp; omega)
  have l52 : Hid ((l.drop 12).length = 52) := Lib.hid (by have := hl'.out; simp; omega)
  have r4 : Hid (∀ W', Below w.heap.size w W' → Rd W' (some ad) (bs (l.take 4))) := Lib.hid (fun W' hb => by have := (hr'.out.below hb).take 4; simpa [bs, enc, List.map_take] using this)
  have r2 : Hid (∀ W', Below w.heap.size w W' → Rd W' (some { block := ad.block, off := ad.off + 4, spot := none }) (bs ((l.drop 4).take 2))) := Lib.hid (fun W' hb => seg W' ad l (hr'.out.below hb) 4 2)
  have r1 : Hid (∀ W', Below w.heap.size w W' → Rd W' (some { block := ad.block, off := ad.off + 6, spot := none }) (bs ((l.drop 6).take 1))) := Lib.hid (fun W' hb => seg W' ad l (hr'.out.below hb) 6 1)
  have r0 : Hid (∀ W', Below w.heap.size w W' → Rd W' (some { block := ad.block, off := ad.off + 7, spot := none }) (bs ((l.drop 7).take 1))) := Lib.hid (fun W' hb => seg W' ad l (hr'.out.below hb) 7 1)
  have r52 : Hid (∀ W', Below w.heap.size w W' → Rd W' (some (ad.add 12)) (bs (l.drop 12))) := Lib.hid (fun W' hb => by have := (hr'.out.below hb).dropA 12; simpa [bs, enc, List.map_drop] using this)
  go_upto_region 3 with fail
  generalize hW : w.alloc (Obj.cells #[Value.int .i64 0, Value.int .i64 0, Value.int .i64 0, Value.int .i64 0, Value.slice none 0 0] 33) = W
  have hres : W.heap[w.heap.size]? = some (.cells #[Value.int .i64 0, Value.int .i64 0, Value.int .i64 0, Value.int .i64 0, Value.slice none 0 0] 33 (0, 0)) := by
    rw [← hW]; exact heap_alloc_new w _
  have hsW : W.heap.size = w.heap.size + 1 := by rw [← hW]; simp
  have hbelW : Below w.heap.size w W := by rw [← hW]; exact bl_alloc (Below.refl _ _) _
  have c4 : (4 : Int) ≤ (c : Int) := by omega
  have d4 : ¬ c = 4 := by omega
  have c6 : (6 : Int) ≤ (c : Int) := by omega
  have d6 : ¬ c = 6 := by omega
  have c7 : (7 : Int) ≤ (c : Int) := by omega
  have d7 : ¬ c = 7 := by omega
  have c8 : (8 : Int) ≤ (c : Int) := by omega
  have d8 : ¬ c = 8 := by omega
  have d12 : ¬ c = 12 := by omega
  have hres' := Lib.hid hres
  have hbelW' := Lib.hid hbelW
  clear hres hbelW hW
  go_cut [4] (fun s4 wx => Boxed W wx 33 s4 (readP l))
  case first =>
    go_region_held3 (fun w' => True) (first | trivial) (first
      | (go_at_call_has 29 (Value.slice (some ad) 4 c); refine (told_any (some ad) 4 c (l.take 4) _ l4.out (r4.out _ (by repeat (first | exact Below.refl _ _ | exact hbelW'.out | apply bl_alloc | apply Below.drew))) (h8'.out.take 4) (by decide)).mono ?_; rintro e w' ⟨rfl, rfl⟩)
      | (go_at_call_has 29 (Value.slice (some { block := ad.block, off := ad.off + 4 }) 2 (c - 4)); refine (told_any (some { block := ad.block, off := ad.off + 4 }) 2 (c - 4) ((l.drop 4).take 2) _ l2.out (r2.out _ (by repeat (first | exact Below.refl _ _ | exact hbelW'.out | apply bl_alloc | apply Below.drew))) ((h8'.out.drop 4).take 2) (by decide)).mono ?_; rintro e w' ⟨rfl, rfl⟩)
      | (go_at_call_has 29 (Value.slice (some { block := ad.block, off := ad.off + 6 }) 1 (c - 6)); refine (told_any (some { block := ad.block, off := ad.off + 6 }) 1 (c - 6) ((l.drop 6).take 1) _ l1.out (r1.out _ (by repeat (first | exact Below.refl _ _ | exact hbelW'.out | apply bl_alloc | apply Below.drew))) ((h8'.out.drop 6).take 1) (by decide)).mono ?_; rintro e w' ⟨rfl, rfl⟩)
      | (go_at_call_has 29 (Value.slice (some { block := ad.block, off := ad.off + 7 }) 1 (c - 7)); refine (told_any (some { block := ad.block, off := ad.off + 7 }) 1 (c - 7) ((l.drop 7).take 1) _ l0.out (r0.out _ (by repeat (first | exact Below.refl _ _ | exact hbelW'.out | apply bl_alloc | apply Below.drew))) ((h8'.out.drop 7).take 1) (by decide)).mono ?_; rintro e w' ⟨rfl, rfl⟩)
      | (go_at_call 30; refine (clone_any (some (ad.add 12)) 52 (c - 12) (l.drop 12) _ l52.out (r52.out _ (by repeat (first | exact Below.refl _ _ | exact hbelW'.out | apply bl_alloc | apply Below.drew))) (fun e => by cases e) (by decide)).mono ?_; rintro e w5 ⟨v, rfl, hown, hb5⟩; obtain ⟨g5, cap5, rfl, hcap5, hg5⟩ := own_some hown (by decide); obtain ⟨hc5, hf5⟩ := bcell hb5; have hz5 := hb5.size; have hown5 := Lib.hid hown; have hb5' := Lib.hid hb5; clear hown hb5; simp at hz5))
    all_goals (go_wp2_with fail)
    all_goals go_meet
    case rel => exact Boxed.undrew <| boxed_last (q := readP l) (v := .slice (some ⟨g5, 0, none⟩) 52 cap5) (W := W.drew) hb5'.out (by unfold OwnB; rw [readP_len l hl'.out]; exact hown5.out)
    all_goals exact Boxed.undrew <| boxed_first (q := readP l) (v := .slice (some ⟨g5, 0, none⟩) 52 cap5) (W := W.drew) (by decide) hsW.symm rfl hb5'.out (by unfold OwnB; rw [readP_len l hl'.out]; exact hown5.out)
  case rest =>
    obtain ⟨g, v, rfl, hg, hrow, hown, hb⟩ := hcut
    have hown1 := hown
    unfold OwnB at hown1
    rw [readP_len l hl'.out] at hown1
    obtain ⟨g5, cap5, rfl, hcap5, hg5⟩ := own_some hown1 (by decide)
    clear hown1
    have hx0 := box_cell hrow 0
    have hx1 := box_cell hrow 1
    have hx2 := box_cell hrow 2
    have hx3 := box_cell hrow 3
    have hx4 := box_cell hrow 4
    simp only [List.getElem?_toArray, List.getElem?_cons_zero, List.getElem?_cons_succ] at hx0 hx1 hx2 hx3 hx4
    have hrow' := Lib.hid hrow
    have hown' := Lib.hid hown
    have hbx := Lib.hid hb
    clear hrow hown hb
    have hdl := Lib.hid (readP_len l hl'.out)
    have hrd : Hid (Rd wc (some ⟨g5, 0, none⟩) (bs (readP l).data)) := by
      have h1 := hown'.out
      unfold OwnB at h1
      rw [hdl.out] at h1
      obtain ⟨A, c1, e, -, -, h2, -⟩ := Rd.own h1
      cases e
      exact Lib.hid h2
    have hsz := hbx.out.size
    have hbw : Hid (Below w.heap.size w wc) := Lib.hid (bl_then hbelW'.out (by omega) hbx.out)
    have hresc : Hid (wc.heap[w.heap.size]? = some (.cells #[Value.int .i64 0, Value.int .i64 0, Value.int .i64 0, Value.int .i64 0, Value.slice none 0 0] 33 (0, 0))) := Lib.hid (bl_row hbx.out hres'.out)
    by_cases hok : (readP l).ok
    · go_wp2_with (go_at_call 16; refine (bytes_ok (readP l) (some ⟨g5, 0, none⟩) cap5 _ hok hrd.out (h8'.out.drop 12)).mono ?_; rintro e w2 ⟨v2, rfl, hown2, hb2⟩)
      obtain ⟨A2, c2, rfl, hn2, hc2, hr2, hA2⟩ := Rd.own hown2
      have hr2' := Lib.hid hr2
      have hA2' := Lib.hid hA2
      have hrl : Hid (Rd w2 (some ad) (bs l)) := Lib.hid ((hr'.out.below hbw.out).below hb2)
      have hres2 : Hid (w2.heap[w.heap.size]? = some (.cells #[Value.int .i64 0, Value.int .i64 0, Value.int .i64 0, Value.int .i64 0, Value.slice none 0 0] 33 (0, 0))) := Lib.hid (bl_row hb2 hresc.out)
      have hbz : Hid (Below w.heap.size w w2) := Lib.hid (bl_then hbw.out (by omega) hb2)
      have hrow2 := bl_row hb2 hrow'.out
      have hx0 := box_cell hrow2 0
      have hx1 := box_cell hrow2 1
      have hx2 := box_cell hrow2 2
      have hx3 := box_cell hrow2 3
      have hx4 := box_cell hrow2 4
      simp only [List.getElem?_toArray, List.getElem?_cons_zero, List.getElem?_cons_succ] at hx0 hx1 hx2 hx3 hx4
      have hown3 : Hid (OwnB w2 W.heap.size (Value.slice (some { block := g5, off := 0 }) 52 cap5) (readP l).data) := Lib.hid (hown'.out.below hb2)
      clear hown2 hb2 hr2 hA2 hrow2
      have hbl : Hid ((readP l).bytes.length = 64) := Lib.hid (by simp [PartD.bytes, head_len, leN_len, hdl.out])
      have hb8 : Hid (Bytes8 (readP l).bytes) := Lib.hid (((head_8 _).append (leN_8 _ _)).append (h8'.out.drop 12))
      refine (equal_any A2 (some ad) 64 c2 64 c (readP l).bytes l w2 hbl.out hl'.out hr2'.out hA2'.out hrl.out (fun e => by cases e) hb8.out h8'.out).mono ?_
      rintro e w3 ⟨rfl, rfl⟩
      by_cases heq : (readP l).bytes = l
      · have hpd : Hid (parseD l = (readP l, true)) := Lib.hid (if_pos ⟨hl'.out, hok, heq⟩)
        have hdd : decide ((readP l).bytes = l) = true := by simpa using heq
        simp only [hdd]
        go_wp2_with (refine store_mid (by rfl) 33 _ _ rfl w.heap.size 0 #[Value.int .i64 (readP l).gen, Value.int .i64 (readP l).rc, Value.int .i64 (readP l).n, Value.int .i64 (readP l).ofn, Value.slice (some { block := g5, off := 0 }) 52 cap5] rfl rfl 33 [Value.int .i64 0, Value.int .i64 0, Value.int .i64 0, Value.int .i64 0, Value.slice none 0 0] hres2.out (by kernel_rfl) (by simp) (by simp [Value.oneCell']) ?_)
        have hr0 := setRow_heap w2 w.heap.size _ #[Value.int .i64 (readP l).gen, Value.int .i64 (readP l).rc, Value.int .i64 (readP l).n, Value.int .i64 (readP l).ofn, Value.slice (some { block := g5, off := 0 }) 52 cap5] 33 _ hres2.out
        exact bodyPost_ret (res_ct rfl _ _ w.heap.size 33 #[Value.int .i64 (readP l).gen, Value.int .i64 (readP l).rc, Value.int .i64 (readP l).n, Value.int .i64 (readP l).ofn, Value.slice (some { block := g5, off := 0 }) 52 cap5] (0, 0) _ rfl hr0 Try.underlying33 (by kernel_rfl) (by kernel_rfl)) rfl ⟨.slice (some { block := g5, off := 0 }) 52 cap5, by rw [hpd.out]; rfl, by rw [hpd.out]; exact OwnB.other (show OwnB w2 w.heap.size _ _ from own_weaken hown3.out (by omega)) hres2.out (by decide) _, below_setRow hbz.out (Nat.le_refl _) _⟩
      · have hpd : Hid (parseD l = (zeroP, false)) := Lib.hid (if_neg (fun h => heq h.2.2))
        have hdd : decide ((readP l).bytes = l) = false := by simpa using heq
        simp only [hdd]
        go_wp2_with (refine store_mid (by rfl) 33 _ _ rfl w.heap.size 0 #[Value.int .i64 0, Value.int .i64 0, Value.int .i64 0, Value.int .i64 0, Value.slice none 0 0] rfl rfl 33 [Value.int .i64 0, Value.int .i64 0, Value.int .i64 0, Value.int .i64 0, Value.slice none 0 0] hres2.out (by kernel_rfl) (by simp) (by simp [Value.oneCell']) ?_)
        have hr0 := setRow_heap w2 w.heap.size _ #[Value.int .i64 0, Value.int .i64 0, Value.int .i64 0, Value.int .i64 0, Value.slice none 0 0] 33 _ hres2.out
        exact bodyPost_ret (res_ct rfl _ _ w.heap.size 33 #[Value.int .i64 0, Value.int .i64 0, Value.int .i64 0, Value.int .i64 0, Value.slice none 0 0] (0, 0) _ rfl hr0 Try.underlying33 (by kernel_rfl) (by kernel_rfl)) rfl ⟨.slice none 0 0, by rw [hpd.out]; rfl, by rw [hpd.out]; exact own_nil _ _ _ _, below_setRow hbz.out (Nat.le_refl _) _⟩
    · go_wp2_with (first | (go_at_call 16; have hh := bytes_no (readP l) (some ⟨g5, 0, none⟩) cap5 wc hok (by rw [hdl.out]; decide); rw [hdl.out] at hh; refine hh.mono ?_; clear hh; rintro e w2 ⟨rfl, hb2⟩; have hres2 : Hid (w2.heap[w.heap.size]? = some (.cells #[Value.int .i64 0, Value.int .i64 0, Value.int .i64 0, Value.int .i64 0, Value.slice none 0 0] 33 (0, 0))) := Lib.hid (bl_row hb2 hresc.out); have hbz : Hid (Below w.heap.size w w2) := Lib.hid (bl_then hbw.out (by omega) hb2); clear hb2) | (refine store_mid (by rfl) 33 _ _ rfl w.heap.size 0 #[Value.int .i64 0, Value.int .i64 0, Value.int .i64 0, Value.int .i64 0, Value.slice none 0 0] rfl rfl 33 [Value.int .i64 0, Value.int .i64 0, Value.int .i64 0, Value.int .i64 0, Value.slice none 0 0] hres2.out (by kernel_rfl) (by simp) (by simp [Value.oneCell']) ?_))
      have hpd : Hid (parseD l = (zeroP, false)) := Lib.hid (if_neg (fun h => hok h.2.1))
      have hr0 := setRow_heap w2 w.heap.size _ #[Value.int .i64 0, Value.int .i64 0, Value.int .i64 0, Value.int .i64 0, Value.slice none 0 0] 33 _ hres2.out
      exact bodyPost_ret (res_ct rfl _ _ w.heap.size 33 #[Value.int .i64 0, Value.int .i64 0, Value.int .i64 0, Value.int .i64 0, Value.slice none 0 0] (0, 0) _ rfl hr0 Try.underlying33 (by kernel_rfl) (by kernel_rfl)) rfl ⟨.slice none 0 0, by rw [hpd.out]; rfl, by rw [hpd.out]; exact own_nil _ _ _ _, below_setRow hbz.out (Nat.le_refl _) _⟩
end Go.Proofs.Ytjlhajnficneoaa
