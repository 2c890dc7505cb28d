/- The walks: SectBytes. -/
import Derived.Test.YtjlhajnficneoaaSn
namespace Go.Proofs.Ytjlhajnficneoaa
set_option linter.unusedVariables false
set_option linter.unusedSimpArgs false
open Go.RowKit

theorem cells5 {W : World} {b : Nat} {z0 z1 z2 z3 z4 : Value} {t : TypeId} (h : W.heap[b]? = some (.cells #[z0, z1, z2, z3, z4] t (0, 0))) :
    W.cell? ⟨b, 0, none⟩ = some z0 ∧ W.cell? ⟨b, 1, none⟩ = some z1 ∧ W.cell? ⟨b, 2, none⟩ = some z2 ∧ W.cell? ⟨b, 3, none⟩ = some z3 ∧ W.cell? ⟨b, 4, none⟩ = some z4 :=
  ⟨box_cell h 0, box_cell h 1, box_cell h 2, box_cell h 3, box_cell h 4⟩

theorem kept3 {W : World} {b : Nat} {z0 z1 z2 z3 z4 x : Value} {t : TypeId} (h : W.heap[b]? = some (.cells #[z0, z1, z2, z3, z4] t (0, 0))) (o : Obj) : ((W.setCell ⟨b, 2, none⟩ x).alloc o).drew.cell? ⟨b, 3, none⟩ = some z3 := by
  have e1 : W.setCell ⟨b, 2, none⟩ x = W.setRow b #[z0, z1, x, z3, z4] := setCell_eq_setRow W b 2 _ t _ x h
  rw [e1]
  have h2 : ((W.setRow b #[z0, z1, x, z3, z4]).alloc o).drew.heap[b]? = some (.cells #[z0, z1, x, z3, z4] t (0, 0)) := blk_alloc (setRow_heap _ _ _ _ t _ h) o
  exact box_cell h2 3
/-- what the mutation leaves behind -/
def SwOut (w wx : World) (b : Nat) : Prop := ∃ (q : PartD) (A' : Option Addr) (c' : Nat), wx.heap[b]? = some (.cells #[.int .i64 q.gen, .int .i64 q.rc, .int .i64 q.n, .int .i64 q.ofn, .slice A' q.data.length c'] 28 (0, 0)) ∧ Rd wx A' (bs q.data) ∧ Bytes8 q.data ∧ q.data.length ≤ c' ∧ c' ≤ 9223372036854775807 ∧ (A' = none → q.data.length = 0 ∧ c' = 0) ∧ Below w.heap.size w wx

theorem SwOut.alloc {w wx : World} {b : Nat} (h : SwOut w wx b) (o : Obj) : SwOut w (wx.alloc o) b := by
  obtain ⟨q, A, c, h1, h2, h3, h4, h5, h6, h7⟩ := h
  exact ⟨q, A, c, blk_alloc h1 o, h2.below (bl_alloc (Below.refl _ _) _), h3, h4, h5, h6, bl_alloc h7 o⟩
theorem SwOut.drew {w wx : World} {b : Nat} (h : SwOut w wx b) : SwOut w wx.drew b := by
  obtain ⟨q, A, c, h1, h2, h3, h4, h5, h6, h7⟩ := h
  exact ⟨q, A, c, h1, h2.below (Below.refl _ _).drew, h3, h4, h5, h6, h7.drew⟩
theorem sw_set {w w9 : World} {b base : Nat} (i : Nat) {p : PartD} (q : PartD) {g cap : Nat} (x : Value) (hrow : w9.heap[b]? = some (.cells #[.int .i64 p.gen, .int .i64 p.rc, .int .i64 p.n, .int .i64 p.ofn, .slice (some ⟨g, 0, none⟩) 52 cap] 28 (0, 0)))
    (ho : OwnB w9 base (.slice (some ⟨g, 0, none⟩) 52 cap) p.data) (h8 : Bytes8 p.data) (hl : p.data.length = 52) (hb : Below w.heap.size w w9) (hwb : w.heap.size ≤ b) (hq : q.data = p.data)
    (hset : (#[.int .i64 p.gen, .int .i64 p.rc, .int .i64 p.n, .int .i64 p.ofn, .slice (some ⟨g, 0, none⟩) 52 cap] : Array Value).setIfInBounds i x = #[.int .i64 q.gen, .int .i64 q.rc, .int .i64 q.n, .int .i64 q.ofn, .slice (some ⟨g, 0, none⟩) 52 cap]) : SwOut w (w9.setCell ⟨b, i, none⟩ x) b := by
  have e1 := setCell_eq_setRow w9 b i _ 28 _ x hrow
  have e2 : w9.setCell ⟨b, i, none⟩ x = w9.setRow b #[.int .i64 q.gen, .int .i64 q.rc, .int .i64 q.n, .int .i64 q.ofn, .slice (some ⟨g, 0, none⟩) 52 cap] := by
    rw [e1]; exact congrArg (w9.setRow b) hset
  rw [e2]
  obtain ⟨A1, c1, e, f1, f2, f3, f4⟩ := Rd.own (OwnB.other ho hrow (by decide) #[.int .i64 q.gen, .int .i64 q.rc, .int .i64 q.n, .int .i64 q.ofn, .slice (some ⟨g, 0, none⟩) 52 cap])
  rw [hl] at e f1 f4
  cases e
  refine ⟨q, some ⟨g, 0, none⟩, cap, ?_, by rw [hq]; exact f3, by rw [hq]; exact h8, by rw [hq, hl]; exact f1, f2, (fun e => by cases e), below_setRow hb hwb _⟩
  rw [hq, hl]
  exact setRow_heap _ _ _ _ 28 _ hrow
theorem sw0 {w w9 : World} {b base : Nat} {p : PartD} {g cap : Nat} {v : Int} (hrow : w9.heap[b]? = some (.cells #[.int .i64 p.gen, .int .i64 p.rc, .int .i64 p.n, .int .i64 p.ofn, .slice (some ⟨g, 0, none⟩) 52 cap] 28 (0, 0)))
    (ho : OwnB w9 base (.slice (some ⟨g, 0, none⟩) 52 cap) p.data) (h8 : Bytes8 p.data) (hl : p.data.length = 52) (hb : Below w.heap.size w w9) (hwb : w.heap.size ≤ b) : SwOut w (w9.setCell ⟨b, 0, none⟩ (.int .i64 v)) b :=
  sw_set 0 ⟨v, p.rc, p.n, p.ofn, p.data⟩ _ hrow ho h8 hl hb hwb rfl rfl
theorem sw1 {w w9 : World} {b base : Nat} {p : PartD} {g cap : Nat} {v : Int} (hrow : w9.heap[b]? = some (.cells #[.int .i64 p.gen, .int .i64 p.rc, .int .i64 p.n, .int .i64 p.ofn, .slice (some ⟨g, 0, none⟩) 52 cap] 28 (0, 0)))
    (ho : OwnB w9 base (.slice (some ⟨g, 0, none⟩) 52 cap) p.data) (h8 : Bytes8 p.data) (hl : p.data.length = 52) (hb : Below w.heap.size w w9) (hwb : w.heap.size ≤ b) : SwOut w (w9.setCell ⟨b, 1, none⟩ (.int .i64 v)) b :=
  sw_set 1 ⟨p.gen, v, p.n, p.ofn, p.data⟩ _ hrow ho h8 hl hb hwb rfl rfl
theorem sw2 {w w9 : World} {b base : Nat} {p : PartD} {g cap : Nat} {v : Int} (hrow : w9.heap[b]? = some (.cells #[.int .i64 p.gen, .int .i64 p.rc, .int .i64 p.n, .int .i64 p.ofn, .slice (some ⟨g, 0, none⟩) 52 cap] 28 (0, 0)))
    (ho : OwnB w9 base (.slice (some ⟨g, 0, none⟩) 52 cap) p.data) (h8 : Bytes8 p.data) (hl : p.data.length = 52) (hb : Below w.heap.size w w9) (hwb : w.heap.size ≤ b) : SwOut w (w9.setCell ⟨b, 2, none⟩ (.int .i64 v)) b :=
  sw_set 2 ⟨p.gen, p.rc, v, p.ofn, p.data⟩ _ hrow ho h8 hl hb hwb rfl rfl
theorem sw3 {w w9 : World} {b base : Nat} {p : PartD} {g cap : Nat} {v : Int} (hrow : w9.heap[b]? = some (.cells #[.int .i64 p.gen, .int .i64 p.rc, .int .i64 p.n, .int .i64 p.ofn, .slice (some ⟨g, 0, none⟩) 52 cap] 28 (0, 0)))
    (ho : OwnB w9 base (.slice (some ⟨g, 0, none⟩) 52 cap) p.data) (h8 : Bytes8 p.data) (hl : p.data.length = 52) (hb : Below w.heap.size w w9) (hwb : w.heap.size ≤ b) : SwOut w (w9.setCell ⟨b, 3, none⟩ (.int .i64 v)) b :=
  sw_set 3 ⟨p.gen, p.rc, p.n, v, p.data⟩ _ hrow ho h8 hl hb hwb rfl rfl
theorem sw4 {w w9 : World} {b : Nat} {p : PartD} {g cap : Nat} {A : Option Addr} {c : Nat} {l : List Nat} (hrow : w9.heap[b]? = some (.cells #[.int .i64 p.gen, .int .i64 p.rc, .int .i64 p.n, .int .i64 p.ofn, .slice (some ⟨g, 0, none⟩) 52 cap] 28 (0, 0)))
    (hr : Rd w A (bs l)) (h8 : Bytes8 l) (hn : l.length ≤ c) (hc : c ≤ 9223372036854775807) (hA : A = none → l.length = 0 ∧ c = 0) (hb : Below w.heap.size w w9) (hwb : w.heap.size ≤ b) : SwOut w (w9.setCell ⟨b, 4, none⟩ (.slice A l.length c)) b := by
  have e2 : w9.setCell ⟨b, 4, none⟩ (.slice A l.length c) = w9.setRow b #[.int .i64 p.gen, .int .i64 p.rc, .int .i64 p.n, .int .i64 p.ofn, .slice A l.length c] := setCell_eq_setRow w9 b 4 _ 28 _ _ hrow
  rw [e2]
  exact ⟨⟨p.gen, p.rc, p.n, p.ofn, l⟩, A, c, setRow_heap _ _ _ _ 28 _ hrow, hr.below (below_setRow hb hwb _), h8, hn, hc, hA, below_setRow hb hwb _⟩
theorem sw5 {w w9 : World} {b base : Nat} {p : PartD} {g cap : Nat} (hrow : w9.heap[b]? = some (.cells #[.int .i64 p.gen, .int .i64 p.rc, .int .i64 p.n, .int .i64 p.ofn, .slice (some ⟨g, 0, none⟩) 52 cap] 28 (0, 0)))
    (ho : OwnB w9 base (.slice (some ⟨g, 0, none⟩) 52 cap) p.data) (h8 : Bytes8 p.data) (hl : p.data.length = 52) (hb : Below w.heap.size w w9) : SwOut w w9 b := by
  obtain ⟨A1, c1, e, f1, f2, f3, f4⟩ := Rd.own ho
  rw [hl] at e f1 f4
  cases e
  refine ⟨p, some ⟨g, 0, none⟩, cap, ?_, f3, h8, by rw [hl]; exact f1, f2, (fun e => by cases e), hb⟩
  rw [hl]
  exact hrow

set_option maxHeartbeats 4000000 in
set_option maxRecDepth 100000 in
theorem bytes_walk (w : World) (gen rc n ofn : Int) (A : Option Addr) (c : Nat) (l : List Nat) (which raw : Int) (hr : Rd w A (bs l)) (h8 : Bytes8 l) (hn : l.length ≤ c) (hc : c ≤ 9223372036854775807) (hA : A = none → l.length = 0 ∧ c = 0) :
    Calls Try.prog 4 #[.int .i64 gen, .int .i64 rc, .int .i64 n, .int .i64 ofn, .slice A l.length c, .int .i64 which, .int .i64 raw] w fun e w' => e = .returned (.bool true) ∧ Below w.heap.size w w' := by
  have hr' := Lib.hid hr
  have h8' := Lib.hid h8
  have hA' := Lib.hid hA
  clear hr h8 hA
  by_cases h3 : 200 < l.length
  · have hd : decide (200 < l.length) = true := by simpa using h3
    have hd2 : decide ((l.length : Int) > 200) = true := by simp; omega
    go_enter Try.func4, Try.ntmps4
    go_wp2_with (go_at_call 12; refine (known_any _).mono ?_; rintro e w1 ⟨rfl, hb1⟩)
    go_ret
    exact ⟨rfl, hb1⟩
  have hd : decide (200 < l.length) = false := by simpa using h3
  have hd2 : decide ((l.length : Int) > 200) = false := by simp; omega
  generalize hp : makeD gen rc n ofn l = p
  have hok : Hid p.ok := Lib.hid (hp ▸ makeD_ok gen rc n ofn l)
  have hp8 : Hid (Bytes8 p.data) := Lib.hid (hp ▸ makeD_8 gen rc n ofn h8'.out)
  have hpl : Hid (p.data.length = 52) := Lib.hid (hp ▸ makeD_len gen rc n ofn l)
  have hp' := Lib.hid hp
  have hbl := Lib.hid (bytes_len p hpl.out)
  have hb8 := Lib.hid (bytes_8 p hp8.out)
  have hpd := Lib.hid (parseD_bytes p hok.out)
  clear hp
  go_enter Try.func4, Try.ntmps4
  go_upto_block 0 with (first
    | (go_at_call 12; refine (known_any _).mono ?_; rintro e w1 ⟨rfl, hb1⟩; replace hb1 := Lib.hid hb1; have hrw1 := Lib.hid (hr'.out.below hb1.out))
    | (go_at_call 15; refine (make_at gen rc n ofn A c l w1 hrw1.out hn hc p hp'.out).mono ?_; rintro e w2 ⟨g, cap, rfl, hg, ho, hrd, hb2⟩; have hbw3 := Lib.hid (bl_alloc (bl_then hb1.out hb1.out.size hb2) (.cells #[.int .i64 p.gen, .int .i64 p.rc, .int .i64 p.n, .int .i64 p.ofn, .slice (some ⟨g, 0, none⟩) 52 cap] 28)); have hrow3 := Lib.hid (heap_alloc_new w2 (.cells #[.int .i64 p.gen, .int .i64 p.rc, .int .i64 p.n, .int .i64 p.ofn, .slice (some ⟨g, 0, none⟩) 52 cap] 28)); have hrd3 := Lib.hid (hrd.below (bl_alloc (Below.refl _ _) (.cells #[.int .i64 p.gen, .int .i64 p.rc, .int .i64 p.n, .int .i64 p.ofn, .slice (some ⟨g, 0, none⟩) 52 cap] 28))); have ho3 := Lib.hid (ho.below (bl_alloc (Below.refl _ _) (.cells #[.int .i64 p.gen, .int .i64 p.rc, .int .i64 p.n, .int .i64 p.ofn, .slice (some ⟨g, 0, none⟩) 52 cap] 28))); replace hb2 := Lib.hid hb2; clear hrd ho)
    | (go_at_call 16; refine (bytes_ok p (some ⟨g, 0, none⟩) cap _ hok.out hrd3.out hp8.out).mono ?_; rintro e w4 ⟨v4, rfl, ho4, hb4⟩; obtain ⟨A4, c4, rfl, hn4, hc4, hr4, hA4⟩ := Rd.own ho4; replace hr4 := Lib.hid hr4; replace hA4 := Lib.hid hA4; have hrow4 := Lib.hid (bl_row hb4 hrow3.out); replace hb4 := Lib.hid hb4; clear ho4)
    | (go_at_call 17; have hh := parse_any A4 c4 p.bytes w4 hr4.out hb8.out (by rw [hbl.out]; omega) hc4; rw [hbl.out, hpd.out] at hh; refine hh.mono ?_; clear hh; rintro e w5 ⟨v5, rfl, ho5, hb5⟩; have ho5' := ho5; unfold OwnB at ho5'; rw [hpl.out] at ho5'; obtain ⟨g5, cap5, rfl, hcap5, hg5⟩ := own_some ho5' (by decide); clear ho5'; simp only [PartD.val]; have hrow5 := Lib.hid (bl_row hb5 hrow4.out); obtain ⟨x0, x1, x2, x3, x4⟩ := cells5 hrow5.out; have hlt5 : w2.heap.size < w5.heap.size := (Array.getElem?_eq_some_iff.1 hrow5.out).1; have hrow6 := Lib.hid (heap_alloc_new w5 (.cells #[Value.int .i64 p.gen, Value.int .i64 p.rc, Value.int .i64 p.n, Value.int .i64 p.ofn, Value.slice (some ⟨g5, 0, none⟩) 52 cap5] 33)); have hrowa6 := Lib.hid (blk_alloc hrow5.out (.cells #[Value.int .i64 p.gen, Value.int .i64 p.rc, Value.int .i64 p.n, Value.int .i64 p.ofn, Value.slice (some ⟨g5, 0, none⟩) 52 cap5] 33)); have ho6 := Lib.hid (ho5.below (bl_alloc (Below.refl _ _) (.cells #[Value.int .i64 p.gen, Value.int .i64 p.rc, Value.int .i64 p.n, Value.int .i64 p.ofn, Value.slice (some ⟨g5, 0, none⟩) 52 cap5] 33))); have hb6 := Lib.hid (bl_alloc hb5 (.cells #[Value.int .i64 p.gen, Value.int .i64 p.rc, Value.int .i64 p.n, Value.int .i64 p.ofn, Value.slice (some ⟨g5, 0, none⟩) 52 cap5] 33)); replace hb5 := Lib.hid hb5; clear ho5)
    | (go_at_call 18; refine (refbytes_ok p (some ⟨g, 0, none⟩) cap (w5.alloc (.cells #[Value.int .i64 p.gen, Value.int .i64 p.rc, Value.int .i64 p.n, Value.int .i64 p.ofn, Value.slice (some ⟨g5, 0, none⟩) 52 cap5] 33)) hok.out ((hrd3.out.below hb4.out).below hb6.out) hp8.out).mono ?_; rintro e w7 ⟨v7, rfl, ho7, hb7⟩; obtain ⟨A7, c7, rfl, hn7, hc7, hr7, hA7⟩ := Rd.own ho7; have s1 := str_any A7 64 c7 p.bytes w7 hbl.out hr7 hA7; have s2 := str_any A4 64 c4 p.bytes w7 hbl.out ((hr4.out.below hb6.out).below hb7) hA4.out; have hrow7 := Lib.hid (bl_row hb7 hrow6.out); have hrowa7 := Lib.hid (bl_row hb7 hrowa6.out); obtain ⟨y0, y1, y2, y3, y4⟩ := cells5 hrow7.out; obtain ⟨x0, x1, x2, x3, x4⟩ := cells5 hrowa7.out; replace hb7 := Lib.hid hb7; clear ho7 hr7 hA7)
    | (go_at_call 19; have hh := same_any p p (.slice (some ⟨g5, 0, none⟩) 52 cap5) (.slice (some ⟨g, 0, none⟩) 52 cap) w7 (ho6.out.below hb7.out).slB (((ho3.out.below hb4.out).below hb6.out).below hb7.out).slB hp8.out hp8.out; simp only [PartD.val, and_self, decide_true] at hh; refine hh.mono ?_; clear hh; rintro e w8 ⟨rfl, hb8w⟩; replace hb8w := Lib.hid hb8w)
    | (go_at_call 20; refine (within_any which 6 _ (by decide) (by decide)).mono ?_; rintro e w' ⟨rfl, rfl⟩))
  have hrow8 := Lib.hid (bl_row hb8w.out hrowa7.out)
  have hbw8 : Hid (Below w.heap.size w w8) := Lib.hid (bl_then (bl_then (bl_then (bl_then hbw3.out hbw3.out.size hb4.out) (by have := hbw3.out.size; have := hb4.out.size; omega) hb6.out) (by have := hbw3.out.size; have := hb4.out.size; have := hb6.out.size; omega) hb7.out) (by have := hbw3.out.size; have := hb4.out.size; have := hb6.out.size; have := hb7.out.size; omega) hb8w.out)
  have ho8 : Hid (OwnB w8 w1.heap.size (.slice (some ⟨g, 0, none⟩) 52 cap) p.data) := Lib.hid ((((ho3.out.below hb4.out).below hb6.out).below hb7.out).below hb8w.out)
  have hsz8 : w1.heap.size ≤ w2.heap.size := hb2.out.size
  have hsz1 : w.heap.size ≤ w1.heap.size := hb1.out.size
  have hb15 : w2.heap.size < w8.heap.size := (Array.getElem?_eq_some_iff.1 hrow8.out).1
  clear hrow3 hrow4 hrow5 hrow6 hrow7 hrowa6 hrowa7 x0 x1 x2 x3 x4 y0 y1 y2 y3 y4 s1 s2 ho3 ho6 hr4 hA4 hrd3 hbw3 hb4 hb6 hb7 hb8w hb5 hb2
  have hk : which % 6 = 0 ∨ which % 6 = 1 ∨ which % 6 = 2 ∨ which % 6 = 3 ∨ which % 6 = 4 ∨ which % 6 = 5 := by omega
  have hj : raw % 3 = 0 ∨ raw % 3 = 1 ∨ raw % 3 = 2 := by omega
  go_cut [82, 83, 92, 101, 112, 121] (fun _ _ _ _ _ _ wx => SwOut w wx w2.heap.size)
  case first =>
    obtain ⟨x0, x1, x2, x3, x4, j0, j1, j2, j3, j4⟩ := box_facts hrow8.out
    rcases hk with e | e | e | e | e | e <;> rw [e] <;> clear e hd hd2
    case inl =>
      rcases hj with e | e | e
      all_goals go_wp2_with (go_at_call 20; refine (within_any raw 3 _ (by decide) (by decide)).mono ?_; rintro e' w' ⟨rfl, rfl⟩; rw [e])
      all_goals go_meet
      all_goals exact (sw0 hrow8.out ho8.out hp8.out hpl.out hbw8.out (by omega)).alloc _
    case inr.inl =>
      rcases hj with e | e | e
      all_goals go_wp2_with (go_at_call 20; refine (within_any raw 3 _ (by decide) (by decide)).mono ?_; rintro e' w' ⟨rfl, rfl⟩; rw [e])
      all_goals go_meet
      all_goals exact (sw1 hrow8.out ho8.out hp8.out hpl.out hbw8.out (by omega)).alloc _
    case inr.inr.inr.inl =>
      rcases hj with e | e | e
      all_goals go_wp2_with (go_at_call 20; refine (within_any raw 3 _ (by decide) (by decide)).mono ?_; rintro e' w' ⟨rfl, rfl⟩; rw [e])
      all_goals go_meet
      all_goals exact (sw3 hrow8.out ho8.out hp8.out hpl.out hbw8.out (by omega)).alloc _
    case inr.inr.inr.inr.inl =>
      go_wp2_with fail
      go_meet
      exact sw4 hrow8.out hr'.out h8'.out hn hc hA'.out hbw8.out (by omega)
    case inr.inr.inr.inr.inr =>
      go_wp2_with fail
      go_meet
      exact sw5 hrow8.out ho8.out hp8.out hpl.out hbw8.out
    case inr.inr.inl =>
      go_upto_region 17 with fail
      have kk : Hid (∀ W', Below w8.heap.size w8 W' → W'.cell? ⟨w2.heap.size, 3, none⟩ = some (.int .i64 p.ofn)) := Lib.hid (fun W' hb => box_cell (bl_row hb hrow8.out) 3)
      have x3d := kk.out _ (Below.refl _ _).drew
      rcases hj with e | e | e
      all_goals
        go_region_with (first | (go_at_call 20; refine (within_any raw 3 _ (by decide) (by decide)).mono ?_; rintro e' w' ⟨rfl, rfl⟩; rw [e]))
      all_goals (go_wp2_with fail)
      all_goals go_meet
      all_goals exact ((sw2 hrow8.out ho8.out hp8.out hpl.out hbw8.out (by omega)).alloc _).drew
  case rest =>
    obtain ⟨q, B, d, hrow, hrd, hq8, hqn, hqc, hqA, hb⟩ := hcut
    replace hq8 := Lib.hid hq8
    replace hqA := Lib.hid hqA
    replace hb := Lib.hid hb
    have hsz := hb.out.size
    have hltc : w2.heap.size < wc.heap.size := (Array.getElem?_eq_some_iff.1 hrow).1
    clear hrow8 ho8 hbw8 hk hj
    by_cases hqo : q.ok
    · have hql : q.data.length = 52 := hqo.2.2.2.2.2.2.2.2
      rw [hql] at hrow hqA hqn
      replace hql := Lib.hid hql
      replace hqo := Lib.hid hqo
      obtain ⟨x0, x1, x2, x3, x4⟩ := cells5 hrow
      replace hrow := Lib.hid hrow
      replace hrd := Lib.hid hrd
      have hqb := Lib.hid (bytes_len q hql.out)
      clear hd hd2
      go_wp2_with (first
        | (go_at_call 16; refine (bytes_ok q B d _ hqo.out hrd.out hq8.out).mono ?_; rintro e w10 ⟨v10, rfl, ho10, hb10⟩; obtain ⟨A10, c10, rfl, hn10, hc10, hr10, hA10⟩ := Rd.own ho10; replace hr10 := Lib.hid hr10; replace hA10 := Lib.hid hA10; have hrow10 := Lib.hid (bl_row hb10 hrow.out); obtain ⟨x0, x1, x2, x3, x4⟩ := cells5 hrow10.out; replace hb10 := Lib.hid hb10; clear ho10)
        | (go_at_call 18; refine (refbytes_ok q B d _ hqo.out (hrd.out.below hb10.out) hq8.out).mono ?_; rintro e w11 ⟨v11, rfl, ho11, hb11⟩; obtain ⟨A11, c11, rfl, hn11, hc11, hr11, hA11⟩ := Rd.own ho11; have s1 := str_any A10 64 c10 q.bytes w11 hqb.out (hr10.out.below hb11) hA10.out; have s2 := str_any A11 64 c11 q.bytes w11 hqb.out hr11 hA11; replace hb11 := Lib.hid hb11; clear ho11 hr11 hA11))
      go_ret
      exact ⟨ret_bool (by simp), bl_then (bl_then hb.out hsz hb10.out) (by have := hb10.out.size; omega) hb11.out⟩
    · replace hqo := Lib.hid hqo
      obtain ⟨x0, x1, x2, x3, x4⟩ := cells5 hrow
      replace hrow := Lib.hid hrow
      have hq9 : q.data.length ≤ 9223372036854775807 := by omega
      have s0 := fun w1 => str_any none 0 0 [] w1 rfl (Rd.nil _ _) (fun _ => ⟨rfl, rfl⟩)
      clear hd hd2
      go_wp2_with (first
        | (go_at_call 16; refine (bytes_no q B d _ hqo.out hq9).mono ?_; rintro e w10 ⟨rfl, hb10⟩; have hrow10 := Lib.hid (bl_row hb10 hrow.out); obtain ⟨x0, x1, x2, x3, x4⟩ := cells5 hrow10.out; replace hb10 := Lib.hid hb10)
        | (go_at_call 18; refine (refbytes_no q B d _ hqo.out hq9).mono ?_; rintro e w11 ⟨rfl, hb11⟩; replace hb11 := Lib.hid hb11))
      go_ret
      exact ⟨ret_bool (by simp), bl_then (bl_then hb.out hsz hb10.out) (by have := hb10.out.size; omega) hb11.out⟩
end Go.Proofs.Ytjlhajnficneoaa
