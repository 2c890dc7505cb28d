/- RankHeavy: each place comes once, none lighter stands ahead of a heavier one. -/
import Derived.Test.YtdhklfbelplbcaaGn
import Derived.Test.YtdhklfbelplbcaaGo
import Derived.Test.YtdhklfbelplbcaaGp
import Derived.Deep.RegionHeld3
namespace Go.Proofs.Ytdhklfbelplbcaa
set_option linter.unusedVariables false
set_option linter.unusedSimpArgs false
open Go.RowKit Go.Maps

theorem info9 : (Try.prog.info? 9).map (fun i => (i.zero, i.size, i.bytes)) = some (some (.string ⟨#[]⟩), 1, 16) := by kernel_rfl
theorem info4 : (Try.prog.info? 4).map (fun i => (i.zero, i.size, i.bytes)) = some (some (.bool false), 1, 1) := by kernel_rfl
/-- the name of a number -/
def nm5 (m : Nat) : ByteArray := if m = 0 then ⟨#[97]⟩ else if m = 1 then ⟨#[98]⟩ else if m = 2 then ⟨#[99]⟩ else if m = 3 then ⟨#[100]⟩ else ⟨#[101]⟩
theorem nm_size (x : Int) : (nm x).size ≤ maxLen := by
  unfold nm nmN
  (repeat' split) <;> decide
theorem strs_len (l : List ByteArray) : (strs l).length = l.length := by simp [strs, enc]

/-- which places have been seen -/
def seenR (n : Nat) (f : Nat → Nat) (k : Nat) : List Value := (List.range n).map fun p => Value.bool (((List.range k).map f).contains p)
theorem seenR_zero (n : Nat) (f : Nat → Nat) : zer (.bool false) n = seenR n f 0 := by
  apply List.ext_getElem
  · simp [zer, seenR]
  · intro i h1 h2; simp [zer, seenR]
theorem seenR_at {n : Nat} {f : Nat → Nat} {k : Nat} (hp : PermN n f) (hk : k < n) : (seenR n f k)[f k]? = some (.bool false) := by
  have h1 := hp.1 k hk
  simp only [seenR, List.getElem?_map, List.getElem?_range h1, Option.map_some, Option.some.injEq, Value.bool.injEq]
  rw [Bool.eq_false_iff]
  intro h
  simp only [List.contains_iff_mem, List.mem_map, List.mem_range] at h
  obtain ⟨j, hj, e⟩ := h
  have := hp.2 j k (by omega) hk e
  omega
theorem seenR_set {n : Nat} {f : Nat → Nat} {k : Nat} (hk : f k < n) : (seenR n f k).set (f k) (.bool true) = seenR n f (k + 1) := by
  apply List.ext_getElem
  · simp [seenR]
  · intro i h1 h2
    simp only [seenR, List.getElem_set, List.getElem_map, List.getElem_range, List.range_succ, List.map_append, List.map_cons, List.map_nil]
    by_cases e : f k = i
    · subst e; simp
    · rw [if_neg e]
      congr 1
      rw [Bool.eq_iff_iff]
      simp only [List.contains_iff_mem, List.mem_append, List.mem_singleton]
      constructor
      · exact .inl
      · rintro (h | h)
        · exact h
        · exact absurd h.symm e
/-- the world while the places are looked at -/
structure HvSt (w5 : World) (n : Nat) (f : Nat → Nat) (k : Nat) (W : World) : Prop where
  hB : Below w5.heap.size w5 W
  sn : W.heap[w5.heap.size]? = some (.cells (seenR n f k).toArray 4 (0, 0))
theorem HvSt.start (w5 : World) (n : Nat) (f : Nat → Nat) : HvSt w5 n f 0 (w5.alloc (.cells (zer (.bool false) n).toArray 4)) := by
  rw [seenR_zero n f]
  exact ⟨bl_alloc (Below.refl _ _) _, heap_alloc_new w5 _⟩
theorem HvSt.below {w5 W W' : World} {n k : Nat} {f : Nat → Nat} (h : HvSt w5 n f k W) (hb : Below W.heap.size W W') : HvSt w5 n f k W' := ⟨bl_then h.hB h.hB.size hb, bl_row hb h.sn⟩
theorem HvSt.drewN {w5 W : World} {n k : Nat} {f : Nat → Nat} (h : HvSt w5 n f k W) (q : Nat) : HvSt w5 n f k (W.drewN q) := ⟨bl_drewN h.hB q, h.sn⟩
theorem HvSt.drew {w5 W : World} {n k : Nat} {f : Nat → Nat} (h : HvSt w5 n f k W) : HvSt w5 n f k W.drew := ⟨h.hB.drew, h.sn⟩
theorem HvSt.cell {w5 W : World} {n k : Nat} {f : Nat → Nat} (h : HvSt w5 n f k W) (hp : PermN n f) (hk : k < n) : W.cell? ⟨w5.heap.size, f k, none⟩ = some (.bool false) ∧ W.frozen? ⟨w5.heap.size, f k, none⟩ = false := by
  refine ⟨?_, by simp [World.frozen?, h.sn]⟩
  rw [cell_of_row W _ (f k) _ 4 (0, 0) h.sn]
  simpa using seenR_at hp hk
theorem HvSt.step {w5 W : World} {n k : Nat} {f : Nat → Nat} (h : HvSt w5 n f k W) (hk : f k < n) : HvSt w5 n f (k + 1) (W.setCell ⟨w5.heap.size, f k, none⟩ (.bool true)) := by
  refine ⟨h.hB.setCell (by simp) _, ?_⟩
  rw [setCell_eq_setRow W _ (f k) _ 4 (0, 0) _ h.sn, List.setIfInBounds_toArray, seenR_set hk]
  exact setRow_heap W _ _ _ 4 _ h.sn
theorem cmp_keys {o1 o2 : Option Nat} {r1 r2 : Nat} {v : Int} (h1 : IsO o1 r1) (h2 : IsO o2 r2) (h : cmpI (keyO o1) (keyO o2) = v) : cmpF r1 r2 = v := by
  rw [cmpF_key, h1.key, h2.key, h]

set_option maxHeartbeats 4000000 in
set_option maxRecDepth 100000 in
theorem rankheavy_any (w : World) (A A2 A3 : Option Addr) (c c2 c3 : Nat) (ns ws bs : List Int) (hr : Rd w A (ints ns)) (hn : ns.length ≤ c) (hc : c ≤ 9223372036854775807) (hr2 : Rd w A2 (ints ws)) (hn2 : ws.length ≤ c2) (hc2 : c2 ≤ 9223372036854775807) (hr3 : Rd w A3 (ints bs)) (hn3 : bs.length ≤ c3) (hc3 : c3 ≤ 9223372036854775807) :
    Calls Try.prog 9 #[.slice A ns.length c, .slice A2 ws.length c2, .slice A3 bs.length c3] w fun e w' => e = .returned (.bool true) ∧ Below w.heap.size w w' := by
  have hr' := Lib.hid hr
  have hr2' := Lib.hid hr2
  have hr3' := Lib.hid hr3
  clear hr hr2 hr3
  go_enter Try.func9, Try.ntmps9
  go_upto_block 0 with (first
    | (go_at_call 11; refine (known_any _).mono ?_; rintro e w1 ⟨rfl, hb1⟩; have hr1 := Lib.hid (hr'.out.below hb1); have hB1 := Lib.hid hb1; clear hb1)
    | (go_at_call 25; refine (races_any w1 A c ns hr1.out hn hc).mono ?_; rintro e w2 ⟨B, d, vs, rfl, hR, hvd, hdm, hvs, hb2⟩; have hR2 := Lib.hid hR; have hvs' := Lib.hid hvs; have hB2 := Lib.hid (bl_then hB1.out hB1.out.size hb2); clear hR hvs hb2))
  have hv30 : vs.length ≤ 30 := by rw [hvs'.out]; simp; omega
  have hvz : Hid (∀ x ∈ vs, x.size ≤ maxLen) := Lib.hid (fun x hx => by
    rw [hvs'.out] at hx
    obtain ⟨y, _, rfl⟩ := List.mem_map.1 hx
    exact nm_size y)
  obtain ⟨wb, hwb⟩ : ∃ x, x = w2.alloc (.cells #[.slice B vs.length d, .slice none 0 0, .slice none 0 0] 48) := ⟨_, rfl⟩
  rw [← hwb]
  have hRb : Hid (RaceR wb B vs) := Lib.hid (by rw [hwb]; exact hR2.out.below (bl_alloc (Below.refl _ _) _))
  have hBb : Hid (Below w.heap.size w wb) := Lib.hid (by rw [hwb]; exact bl_alloc hB2.out _)
  obtain ⟨g, hg⟩ : ∃ g, g = w2.heap.size := ⟨_, rfl⟩
  have hbx : Hid (wb.heap[g]? = some (.cells #[.slice B vs.length d, .slice none 0 0, .slice none 0 0] 48 (0, 0))) := Lib.hid (by rw [hwb, hg]; exact heap_alloc_new w2 _)
  rw [← hg]
  replace hwb := Lib.hid hwb
  replace hg := Lib.hid hg
  have hbb := hBb.out.size
  go_cut [8, 9] (fun v i wr => ∃ cs : List ByteArray, cs.length ≤ 8 ∧ wr.ownsRow wb.heap.size 9 1 v cs.length (strs cs) ∧ Below wb.heap.size wb wr)
  case first =>
    go_wp2_with fail
    go_loopw [8, 9] (fun v i wr => ∃ (cs : List ByteArray) (k : Nat), i = .int .i64 (k : Nat) ∧ k ≤ 8 ∧ k ≤ bs.length ∧ cs.length = k ∧ wr.ownsRow wb.heap.size 9 1 v k (strs cs) ∧ Below wb.heap.size wb wr) (fun _ i _ => 8 - (intOf i).toNat)
    case atStart => exact ⟨[], 0, rfl, by omega, by omega, rfl, own_nil _ _ _ _, Below.refl _ _⟩
    case round =>
      obtain ⟨cs, k, rfl, hk, hk2, hl, hown, hb⟩ := hrel
      have hown' := Lib.hid hown
      have hb' := Lib.hid hb
      have hsz := hb.size
      have hl' := Lib.hid hl
      clear hown hb hl
      by_cases h1 : k < bs.length
      · have hd1 : decide (k < bs.length) = true := by simpa using h1
        have hd1b : decide ((k : Int) < (bs.length : Int)) = true := by simp; omega
        by_cases h2 : k < 8
        · have hd2 : decide ((k : Int) < 8) = true := by simp; omega
          obtain ⟨ad, x, rfl, hx, hxe⟩ := (hr3'.out.below (bl_then hBb.out hbb hb'.out)).at k h1
          obtain ⟨m, hm, hmi⟩ : ∃ m : Nat, m < 5 ∧ x % 5 = (m : Int) := ⟨(x % 5).toNat, by omega, by omega⟩
          have hcs : (wr.alloc (.cells #[.string ⟨#[97]⟩, .string ⟨#[98]⟩, .string ⟨#[99]⟩, .string ⟨#[100]⟩, .string ⟨#[101]⟩] 9)).cell? ⟨wr.heap.size, m, none⟩ = some (.string (nm5 m)) := by
            rw [cell_of_row _ wr.heap.size m _ 9 (0, 0) (heap_alloc_new wr _)]
            rcases (by omega : m = 0 ∨ m = 1 ∨ m = 2 ∨ m = 3 ∨ m = 4) with rfl | rfl | rfl | rfl | rfl <;> rfl
          have hxa := bl_cell (bl_alloc (Below.refl wr.heap.size wr) (.cells #[.string ⟨#[97]⟩, .string ⟨#[98]⟩, .string ⟨#[99]⟩, .string ⟨#[100]⟩, .string ⟨#[101]⟩] 9)) hx
          have k1 : (0 : Int) ≤ (k : Int) := by omega
          have k2 : (k : Int) < (bs.length : Int) := by omega
          have k3 : (0 : Int) ≤ (m : Int) := by omega
          have k4 : (m : Int) < 5 := by omega
          clear hxe
          replace hmi := Lib.hid hmi
          go_wp2_with (first
            | (go_at_call 18; refine (within_any _ _ _ (by omega) (by omega)).mono ?_; rintro e w' ⟨rfl, rfl⟩; rw [hmi.out])
            | (at_builtin; refine app_lit (w0 := wb) wb.heap.size rfl _ _ 52 9 (.string ⟨#[]⟩) 1 16 rfl Try.underlying52 info9 rfl (by decide) (by decide) _ k (strs cs) rfl (own_below hown'.out (bl_alloc (Below.refl _ _) _)) (bl_alloc hb'.out _) (by simp; omega) 1 1 [.string (nm5 m)] (by rw [show (wr.alloc (.cells #[.string ⟨#[97]⟩, .string ⟨#[98]⟩, .string ⟨#[99]⟩, .string ⟨#[100]⟩, .string ⟨#[101]⟩] 9)).heap.size = wr.heap.size + 1 by simp]; rfl) rfl (by simp [Value.oneCell']) (by omega) ?_; intro v3 w3 hown3 hb3 hg3 hat3; clear hg3 hat3))
          go_roundw
          case rel => exact ⟨cs ++ [nm5 m], k + 1, by go_num, by omega, by omega, by simp [hl'.out], by simpa [strs, enc] using hown3, hb3⟩
          case measure => simp [intOf]; omega
        · have hd2 : decide ((k : Int) < 8) = false := by simp; omega
          go_wp2_with fail
          go_meet
          case rel => exact ⟨cs, by rw [hl'.out]; omega, by rw [hl'.out]; exact hown'.out, hb'.out⟩
      · have hd1 : decide (k < bs.length) = false := by simpa using h1
        have hd1b : decide ((k : Int) < (bs.length : Int)) = false := by simp; omega
        go_wp2_with fail
        go_meet
        case rel => exact ⟨cs, by rw [hl'.out]; omega, by rw [hl'.out]; exact hown'.out, hb'.out⟩
  case rest =>
    obtain ⟨cs, hcs, hown, hbc⟩ := hcut
    obtain ⟨A4, c4, rfl, hn4, hc4, hr4, hA4⟩ := Rd.own hown
    replace hr4 := Lib.hid hr4
    replace hA4 := Lib.hid hA4
    replace hown := Lib.hid hown
    replace hbc := Lib.hid hbc
    have hBc := Lib.hid (bl_then hBb.out hbb hbc.out)
    have hrc2 := Lib.hid (hr2'.out.below hBc.out)
    go_upto_block 2 with (first
      | (go_at_call 12; refine (floats_any A2 c2 ws wc hrc2.out hn2 hc2).mono ?_; rintro e w4 ⟨v4, l, rfl, hl20, ho4, hb4⟩; obtain ⟨A5, c5, rfl, hn5, hc5, hr5, hA5⟩ := Rd.own ho4; replace hr5 := Lib.hid hr5; replace hA5 := Lib.hid hA5; clear ho4; have hR4 := Lib.hid (hRb.out.below (bl_then hbc.out hbc.out.size hb4)); have hx4 := Lib.hid (bl_row (bl_then hbc.out hbc.out.size hb4) hbx.out); have hr44 := Lib.hid (hr4.out.below hb4); have hB4 := Lib.hid (bl_then hBc.out hBc.out.size hb4); clear hb4; have q0 : w4.cell? ⟨g, 0, none⟩ = some (.slice B vs.length d) := (by rw [cell_of_row _ _ 0 _ 48 (0, 0) hx4.out]; rfl); have q1 : w4.cell? ⟨g, 1, none⟩ = some (.slice none 0 0) := (by rw [cell_of_row _ _ 1 _ 48 (0, 0) hx4.out]; rfl); have q2 : w4.cell? ⟨g, 2, none⟩ = some (.slice none 0 0) := (by rw [cell_of_row _ _ 2 _ 48 (0, 0) hx4.out]; rfl))
      | (go_at_call 23; refine (order_any w4 B none none A4 A5 d 0 0 0 0 c4 c5 vs cs l hR4.out hr44.out hr5.out hvd hdm hv30 hn4 hc4 hn5 hc5 hvz.out).mono ?_; rintro e w5 ⟨gd, f, rfl, hrow, hperm, hseg, hb5, hgd⟩; have hmk : ∀ w, (Instr.makeSlice 59 (.int .i64 (vs.length : Nat)) (.int .i64 (vs.length : Nat))).run Try.prog w = .ok (.slice (some ⟨w.heap.size, 0, none⟩) vs.length vs.length) (w.alloc (.cells (zer (.bool false) vs.length).toArray 4)) := (fun w => mk_row 59 4 (.bool false) 1 Try.underlying59 info4 rfl vs.length (by omega) (by omega) w); clear q0 q1 q2; have hx5 := Lib.hid (bl_row hb5 hx4.out); have hR5 := Lib.hid (hR4.out.below hb5); have hr45 := Lib.hid (hr44.out.below hb5); have hr55 := Lib.hid (hr5.out.below hb5); have hB5 := Lib.hid (bl_then hB4.out hB4.out.size hb5); clear hb5; replace hrow := Lib.hid hrow; replace hperm := Lib.hid hperm; replace hseg := Lib.hid hseg; have q0 : w5.cell? ⟨g, 0, none⟩ = some (.slice B vs.length d) := (by rw [cell_of_row _ _ 0 _ 48 (0, 0) hx5.out]; rfl)))
    have hz5 := hgd
    have hcell : Hid (∀ p, p < vs.length → w5.cell? ⟨gd, p, none⟩ = some (.int .i64 (f p : Nat))) := Lib.hid (fun p hp => by
      rw [cell_of_row w5 gd p _ 3 (0, 0) hrow.out]; simp [rowF, hp])
    have hxx := hx5.out
    have p0 : w5.cell? ⟨g, 0, none⟩ = some (.slice B vs.length d) := by rw [cell_of_row _ _ 0 _ 48 (0, 0) hxx]; rfl
    have p1 : w5.cell? ⟨g, 1, none⟩ = some (.slice none 0 0) := by rw [cell_of_row _ _ 1 _ 48 (0, 0) hxx]; rfl
    have p2 : w5.cell? ⟨g, 2, none⟩ = some (.slice none 0 0) := by rw [cell_of_row _ _ 2 _ 48 (0, 0) hxx]; rfl
    have hP0 := Lib.hid p0
    have hP1 := Lib.hid p1
    have hP2 := Lib.hid p2
    clear hxx p0 p1 p2 q0 hmk
    go_wp2_with fail
    go_loopw [13, 14] (fun i o wr => ∃ k : Nat, i = .int .i64 (k : Nat) ∧ k ≤ vs.length ∧ HvSt w5 vs.length f k wr) (fun i _ _ => vs.length - (intOf i).toNat)
    case atStart => exact ⟨0, rfl, Nat.zero_le _, HvSt.start _ _ _⟩
    case round =>
      obtain ⟨k, rfl, hk, hH⟩ := hrel
      by_cases hlt : k < vs.length
      · have hd : decide (k < vs.length) = true := by simpa using hlt
        have hd2 : decide ((k : Int) < (vs.length : Int)) = true := by simp; omega
        have k1 : (0 : Int) ≤ (k : Int) := by omega
        have k2 : (k : Int) < (vs.length : Int) := by omega
        have c0 := bl_cell hH.hB (hcell.out k hlt)
        obtain ⟨s0, s1⟩ := hH.cell hperm.out hlt
        have hfk := hperm.out.1 k hlt
        have f1 : (0 : Int) ≤ (f k : Int) := by omega
        have f2 : (f k : Int) < (vs.length : Int) := by omega
        have f3 : decide ((f k : Int) < 0) = false := by simp
        have f4 : decide ((vs.length : Int) ≤ (f k : Int)) = false := by simp; omega
        have f5 : decide (vs.length ≤ f k) = false := by simp; omega
        have hst := Lib.hid (hH.step hfk)
        replace hH := Lib.hid hH
        rcases Nat.eq_zero_or_pos k with rfl | hk0
        · go_wp2_with fail
          exact ⟨⟨1, by go_num, by omega, hst.out⟩, by simp [intOf]; omega⟩
        · have g1 : decide ((0 : Int) < (k : Int)) = true := by simp; omega
          have g2 : decide (0 < k) = true := by simp; omega
          go_upto_region 21 with fail
          generalize hW1 : wr.setCell ⟨w5.heap.size, f k, none⟩ (.bool true) = W1 at hst ⊢
          replace hW1 := Lib.hid hW1
          clear c0 s0 s1
          obtain ⟨m, hm⟩ : ∃ m, k = m + 1 := ⟨k - 1, by omega⟩
          have hm1 : m < vs.length := by omega
          have hmk : (k : Int) - 1 = (m : Int) := by omega
          have hwm : IntKind.i64.wrap ((k : Int) - 1) = (m : Int) := by rw [hmk]; exact IntWalk.i64_in _ (by omega)
          have m1 : (0 : Int) ≤ (m : Int) := by omega
          have m2 : (m : Int) < (vs.length : Int) := by omega
          have hBW : Hid (Below w5.heap.size w5 W1.drew) := Lib.hid hst.out.hB.drew
          have hSd : W1.drew.cell? ⟨g, 0, none⟩ = some (.slice B vs.length d) ∧ W1.drew.cell? ⟨g, 1, none⟩ = some (.slice none 0 0) ∧ W1.drew.cell? ⟨g, 2, none⟩ = some (.slice none 0 0) ∧ W1.drew.cell? ⟨gd, m, none⟩ = some (.int .i64 (f m : Nat)) ∧ W1.drew.cell? ⟨gd, k, none⟩ = some (.int .i64 (f k : Nat)) :=
            ⟨bl_cell hBW.out hP0.out, bl_cell hBW.out hP1.out, bl_cell hBW.out hP2.out, bl_cell hBW.out (hcell.out m hm1), bl_cell hBW.out (hcell.out k hlt)⟩
          have hSk : Hid (∀ w', Below W1.drew.heap.size W1.drew w' → (w'.cell? ⟨g, 0, none⟩ = some (.slice B vs.length d) ∧ w'.cell? ⟨g, 1, none⟩ = some (.slice none 0 0) ∧ w'.cell? ⟨g, 2, none⟩ = some (.slice none 0 0) ∧ w'.cell? ⟨gd, m, none⟩ = some (.int .i64 (f m : Nat)) ∧ w'.cell? ⟨gd, k, none⟩ = some (.int .i64 (f k : Nat)))) :=
            Lib.hid (fun w' hb => ⟨bl_cell hb hSd.1, bl_cell hb hSd.2.1, bl_cell hb hSd.2.2.1, bl_cell hb hSd.2.2.2.1, bl_cell hb hSd.2.2.2.2⟩)
          have hfm := hperm.out.1 m hm1
          have hw1 := Lib.hid (refweight_any W1.drew B none none A4 A5 d 0 0 0 0 c4 c5 vs cs l (f m) hfm (hR5.out.below hBW.out) (hr45.out.below hBW.out) (hr55.out.below hBW.out) hvd hdm (by omega) hn4 hc4 hn5 hc5)
          have hw2 : Hid (∀ w', Below W1.drew.heap.size W1.drew w' → Calls Try.prog 26 #[.agg #[.slice B vs.length d, .slice none 0 0, .slice none 0 0], .int .i64 (f k : Nat), .slice A4 cs.length c4, .slice A5 l.length c5] w' fun e w'' => ∃ r, e = .returned (.float .f64 r) ∧ IsO (mulO (wtP cs l (vs[f k]?.getD ByteArray.empty) cs.length) (cntP vs (vs[f k]?.getD ByteArray.empty) vs.length)) r ∧ Below w'.heap.size w' w'') :=
            Lib.hid (fun w' hb => refweight_any w' B none none A4 A5 d 0 0 0 0 c4 c5 vs cs l (f k) hfk (hR5.out.below (bl_then hBW.out hBW.out.size hb)) (hr45.out.below (bl_then hBW.out hBW.out.size hb)) (hr55.out.below (bl_then hBW.out hBW.out.size hb)) hvd hdm (by omega) hn4 hc4 hn5 hc5)
          have hlk := hseg.out m k (Nat.zero_le _) (by omega) hlt
          unfold LtK at hlk
          have hcmp : Hid (cmpI (keyR vs cs l (f m)) (keyR vs cs l (f k)) = 1 ∨ (cmpI (keyR vs cs l (f m)) (keyR vs cs l (f k)) = 0 ∧ f m < f k)) := Lib.hid (by
            unfold cmpI
            rcases hlk with h | ⟨h, h'⟩
            · left; rw [if_neg (by omega), if_pos h]
            · right; rw [if_neg (by omega), if_neg (by omega)]; exact ⟨rfl, h'⟩)
          unfold keyR at hcmp
          clear hlk hfm
          replace hm := Lib.hid hm
          replace hmk := Lib.hid hmk
          rcases hcmp.out with hc1 | ⟨hc1, hc2⟩
          · replace hc1 := Lib.hid hc1
            clear hcmp
            go_region_held3 (fun w' => w'.cell? ⟨g, 0, none⟩ = some (.slice B vs.length d) ∧ w'.cell? ⟨g, 1, none⟩ = some (.slice none 0 0) ∧ w'.cell? ⟨g, 2, none⟩ = some (.slice none 0 0) ∧ w'.cell? ⟨gd, m, none⟩ = some (.int .i64 (f m : Nat)) ∧ w'.cell? ⟨gd, k, none⟩ = some (.int .i64 (f k : Nat)))
              (first | with_reducible exact hSd | exact hSk.out _ hb9.out | exact hSk.out _ hb8.out)
              (first
                | (go_at_call 26; with_reducible refine hw1.out.mono ?_; rintro e w8 ⟨r1, rfl, hi1, hb8⟩; replace hi1 := Lib.hid hi1; replace hb8 := Lib.hid hb8)
                | (go_at_call 26; with_reducible refine (hw2.out w8 hb8.out).mono ?_; rintro e w9 ⟨r2, rfl, hi2, hb9⟩; replace hb9 := Lib.hid (bl_then hb8.out hb8.out.size hb9); have hcc := Lib.hid (cmp_keys hi1.out hi2 hc1.out); clear hi2)
                | (go_at_call 13; refine (cmp_any _ _ _).mono ?_; rintro e w' ⟨rfl, rfl⟩; rw [hcc.out]))
            go_wp2_with fail
            go_quiet (fail)
            go_wp2_with fail
            exact ⟨⟨k + 1, by go_num, by omega, (hst.out.drew.below hb9.out).drewN _⟩, by simp [intOf]; omega⟩
          · have e1 : decide ((f k : Int) < (f m : Int)) = false := by simp; omega
            have e2 : decide (f k < f m) = false := by simp; omega
            replace hc1 := Lib.hid hc1
            clear hcmp
            go_region_held3 (fun w' => w'.cell? ⟨g, 0, none⟩ = some (.slice B vs.length d) ∧ w'.cell? ⟨g, 1, none⟩ = some (.slice none 0 0) ∧ w'.cell? ⟨g, 2, none⟩ = some (.slice none 0 0) ∧ w'.cell? ⟨gd, m, none⟩ = some (.int .i64 (f m : Nat)) ∧ w'.cell? ⟨gd, k, none⟩ = some (.int .i64 (f k : Nat)))
              (first | with_reducible exact hSd | exact hSk.out _ hb9.out | exact hSk.out _ hb8.out)
              (first
                | (go_at_call 26; with_reducible refine hw1.out.mono ?_; rintro e w8 ⟨r1, rfl, hi1, hb8⟩; replace hi1 := Lib.hid hi1; replace hb8 := Lib.hid hb8)
                | (go_at_call 26; with_reducible refine (hw2.out w8 hb8.out).mono ?_; rintro e w9 ⟨r2, rfl, hi2, hb9⟩; replace hb9 := Lib.hid (bl_then hb8.out hb8.out.size hb9); have hcc := Lib.hid (cmp_keys hi1.out hi2 hc1.out); clear hi2)
                | (go_at_call 13; refine (cmp_any _ _ _).mono ?_; rintro e w' ⟨rfl, rfl⟩; rw [hcc.out]))
            go_wp2_with fail
            go_quiet (fail)
            go_wp2_with fail
            exact ⟨⟨k + 1, by go_num, by omega, (hst.out.drew.below hb9.out).drewN _⟩, by simp [intOf]; omega⟩
      · have hd : decide (k < vs.length) = false := by simpa using hlt
        have hd2 : decide ((k : Int) < (vs.length : Int)) = false := by simp; omega
        go_wp2_with fail
        go_ret
        exact ⟨rfl, bl_then hB5.out hB5.out.size hH.hB⟩
theorem rankheavy_row (w : World) (A : Option Addr) (c : Nat) (ns : List Int) (hr : Rd w A (ints ns)) (hn : ns.length ≤ c) (hc : c ≤ 9223372036854775807) (_ : ∀ x ∈ ns, (Lit.int .i64 x).wf = true)
    (A2 : Option Addr) (c2 : Nat) (ws : List Int) (hr2 : Rd w A2 (ints ws)) (hn2 : ws.length ≤ c2) (hc2 : c2 ≤ 9223372036854775807) (_ : ∀ x ∈ ws, (Lit.int .i64 x).wf = true)
    (A3 : Option Addr) (c3 : Nat) (bs : List Int) (hr3 : Rd w A3 (ints bs)) (hn3 : bs.length ≤ c3) (hc3 : c3 ≤ 9223372036854775807) (_ : ∀ x ∈ bs, (Lit.int .i64 x).wf = true) :
    Calls Try.prog 9 #[.slice A ns.length c, .slice A2 ws.length c2, .slice A3 bs.length c3] w fun e w' => e = .returned (.bool true) ∧ Below w.heap.size w w' :=
  rankheavy_any w A A2 A3 c c2 c3 ns ws bs hr hn hc hr2 hn2 hc2 hr3 hn3 hc3
end Go.Proofs.Ytdhklfbelplbcaa
