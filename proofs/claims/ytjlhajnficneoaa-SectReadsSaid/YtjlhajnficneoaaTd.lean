/- The walks: SectReads. -/
import Derived.Test.YtjlhajnficneoaaSw
import Derived.Test.YtjlhajnficneoaaSm
import Derived.Deep.RegionHeld3
namespace Go.Proofs.Ytjlhajnficneoaa
set_option linter.unusedVariables false
set_option linter.unusedSimpArgs false
open Go.RowKit

/-- one of the bytes that are read -/
theorem byte_at {w : World} {A : Option Addr} {l : List Nat} (h : Rd w A (bs l)) (k : Nat) (hk : k < l.length) : ∃ ad, A = some ad ∧ w.cell? (ad.add k) = some (.int .u8 ((l[k] : Nat) : Int)) := by
  obtain ⟨ad, hA, -⟩ := h k (by rw [bs_length]; exact hk)
  subst hA
  refine ⟨ad, rfl, ?_⟩
  have h1 := h.get k (by rw [bs_length]; exact hk)
  have h2 : w.cell? (ad.add k) = some (.int .u8 ((l[k] : Nat) : Int)) := by simpa [bs, enc, by_] using h1
  exact h2

theorem bs_put' (l : List Nat) (i x : Nat) : (bs l).set i (by_ x) = bs (l.set i x) := by simp [bs, enc, List.map_set]
/-- the turned word, behind the loop -/
def ReadsOut (w3 wx : World) (g cap : Nat) : Prop := ∃ zs : List Nat, zs.length = 64 ∧ Bytes8 zs ∧ wx.ownsRow w3.heap.size 5 1 (.slice (some ⟨g, 0, none⟩) 64 cap) 64 (bs zs) ∧ Below w3.heap.size w3 wx

theorem blk_ne {g g0 n cap n0 c0 z S : Nat} (hat : (Value.slice (some ⟨g, 0, none⟩) n cap).ownBlock = (Value.slice (some ⟨g0, 0, none⟩) n0 c0).ownBlock ∨ ∃ b, (Value.slice (some ⟨g, 0, none⟩) n cap).ownBlock = some b ∧ S ≤ b) (h1 : g0 ≠ z) (h2 : z < S) : g ≠ z := by
  rcases hat with h | ⟨b, h, h'⟩
  · simp only [Value.ownBlock, Option.some.injEq] at h
    omega
  · simp only [Value.ownBlock, Option.some.injEq] at h
    omega
theorem cells5a {W : World} {b : Nat} {z0 z1 z2 z3 z4 : Value} {t : TypeId} (h : W.heap[b]? = some (.cells #[z0, z1, z2, z3, z4] t (0, 0))) :
    W.cell? ⟨b, 0, none⟩ = some z0 ∧ W.cell? ⟨b, 1, none⟩ = some z1 ∧ W.cell? ⟨b, 2, none⟩ = some z2 ∧ W.cell? ⟨b, 3, none⟩ = some z3 ∧ W.cell? ⟨b, 4, none⟩ = some z4 :=
  ⟨box_cell h 0, box_cell h 1, box_cell h 2, box_cell h 3, box_cell h 4⟩
/-- a slice of bytes that can be read, its bounds with it -/
def SlC (w : World) (v : Value) (l : List Nat) : Prop := ∃ A c, v = .slice A l.length c ∧ Rd w A (bs l) ∧ (A = none → l.length = 0 ∧ c = 0) ∧ l.length ≤ c ∧ c ≤ 9223372036854775807
theorem SlC.below {w w' : World} {v : Value} {l : List Nat} (h : SlC w v l) (hb : Below w.heap.size w w') : SlC w' v l := by
  obtain ⟨A, c, e, h1, h2⟩ := h
  exact ⟨A, c, e, h1.below hb, h2⟩
theorem sl_own {w : World} {base n : Nat} {v : Value} {l : List Nat} (h : w.ownsRow base 5 1 v n (bs l)) (hl : l.length = n) : SlC w v l := by
  subst hl
  obtain ⟨A, c, e, h1, h2, h3, h4⟩ := Rd.own h
  exact ⟨A, c, e, h3, h4, h1, h2⟩
/-- slices of bytes that lie in a row of slices -/
def ListsAt (w : World) (g : Nat) (ls : List (List Nat)) : Prop := ∀ i, ∀ h : i < ls.length, ∃ v, SlC w v ls[i] ∧ w.cell? ⟨g, i, none⟩ = some v
theorem lists5 {w : World} {v0 v1 v2 v3 v4 : Value} {l0 l1 l2 l3 l4 : List Nat} (h0 : SlC w v0 l0) (h1 : SlC w v1 l1) (h2 : SlC w v2 l2) (h3 : SlC w v3 l3) (h4 : SlC w v4 l4) : ListsAt (w.alloc (.cells #[v0, v1, v2, v3, v4] 22)) w.heap.size [l0, l1, l2, l3, l4] := by
  have hb : Below w.heap.size w (w.alloc (.cells #[v0, v1, v2, v3, v4] 22)) := bl_alloc (Below.refl _ _) _
  have hrow := heap_alloc_new w (.cells #[v0, v1, v2, v3, v4] 22)
  intro i hi
  match i, hi with
  | 0, _ => exact ⟨v0, h0.below hb, box_cell hrow 0⟩
  | 1, _ => exact ⟨v1, h1.below hb, box_cell hrow 1⟩
  | 2, _ => exact ⟨v2, h2.below hb, box_cell hrow 2⟩
  | 3, _ => exact ⟨v3, h3.below hb, box_cell hrow 3⟩
  | 4, _ => exact ⟨v4, h4.below hb, box_cell hrow 4⟩
theorem lists_fin {w wc wx : World} {zs pb raw : List Nat} {g4 cap4 g3 cap3 q g6 cap6 c3 zb b0 b1 : Nat} {A3 : Option Addr} (hbx : Below wc.heap.size wc wx) (hbw : Below w.heap.size w wc) (hs : w.heap.size ≤ wc.heap.size)
    (hoz : wc.ownsRow b0 5 1 (.slice (some ⟨g4, 0, none⟩) 64 cap4) 64 (bs zs)) (hzl : zs.length = 64) (hrd : Rd wc (some ⟨g3, 0, none⟩) (bs pb)) (hpl : pb.length = 64) (hq : q < 65) (hc3 : 64 ≤ cap3 ∧ cap3 ≤ 9223372036854775807)
    (ho6 : wx.ownsRow b1 5 1 (.slice (some ⟨g6, 0, none⟩) (64 + raw.length) cap6) (64 + raw.length) (bs pb ++ bs raw)) (hraw : Rd wc A3 (bs raw)) (hA3 : A3 = none → raw.length = 0 ∧ c3 = 0) (hn3 : raw.length ≤ c3) (hm3 : c3 ≤ 9223372036854775807)
    (hZ : wx.heap[zb]? = some (.cells (zer (.int .u8 0) 64).toArray 5 (0, 0))) :
    ∃ g, Value.slice (some ⟨wx.heap.size, 0, none⟩) 5 5 = .slice (some ⟨g, 0, none⟩) 5 5 ∧
      ListsAt (wx.alloc (.cells #[.slice (some ⟨g4, 0, none⟩) 64 cap4, .slice (some ⟨g3, 0, none⟩) q cap3, .slice (some ⟨g6, 0, none⟩) (64 + raw.length) cap6, .slice A3 raw.length c3, .slice (some ⟨zb, 0, none⟩) 64 64] 22)) g [zs, pb.take q, pb ++ raw, raw, List.replicate 64 0] ∧
      Below w.heap.size w (wx.alloc (.cells #[.slice (some ⟨g4, 0, none⟩) 64 cap4, .slice (some ⟨g3, 0, none⟩) q cap3, .slice (some ⟨g6, 0, none⟩) (64 + raw.length) cap6, .slice A3 raw.length c3, .slice (some ⟨zb, 0, none⟩) 64 64] 22)) := by
  refine ⟨_, rfl, lists5 ((sl_own hoz hzl).below hbx) ?_ (sl_own (by rw [bs_append]; exact ho6) (by rw [List.length_append, hpl])) ⟨A3, c3, rfl, hraw.below hbx, hA3, hn3, hm3⟩ ?_, bl_alloc (bl_then hbw hs hbx) _⟩
  · refine ⟨some ⟨g3, 0, none⟩, cap3, ?_, ?_, (fun e => by cases e), ?_, hc3.2⟩
    · rw [List.length_take, hpl, Nat.min_eq_left (by omega)]
    · have := (hrd.below hbx).take q
      simpa [bs, enc, List.map_take] using this
    · rw [List.length_take]; omega
  · refine ⟨some ⟨zb, 0, none⟩, 64, rfl, ?_, (fun e => by cases e), by simp, by omega⟩
    rw [← zer_bs]
    exact rd_row hZ
theorem parseD_8 {l : List Nat} (h : Bytes8 l) : Bytes8 (parseD l).1.data := by
  unfold parseD
  split
  · exact h.drop 12
  · exact Bytes8.nil

set_option maxHeartbeats 4000000 in
set_option maxRecDepth 100000 in
theorem reads_walk (w : World) (gen rc n ofn : Int) (A : Option Addr) (c : Nat) (l : List Nat) (hr : Rd w A (bs l)) (h8 : Bytes8 l) (hn : l.length ≤ c) (hc : c ≤ 9223372036854775807) (hA : A = none → l.length = 0 ∧ c = 0)
    (A1 : Option Addr) (c1 : Nat) (ats : List Int) (hr1 : Rd w A1 (enc (Value.int .i64) ats)) (hn1 : ats.length ≤ c1) (hc1 : c1 ≤ 9223372036854775807)
    (A2 : Option Addr) (c2 : Nat) (ys : List Nat) (hr2 : Rd w A2 (bs ys)) (h82 : Bytes8 ys) (hn2 : ys.length ≤ c2) (hc2 : c2 ≤ 9223372036854775807) (hA2 : A2 = none → ys.length = 0 ∧ c2 = 0)
    (cut : Int) (A3 : Option Addr) (c3 : Nat) (raw : List Nat) (hr3 : Rd w A3 (bs raw)) (h83 : Bytes8 raw) (hn3 : raw.length ≤ c3) (hc3 : c3 ≤ 9223372036854775807) (hA3 : A3 = none → raw.length = 0 ∧ c3 = 0) :
    Calls Try.prog 5 #[.int .i64 gen, .int .i64 rc, .int .i64 n, .int .i64 ofn, .slice A l.length c, .slice A1 ats.length c1, .slice A2 ys.length c2, .int .i64 cut, .slice A3 raw.length c3] w fun e w' => e = .returned (.bool true) ∧ Below w.heap.size w w' := by
  have hr' := Lib.hid hr
  have h8' := Lib.hid h8
  have hr1' := Lib.hid hr1
  have hr2' := Lib.hid hr2
  have h82' := Lib.hid h82
  have hr3' := Lib.hid hr3
  have h83' := Lib.hid h83
  have hA3' := Lib.hid hA3
  clear hr h8 hA hr1 hr2 h82 hr3 h83 hA2 hA3
  by_cases h3 : 200 < l.length
  · have hd : decide (200 < l.length) = true := by simpa using h3
    have hd2 : decide ((l.length : Int) > 200) = true := by simp; omega
    go_enter Try.func5, Try.ntmps5
    go_wp2_with (go_at_call 12; refine (known_any _).mono ?_; rintro e w1 ⟨rfl, hb1⟩)
    go_ret
    exact ⟨rfl, hb1⟩
  have hd : decide (200 < l.length) = false := by simpa using h3
  have hd2 : decide ((l.length : Int) > 200) = false := by simp; omega
  by_cases h4 : 200 < raw.length
  · have he : decide (200 < raw.length) = true := by simpa using h4
    have he2 : decide ((raw.length : Int) > 200) = true := by simp; omega
    go_enter Try.func5, Try.ntmps5
    go_wp2_with (go_at_call 12; refine (known_any _).mono ?_; rintro e w1 ⟨rfl, hb1⟩)
    go_ret
    exact ⟨rfl, hb1⟩
  have he : decide (200 < raw.length) = false := by simpa using h4
  have he2 : decide ((raw.length : Int) > 200) = false := by simp; omega
  generalize hp : makeD gen rc n ofn l = p
  have hok : Hid p.ok := Lib.hid (hp ▸ makeD_ok gen rc n ofn l)
  have hp8 : Hid (Bytes8 p.data) := Lib.hid (hp ▸ makeD_8 gen rc n ofn h8'.out)
  have hpl : Hid (p.data.length = 52) := Lib.hid (hp ▸ makeD_len gen rc n ofn l)
  have hp' := Lib.hid hp
  have hbl := Lib.hid (bytes_len p hpl.out)
  have hb8 := Lib.hid (bytes_8 p hp8.out)
  clear hp
  go_enter Try.func5, Try.ntmps5
  go_upto_block 0 with (first
    | (go_at_call 12; refine (known_any _).mono ?_; rintro e w1 ⟨rfl, hb1⟩; replace hb1 := Lib.hid hb1; have hrw1 := Lib.hid (hr'.out.below hb1.out))
    | (go_at_call 15; refine (make_at gen rc n ofn A c l w1 hrw1.out hn hc p hp'.out).mono ?_; rintro e w2 ⟨g, cap, rfl, hg, ho, hrd, hb2⟩; replace hrd := Lib.hid hrd; replace hb2 := Lib.hid (bl_then hb1.out hb1.out.size hb2); clear ho hrw1)
    | (go_at_call 18; refine (refbytes_ok p (some ⟨g, 0, none⟩) cap w2 hok.out hrd.out hp8.out).mono ?_; rintro e w3 ⟨v3, rfl, ho3, hb3⟩; obtain ⟨g3, cap3, rfl, hn3a, hg3⟩ := own_some ho3 (by decide); have hm3 : cap3 ≤ 9223372036854775807 := (by obtain ⟨A', c', e, -, h, -⟩ := Rd.own ho3; cases e; exact h); have hrd3 : Hid (Rd w3 (some ⟨g3, 0, none⟩) (bs p.bytes)) := Lib.hid (by obtain ⟨A', c', e, -, -, h, -⟩ := Rd.own ho3; cases e; exact h); replace ho3 := Lib.hid ho3; have hb3w := Lib.hid (bl_then hb2.out hb2.out.size hb3); replace hb3 := Lib.hid hb3; clear hrd)
    | (at_builtin; refine app_src (w0 := w3) w3.heap.size (by rfl) _ _ 22 5 (.int .u8 0) 1 1 rfl Try.underlying22 info5 rfl (by decide) (by decide) _ 0 [] rfl (own_lit w3 w3.heap.size 5 1 0 [] (Nat.le_refl _) rfl (by omega)) ((Below.refl _ _).alloc (Nat.le_refl _) _) (by simp) (some ⟨g3, 0, none⟩) 64 cap3 (bs p.bytes) rfl (by rw [bs_length, hbl.out]) (hrd3.out.below (bl_alloc (Below.refl _ _) _)) (fun e => by cases e) (bs_one _) (by decide) ?_; rintro v4 w4 ho4 hb4 - -; rw [Nat.zero_add, List.nil_append] at ho4; obtain ⟨g4, cap4, rfl, hn4, hg4⟩ := own_some ho4 (by decide); replace ho4 := Lib.hid ho4; replace hb4 := Lib.hid hb4))
  have hb4w := Lib.hid (bl_then hb3w.out hb3w.out.size hb4.out)
  have hs3 := hb3w.out.size
  clear hd hd2 he he2 ho3 hb3 hb2
  go_cut [22] (fun _ wx => ReadsOut w3 wx g4 cap4)
  case first =>
    go_wp2_with fail
    go_loopw [22] (fun i wr => ∃ (k : Nat) (zs : List Nat), i = .int .i64 k ∧ k ≤ 3 ∧ k ≤ ats.length ∧ k ≤ ys.length ∧ zs.length = 64 ∧ Bytes8 zs ∧ wr.ownsRow w3.heap.size 5 1 (.slice (some ⟨g4, 0, none⟩) 64 cap4) 64 (bs zs) ∧ Below w3.heap.size w3 wr) (fun i _ => 3 - (intOf i).toNat)
    case atStart => exact ⟨0, p.bytes, rfl, by omega, by omega, by omega, hbl.out, hb8.out, ho4.out, hb4.out⟩
    case round =>
      obtain ⟨k, zs, rfl, hk, hka, hky, hzl, hz8, hoz, hblz⟩ := hrel
      replace hoz := Lib.hid hoz
      replace hblz := Lib.hid hblz
      replace hz8 := Lib.hid hz8
      have hbw := Lib.hid (bl_then hb3w.out hs3 hblz.out)
      by_cases hlt : k < ats.length ∧ k < ys.length ∧ k < 3
      · obtain ⟨l1, l2, l3⟩ := hlt
        have d1 : decide (k < ats.length) = true := by simpa using l1
        have d2 : decide (k < ys.length) = true := by simpa using l2
        have d3 : decide (k < 3) = true := by simpa using l3
        have d4 : decide ((k : Int) < 3) = true := by simp; omega
        obtain ⟨ad1, hx1, x1⟩ : ∃ ad, A1 = some ad ∧ wr.drew.cell? (ad.add k) = some (.int .i64 ats[k]) := by
          obtain ⟨ad, x, h1, h2, h3⟩ := (hr1'.out.below hbw.out.drew).at k l1
          exact ⟨ad, h1, by rw [← h3]; exact h2⟩
        obtain ⟨ad2, hx2, x2⟩ := byte_at (hr2'.out.below hbw.out.drew) k l2
        subst hx1 hx2
        obtain ⟨q, hq, hqe⟩ : ∃ q : Nat, q < 64 ∧ ats[k] % 64 = (q : Int) := ⟨(ats[k] % 64).toNat, by omega, by omega⟩
        replace hqe := Lib.hid hqe
        have x3 : wr.drew.cell? ⟨g4, q, none⟩ = some (.int .u8 ((zs[q]'(by omega) : Nat) : Int)) := own_get (own_below hoz.out (Below.refl _ _).drew) (by simp [bs, enc, by_, hzl, hq])
        have z3 : wr.drew.frozen? ⟨g4, q, none⟩ = false := (own_put (own_below hoz.out (Below.refl _ _).drew) q hq undef).2.1
        go_upto_region 10 with fail
        go_region_with (first | (go_at_call 20; refine (within_any ats[k] 64 _ (by decide) (by decide)).mono ?_; rintro e' w' ⟨rfl, rfl⟩; rw [hqe.out]))
        all_goals (go_wp2_with fail)
        all_goals
          have hp := own_put hoz.out q hq (by_ ((zs[q]'(by omega) + ys[k]) % 256))
          rw [bs_put', show by_ ((zs[q]'(by omega) + ys[k]) % 256) = Value.int .u8 ((((zs[q]'(by omega) : Nat) : Int) + ((ys[k] : Nat) : Int)) % 256) by unfold by_; congr 1] at hp
          refine ⟨⟨k + 1, zs.set q ((zs[q]'(by omega) + ys[k]) % 256), by go_num, by omega, by omega, by omega, by simpa using hzl, ?_, own_below hp.1 (Below.refl _ _).drew, (hp.2.2 _ _ hblz.out (Nat.le_refl _)).drew⟩, by simp [intOf]; omega⟩
          intro x hx
          rcases List.mem_or_eq_of_mem_set hx with h | h
          · exact hz8.out x h
          · omega
      · have hout : ReadsOut w3 wr g4 cap4 := ⟨zs, hzl, hz8.out, hoz.out, hblz.out⟩
        replace hout := Lib.hid hout
        clear hoz hblz hz8 hbw
        by_cases l1 : k < ats.length
        · have d1 : decide (k < ats.length) = true := by simpa using l1
          by_cases l2 : k < ys.length
          · have d2 : decide (k < ys.length) = true := by simpa using l2
            have d3 : decide (k < 3) = false := by simp; omega
            have d4 : decide ((k : Int) < 3) = false := by simp; omega
            go_wp2_with fail
            go_meet
            exact hout.out
          · have d2 : decide (k < ys.length) = false := by simpa using l2
            go_wp2_with fail
            go_meet
            exact hout.out
        · have d1 : decide (k < ats.length) = false := by simpa using l1
          go_wp2_with fail
          go_meet
          exact hout.out
  case rest =>
    obtain ⟨zs, hzl, hz8, hoz, hblz⟩ := hcut
    have hbwc := Lib.hid (bl_then hb3w.out hs3 hblz)
    have hrdc := Lib.hid (hrd3.out.below hblz)
    have hrawc := Lib.hid (hr3'.out.below hbwc.out)
    replace hoz := Lib.hid hoz
    replace hblz := Lib.hid hblz
    replace hz8 := Lib.hid hz8
    have hsc := hbwc.out.size
    obtain ⟨q, hq, hqe⟩ : ∃ q : Nat, q < 65 ∧ cut % 65 = (q : Int) := ⟨(cut % 65).toNat, by omega, by omega⟩
    replace hqe := Lib.hid hqe
    have hqc : (q : Int) ≤ (cap3 : Int) := by omega
    have hmk : ∀ w, (Instr.makeSlice 22 (.int .i64 64) (.int .i64 64)).run Try.prog w = .ok (.slice (some ⟨w.heap.size, 0, none⟩) 64 64) (w.alloc (.cells (zer (.int .u8 0) 64).toArray 5)) := mk_row (P := Try.prog) 22 5 (.int .u8 0) 1 Try.underlying22 info5 rfl 64 (by omega) (by omega)
    go_upto_region 11 with fail
    go_cut [23] (fun v wx => ∃ g, v = .slice (some ⟨g, 0, none⟩) 5 5 ∧ ListsAt wx g [zs, p.bytes.take q, p.bytes ++ raw, raw, List.replicate 64 0] ∧ Below w.heap.size w wx)
    case first =>
      go_region_held3 (fun _ => True) (first | trivial) (first
        | (go_at_call 20; refine (within_any cut 65 _ (by decide) (by decide)).mono ?_; rintro e' w' ⟨rfl, rfl⟩; rw [hqe.out])
        | (refine step_app wc.heap.size rfl _ _ 22 5 (.int .u8 0) 1 1 rfl Try.underlying22 info5 rfl (by decide) (by decide) (.slice (some ⟨wc.heap.size, 0, none⟩) 0 0) 0 [] rfl (own_below (own_lit wc wc.heap.size 5 1 0 [] (Nat.le_refl _) rfl (by omega)) (Below.refl _ _).drew) (by simp) (some ⟨g3, 0, none⟩) 64 cap3 (bs p.bytes) rfl (by rw [bs_length, hbl.out]) (hrdc.out.below (bl_alloc (Below.refl _ _) _).drew) (fun e => by cases e) (bs_one _) (by decide) ?_; rintro v5 w5 ho5 hb5 hg5 hat5; rw [Nat.zero_add, List.nil_append] at ho5; obtain ⟨g5, cap5, rfl, hcap5, hgg5⟩ := own_some ho5 (by decide); replace ho5 := Lib.hid ho5; replace hb5 := Lib.hid ((bl_alloc (Below.refl _ _) _).drew.trans hb5); clear hg5 hat5)
        | (refine step_app wc.heap.size rfl _ _ 22 5 (.int .u8 0) 1 1 rfl Try.underlying22 info5 rfl (by decide) (by decide) (.slice (some ⟨wc.heap.size, 0, none⟩) 0 0) 0 [] rfl (own_below (own_lit wc wc.heap.size 5 1 0 [] (Nat.le_refl _) rfl (by omega)) (bl_alloc (Below.refl _ _) (Obj.cells (zer (.int .u8 0) 64).toArray 5)).drew) (by simp <;> omega) (some ⟨g3, 0, none⟩) 64 cap3 (bs p.bytes) rfl (by rw [bs_length, hbl.out]) (hrdc.out.below (bl_alloc (bl_alloc (Below.refl _ _) _) _).drew) (fun e => by cases e) (bs_one _) (by decide) ?_; rintro v5 w5 ho5 hb5 hg5 hat5; rw [Nat.zero_add, List.nil_append] at ho5; obtain ⟨g5, cap5, rfl, hcap5, hgg5⟩ := own_some ho5 (by decide); replace ho5 := Lib.hid ho5; replace hb5 := Lib.hid ((bl_alloc (bl_alloc (Below.refl _ _) _) _).drew.trans hb5); have hZ5 : Hid (w5.heap[wc.heap.size + 1]? = some (Obj.cells (zer (.int .u8 0) 64).toArray 5 (0, 0))) := Lib.hid (by rw [show wc.heap.size + 1 = (wc.alloc (Obj.cells (#[] : Array Value) 5)).heap.size by simp]; exact grown_new hg5 (by simp [Value.ownBlock])); have hne5 : g5 ≠ wc.heap.size + 1 := blk_ne hat5 (by omega) (by simp <;> omega); clear hg5 hat5)
        | (refine step_app wc.heap.size rfl _ _ 22 5 (.int .u8 0) 1 1 rfl Try.underlying22 info5 rfl (by decide) (by decide) (.slice (some ⟨wc.heap.size + 1, 0, none⟩) 0 0) 0 [] rfl (by have h := own_below (own_lit (wc.alloc (Obj.cells (zer (.int .u8 0) 64).toArray 5)) wc.heap.size 5 1 0 [] (by simp) rfl (by omega)) (Below.refl _ _).drew; rw [show (wc.alloc (Obj.cells (zer (.int .u8 0) 64).toArray 5)).heap.size = wc.heap.size + 1 by simp] at h; exact h) (by simp <;> omega) (some ⟨g3, 0, none⟩) 64 cap3 (bs p.bytes) rfl (by rw [bs_length, hbl.out]) (hrdc.out.below (bl_alloc (bl_alloc (Below.refl _ _) _) _).drew) (fun e => by cases e) (bs_one _) (by decide) ?_; rintro v5 w5 ho5 hb5 hg5 hat5; rw [Nat.zero_add, List.nil_append] at ho5; obtain ⟨g5, cap5, rfl, hcap5, hgg5⟩ := own_some ho5 (by decide); replace ho5 := Lib.hid ho5; replace hb5 := Lib.hid ((bl_alloc (bl_alloc (Below.refl _ _) _) _).drew.trans hb5); have hZ5 : Hid (w5.heap[wc.heap.size]? = some (Obj.cells (zer (.int .u8 0) 64).toArray 5 (0, 0))) := Lib.hid (grown_old hg5 (by simp [Value.ownBlock])); have hne5 : g5 ≠ wc.heap.size := blk_ne hat5 (by omega) (by simp <;> omega); clear hg5 hat5)
        | (have hq5 := hZ5.out; refine step_app wc.heap.size rfl _ _ 22 5 (.int .u8 0) 1 1 rfl Try.underlying22 info5 rfl (by decide) (by decide) (.slice (some ⟨g5, 0, none⟩) 64 cap5) 64 (bs p.bytes) rfl ho5.out (by have := hb5.out.size; simp <;> omega) A3 raw.length c3 (bs raw) rfl (by rw [bs_length, Nat.mul_one]) (hrawc.out.below hb5.out) hA3'.out (bs_one _) (by omega) ?_; rintro v6 w6 ho6 hb6 hg6 -; obtain ⟨g6, cap6, rfl, hcap6, hgg6⟩ := own_some ho6 (by omega); replace ho6 := Lib.hid ho6; replace hb6 := Lib.hid (hb5.out.trans hb6); have hZ6 := Lib.hid (grown_row hg6 hq5 (by simp [Value.ownBlock]; omega)); clear hg6)
        | (refine step_app wc.heap.size rfl _ _ 22 5 (.int .u8 0) 1 1 rfl Try.underlying22 info5 rfl (by decide) (by decide) (.slice (some ⟨g5, 0, none⟩) 64 cap5) 64 (bs p.bytes) rfl (own_below ho5.out (bl_alloc (Below.refl _ _) _)) (by have := hb5.out.size; simp <;> omega) A3 raw.length c3 (bs raw) rfl (by rw [bs_length, Nat.mul_one]) (hrawc.out.below (hb5.out.alloc hb5.out.size _)) hA3'.out (bs_one _) (by omega) ?_; rintro v6 w6 ho6 hb6 hg6 -; obtain ⟨g6, cap6, rfl, hcap6, hgg6⟩ := own_some ho6 (by omega); replace ho6 := Lib.hid ho6; replace hb6 := Lib.hid ((hb5.out.alloc hb5.out.size _).trans hb6); have hZ6 : Hid (w6.heap[w5.heap.size]? = some (Obj.cells (zer (.int .u8 0) 64).toArray 5 (0, 0))) := Lib.hid (grown_row hg6 (heap_alloc_new w5 _) (by have := (ho5.out.lt g5 rfl).2; simp [Value.ownBlock]; omega)); clear hg6)
        | (refine step_app wc.heap.size rfl _ _ 22 5 (.int .u8 0) 1 1 rfl Try.underlying22 info5 rfl (by decide) (by decide) (.slice (some ⟨g5, 0, none⟩) 64 cap5) 64 (bs p.bytes) rfl ho5.out (by have := hb5.out.size; simp <;> omega) A3 raw.length c3 (bs raw) rfl (by rw [bs_length, Nat.mul_one]) (hrawc.out.below hb5.out) hA3'.out (bs_one _) (by omega) ?_; rintro v6 w6 ho6 hb6 hg6 -; obtain ⟨g6, cap6, rfl, hcap6, hgg6⟩ := own_some ho6 (by omega); replace ho6 := Lib.hid ho6; replace hb6 := Lib.hid (hb5.out.trans hb6); clear hg6))
      all_goals (go_wp2_with fail)
      all_goals go_meet
      all_goals first
        | (have hq6 := hZ6.out; exact lists_fin hb6.out hbwc.out hsc hoz.out hzl hrdc.out hbl.out hq ⟨hn3a, hm3⟩ ho6.out hrawc.out hA3'.out hn3 hc3 hq6)
        | (have hfin := lists_fin (hb6.out.alloc hb6.out.size (.cells (zer (.int .u8 0) 64).toArray 5)) hbwc.out hsc hoz.out hzl hrdc.out hbl.out hq ⟨hn3a, hm3⟩ (own_below ho6.out (bl_alloc (Below.refl _ _) (.cells (zer (.int .u8 0) 64).toArray 5))) hrawc.out hA3'.out hn3 hc3 (heap_alloc_new w6 (.cells (zer (.int .u8 0) 64).toArray 5)); simp only [World.size_alloc] at hfin; exact hfin)
    case rest =>
      obtain ⟨gl, rfl, hL, hbx⟩ := hcut
      have hls8 : Hid (∀ x ∈ [zs, p.bytes.take q, p.bytes ++ raw, raw, List.replicate 64 0], Bytes8 x) := Lib.hid (by
        intro x hx
        simp only [List.mem_cons, List.not_mem_nil, or_false] at hx
        rcases hx with rfl | rfl | rfl | rfl | rfl
        · exact hz8.out
        · exact hb8.out.take q
        · exact hb8.out.append h83'.out
        · exact h83'.out
        · exact fun y hy => by have := List.eq_of_mem_replicate hy; omega)
      have hll : [zs, p.bytes.take q, p.bytes ++ raw, raw, List.replicate 64 0].length = 5 := rfl
      have hlen : Hid (∀ x ∈ [zs, p.bytes.take q, p.bytes ++ raw, raw, List.replicate 64 0], x.length ≤ 1000) := Lib.hid (by
        intro x hx
        simp only [List.mem_cons, List.not_mem_nil, or_false] at hx
        have := hbl.out
        rcases hx with rfl | rfl | rfl | rfl | rfl
        · omega
        · rw [List.length_take]; omega
        · rw [List.length_append]; omega
        · omega
        · simp)
      generalize hls : [zs, p.bytes.take q, p.bytes ++ raw, raw, List.replicate 64 0] = ls at hL hls8 hll hlen
      replace hL := Lib.hid hL
      replace hbx := Lib.hid hbx
      have hsx := hbx.out.size
      clear hls hoz hblz hz8 hrawc hrdc hbwc hzl hrd3 hsc
      go_wp2_with fail
      go_loopw [24] (fun i wr => ∃ (k : Nat), i = .int .i64 k ∧ k ≤ 5 ∧ Below wc.heap.size wc wr) (fun i _ => 5 - (intOf i).toNat)
      case atStart => exact ⟨0, rfl, by omega, Below.refl _ _⟩
      case round =>
        obtain ⟨k, rfl, hk, hbr⟩ := hrel
        have hbrw := Lib.hid (bl_then hbx.out hsx hbr)
        have hrsz := hbrw.out.size
        by_cases hlt : k < 5
        · have hd3 : decide (k < 5) = true := by simpa using hlt
          have hd4 : decide ((k : Int) < 5) = true := by simp; omega
          obtain ⟨v, hv, y⟩ := hL.out k (by omega)
          have hx8 := Lib.hid (hls8.out ls[k] (List.getElem_mem _))
          have hxl := hlen.out ls[k] (List.getElem_mem _)
          generalize ls[k]'(by omega) = x at hv hx8 hxl
          obtain ⟨Av, cv, rfl, hrv, hAv, hnv, hcv⟩ := hv
          have y0 := bl_cell hbr y
          have hrvr := Lib.hid (hrv.below hbr)
          have hcg : Hid (∀ w', Below wr.heap.size wr w' → w'.cell? ⟨gl, k, none⟩ = some (.slice Av x.length cv)) := Lib.hid (fun w' hb => bl_cell hb y0)
          replace hAv := Lib.hid hAv
          have hlg : gl < wr.heap.size := World.block_lt_of_cell? wr _ y0
          replace hbr := Lib.hid hbr
          clear hrv y
          obtain ⟨⟨pd, ok⟩, hpx⟩ : ∃ z, parseD x = z := ⟨_, rfl⟩
          have hpd8 := Lib.hid (show Bytes8 pd.data by have := parseD_8 hx8.out; rw [hpx] at this; exact this)
          replace hpx := Lib.hid hpx
          cases ok
          all_goals
            go_wp2_with (first
              | (at_builtin; refine app_src (w0 := wr) wr.heap.size (by rfl) _ _ 22 5 (.int .u8 0) 1 1 rfl Try.underlying22 info5 rfl (by decide) (by decide) _ 0 [] rfl (own_lit wr wr.heap.size 5 1 0 [] (Nat.le_refl _) rfl (by omega)) ((Below.refl _ _).alloc (Nat.le_refl _) _) (by simp) Av x.length cv (bs x) rfl (by rw [bs_length, Nat.mul_one]) (hrvr.out.below (bl_alloc (Below.refl _ _) _)) hAv.out (bs_one _) (by omega) ?_; rintro v5 w5 ho5 hb5 - -; rw [Nat.zero_add, List.nil_append] at ho5; obtain ⟨A5, c5, rfl, hn5, hc5, hr5, -, -⟩ := own_shape ho5; replace hr5 := Lib.hid hr5; replace hb5 := Lib.hid hb5; clear ho5)
              | (go_at_call 17; have hh := parse_any A5 c5 x w5 hr5.out hx8.out hn5 hc5; rw [hpx.out] at hh; refine hh.mono ?_; clear hh; rintro e w6 ⟨v6, rfl, ho6, hb6⟩; have hs6 := Lib.hid ho6.slB; obtain ⟨A6, c6, rfl, -⟩ := ho6.slB; clear ho6; simp only [PartD.val]; replace hb6 := Lib.hid (bl_then hb5.out hb5.out.size hb6); have y6 := hcg.out w6 hb6.out; have hlg6 : gl < w6.heap.size := World.block_lt_of_cell? w6 _ y6; have hrow6 := Lib.hid (heap_alloc_new w6 (Obj.cells #[.int .i64 pd.gen, .int .i64 pd.rc, .int .i64 pd.n, .int .i64 pd.ofn, .slice A6 pd.data.length c6] 33)); have hr6 := Lib.hid (hrvr.out.below (bl_alloc hb6.out (Obj.cells #[.int .i64 pd.gen, .int .i64 pd.rc, .int .i64 pd.n, .int .i64 pd.ofn, .slice A6 pd.data.length c6] 33))); have hsa6 := Lib.hid (SlB.below hs6.out (bl_alloc (Below.refl w6.heap.size w6) (Obj.cells #[.int .i64 pd.gen, .int .i64 pd.rc, .int .i64 pd.n, .int .i64 pd.ofn, .slice A6 pd.data.length c6] 33))))
              | (go_at_call 21; have hh := refparse_any Av cv x (w6.alloc (Obj.cells #[.int .i64 pd.gen, .int .i64 pd.rc, .int .i64 pd.n, .int .i64 pd.ofn, .slice A6 pd.data.length c6] 33)) hr6.out hx8.out hnv hcv; rw [hpx.out] at hh; refine hh.mono ?_; clear hh; rintro e w7 ⟨v7, rfl, ho7, hb7⟩; have hs7 := Lib.hid ho7.slB; obtain ⟨A7, c7, rfl, -⟩ := ho7.slB; clear ho7; simp only [PartD.val]; have hrow7 := Lib.hid (bl_row hb7 hrow6.out); obtain ⟨x0, x1, x2, x3, x4⟩ := cells5a hrow7.out; have hlt7 : w6.heap.size < w7.heap.size := (Array.getElem?_eq_some_iff.1 hrow7.out).1; have hsa7 := Lib.hid (SlB.below (SlB.below hsa6.out hb7) (bl_alloc (Below.refl w7.heap.size w7) (Obj.cells #[.int .i64 pd.gen, .int .i64 pd.rc, .int .i64 pd.n, .int .i64 pd.ofn, .slice A7 pd.data.length c7] 28))); have hsb7 := Lib.hid (SlB.below hs7.out (bl_alloc (Below.refl w7.heap.size w7) (Obj.cells #[.int .i64 pd.gen, .int .i64 pd.rc, .int .i64 pd.n, .int .i64 pd.ofn, .slice A7 pd.data.length c7] 28))); replace hb7 := Lib.hid (bl_alloc (bl_then (bl_alloc hb6.out (Obj.cells #[.int .i64 pd.gen, .int .i64 pd.rc, .int .i64 pd.n, .int .i64 pd.ofn, .slice A6 pd.data.length c6] 33)) (by have := hb6.out.size; simp; omega) hb7) (Obj.cells #[.int .i64 pd.gen, .int .i64 pd.rc, .int .i64 pd.n, .int .i64 pd.ofn, .slice A7 pd.data.length c7] 28)))
              | (go_at_call 19; have hh := same_any pd pd (.slice A6 pd.data.length c6) (.slice A7 pd.data.length c7) (w7.alloc (Obj.cells #[.int .i64 pd.gen, .int .i64 pd.rc, .int .i64 pd.n, .int .i64 pd.ofn, .slice A7 pd.data.length c7] 28)) hsa7.out hsb7.out hpd8.out hpd8.out; simp only [PartD.val, and_self, decide_true] at hh; refine hh.mono ?_; clear hh; rintro e w8 ⟨rfl, hb8x⟩; replace hb8x := Lib.hid (bl_then hb7.out hb7.out.size hb8x)))
          all_goals exact ⟨⟨k + 1, by go_num, by omega, bl_then hbr.out hbr.out.size hb8x.out⟩, by simp [intOf]; omega⟩
        · have hd3 : decide (k < 5) = false := by simpa using hlt
          have hd4 : decide ((k : Int) < 5) = false := by simp; omega
          go_wp2_with fail
          go_ret
          exact ⟨rfl, hbrw.out⟩

/-- the same, its parameters as the row has them -/
theorem sectReads_any (w : World) (gen : Int) (h0 : (Lit.int .i64 gen).wf = true) (rc : Int) (h1 : (Lit.int .i64 rc).wf = true) (n : Int) (h2 : (Lit.int .i64 n).wf = true) (ofn : Int) (h3 : (Lit.int .i64 ofn).wf = true)
    (A : Option Addr) (c : Nat) (l : List Nat) (hr : Rd w A (bs l)) (h8 : Bytes8 l) (hn : l.length ≤ c) (hc : c ≤ 9223372036854775807) (hA : A = none → l.length = 0 ∧ c = 0)
    (A1 : Option Addr) (c1 : Nat) (ats : List Int) (hr1 : Rd w A1 (enc (Value.int .i64) ats)) (hn1 : ats.length ≤ c1) (hc1 : c1 ≤ 9223372036854775807) (hw1 : ∀ x ∈ ats, (Lit.int .i64 x).wf = true)
    (A2 : Option Addr) (c2 : Nat) (ys : List Nat) (hr2 : Rd w A2 (bs ys)) (h82 : Bytes8 ys) (hn2 : ys.length ≤ c2) (hc2 : c2 ≤ 9223372036854775807) (hA2 : A2 = none → ys.length = 0 ∧ c2 = 0)
    (cut : Int) (h7 : (Lit.int .i64 cut).wf = true) (A3 : Option Addr) (c3 : Nat) (raw : List Nat) (hr3 : Rd w A3 (bs raw)) (h83 : Bytes8 raw) (hn3 : raw.length ≤ c3) (hc3 : c3 ≤ 9223372036854775807) (hA3 : A3 = none → raw.length = 0 ∧ c3 = 0) :
    Calls Try.prog 5 #[.int .i64 gen, .int .i64 rc, .int .i64 n, .int .i64 ofn, .slice A l.length c, .slice A1 ats.length c1, .slice A2 ys.length c2, .int .i64 cut, .slice A3 raw.length c3] w fun e w' => e = .returned (.bool true) ∧ Below w.heap.size w w' :=
  reads_walk w gen rc n ofn A c l hr h8 hn hc hA A1 c1 ats hr1 hn1 hc1 A2 c2 ys hr2 h82 hn2 hc2 hA2 cut A3 c3 raw hr3 h83 hn3 hc3 hA3
end Go.Proofs.Ytjlhajnficneoaa
