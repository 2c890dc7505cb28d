/- The walks: SectTurn. -/
import Derived.Test.YtjlhajnficneoaaSr
import Derived.Laws.BitsAllLaws
namespace Go.Proofs.Ytjlhajnficneoaa
set_option linter.unusedVariables false
set_option linter.unusedSimpArgs false
open Go.RowKit

theorem own_setCell {w : World} {base n g cap : Nat} {e : TypeId} {xs : List Value} (h : w.ownsRow base e 1 (.slice (some ⟨g, 0, none⟩) n cap) n xs) (i : Nat) (hi : i < n) (v : Value) :
    (w.setCell ⟨g, i, none⟩ v).ownsRow base e 1 (.slice (some ⟨g, 0, none⟩) n cap) n (xs.set i v) ∧ w.frozen? ⟨g, i, none⟩ = false ∧ (∀ B w0, Below B w0 w → B ≤ base → Below B w0 (w.setCell ⟨g, i, none⟩ v)) := by
  obtain ⟨h1, h2 | ⟨g', cap', cur, h3, h4, h5, h6, h7, h8, h9⟩⟩ := h
  · obtain ⟨h2, -⟩ := h2; cases h2
  · cases h3
    have hset : w.setCell ⟨g, i, none⟩ v = w.setRow g (cur.setIfInBounds i v) := setCell_eq_setRow w g i cur e _ v h5
    refine ⟨⟨by simpa using h1, .inr ⟨g, cap, cur.setIfInBounds i v, rfl, h4, ?_, h6, h7, by simpa using h8, ?_⟩⟩, by simp [World.frozen?, h5], fun B w0 hb hB => ?_⟩
    · rw [hset]; exact setRow_heap _ _ _ _ e _ h5
    · rw [← h9, Array.toList_setIfInBounds, List.take_set]
    · rw [hset]; exact below_setRow hb (by omega) _
theorem bs_set (l : List Nat) (i x : Nat) : (bs l).set i (by_ x) = bs (l.set i x) := by simp [bs, enc, List.map_set]

theorem turn_byte (l : List Nat) (h8 : Bytes8 l) (hl : l.length = 64) (i : Nat) (hi : i / 8 < l.length) : bits .xor .u8 ((l[i / 8] : Nat) : Int) (2 ^ (i % 8) % 256) = ((l[i / 8] ^^^ 2 ^ (i % 8) : Nat) : Int) := by
  have hk : i % 8 < 8 := Nat.mod_lt _ (by decide)
  have h2 : 2 ^ (i % 8) < 256 := Nat.lt_of_lt_of_le (Nat.pow_lt_pow_right (by decide) hk) (by decide)
  have e : ((2 : Int) ^ (i % 8) % 256) = ((2 ^ (i % 8) : Nat) : Int) := by
    have e1 : ((2 : Int) ^ (i % 8)) = ((2 ^ (i % 8) : Nat) : Int) := by simp
    rw [e1]
    generalize 2 ^ (i % 8) = q at h2 ⊢
    omega
  rw [e]
  exact u8_xor_nat _ _ (h8 _ (List.getElem_mem _)) h2
/-- a bit of an own row is turned -/
theorem own_turn {w : World} {base g cap : Nat} {l : List Nat} (h : w.ownsRow base 5 1 (.slice (some ⟨g, 0, none⟩) 64 cap) 64 (bs l)) (hl : l.length = 64) (h8 : Bytes8 l) (i : Nat) (hi : i / 8 < l.length) :
    (w.setCell ⟨g, i / 8, none⟩ (.int .u8 (bits .xor .u8 ((l[i / 8] : Nat) : Int) (2 ^ (i % 8) % 256)))).ownsRow base 5 1 (.slice (some ⟨g, 0, none⟩) 64 cap) 64 (bs (fl l i)) ∧
    (∀ B w0, Below B w0 w → B ≤ base → Below B w0 (w.setCell ⟨g, i / 8, none⟩ (.int .u8 (bits .xor .u8 ((l[i / 8] : Nat) : Int) (2 ^ (i % 8) % 256))))) := by
  have key : Value.int .u8 (bits .xor .u8 ((l[i / 8] : Nat) : Int) (2 ^ (i % 8) % 256)) = by_ (l[i / 8] ^^^ 2 ^ (i % 8)) := by rw [turn_byte l h8 hl i hi]; rfl
  rw [key]
  have h1 := own_setCell h (i / 8) (by omega) (by_ (l[i / 8] ^^^ 2 ^ (i % 8)))
  refine ⟨?_, h1.2.2⟩
  have h2 := h1.1
  rwa [bs_set, fl_set l i hl hi] at h2

set_option maxHeartbeats 4000000 in
set_option maxRecDepth 100000 in
theorem turn_walk (w : World) (gen rc n ofn : Int) (A : Option Addr) (c : Nat) (l : List Nat) (at_ bt : Int) (hr : Rd w A (bs l)) (h8 : Bytes8 l) (hn : l.length ≤ c) (hc : c ≤ 9223372036854775807) (hA : A = none → l.length = 0 ∧ c = 0) :
    Calls Try.prog 8 #[.int .i64 gen, .int .i64 rc, .int .i64 n, .int .i64 ofn, .slice A l.length c, .int .i64 at_, .int .i64 bt] w fun e w' => e = .returned (.bool true) ∧ Below w.heap.size w w' := by
  have hr' := Lib.hid hr
  have h8' := Lib.hid h8
  clear hr h8 hA
  generalize hp : makeD gen rc n ofn l = p
  have hok : Hid p.ok := Lib.hid (hp ▸ makeD_ok gen rc n ofn l)
  have hp8 : Hid (Bytes8 p.data) := Lib.hid (hp ▸ makeD_8 gen rc n ofn h8'.out)
  have hpl : Hid (p.data.length = 52) := Lib.hid (hp ▸ makeD_len gen rc n ofn l)
  have hp' := Lib.hid hp
  have hbl := Lib.hid (bytes_len p hpl.out)
  have hb8 := Lib.hid (bytes_8 p hp8.out)
  clear hp
  obtain ⟨i, hi, hie⟩ : ∃ i : Nat, i < 512 ∧ at_ % 512 = (i : Int) := ⟨(at_ % 512).toNat, by omega, by omega⟩
  obtain ⟨j, hj, hje⟩ : ∃ j : Nat, j < 512 ∧ bt % 512 = (j : Int) := ⟨(bt % 512).toNat, by omega, by omega⟩
  replace hie := Lib.hid hie
  replace hje := Lib.hid hje
  go_enter Try.func8, Try.ntmps8
  go_upto_region 6 with (first
    | (go_at_call 12; refine (known_any _).mono ?_; rintro e w1 ⟨rfl, hb1⟩; replace hb1 := Lib.hid hb1; have hrw1 := Lib.hid (hr'.out.below hb1.out))
    | (go_at_call 15; refine (make_at gen rc n ofn A c l w1 hrw1.out hn hc p hp'.out).mono ?_; rintro e w2 ⟨g, cap, rfl, hg, ho, hrd, hb2⟩; replace hrd := Lib.hid hrd; replace hb2 := Lib.hid (bl_then hb1.out hb1.out.size hb2); clear ho hrw1)
    | (go_at_call 18; refine (refbytes_ok p (some ⟨g, 0, none⟩) cap w2 hok.out hrd.out hp8.out).mono ?_; rintro e w3 ⟨v3, rfl, ho3, hb3⟩; obtain ⟨g3, cap3, rfl, hn3, hg3⟩ := own_some ho3 (by decide); have hr3 : Hid (Rd w3 (some ⟨g3, 0, none⟩) (bs p.bytes)) := Lib.hid (by obtain ⟨A', c', e, -, -, h, -⟩ := Rd.own ho3; cases e; exact h); replace ho3 := Lib.hid ho3; have hb3w := Lib.hid (bl_then hb2.out hb2.out.size hb3); replace hb3 := Lib.hid hb3; clear hrd)
    | (go_at_call_of 20 (Value.int .i64 at_); refine (within_any at_ 512 _ (by decide) (by decide)).mono ?_; rintro e w' ⟨rfl, rfl⟩; rw [hie.out])
    | (go_at_call_of 20 (Value.int .i64 bt); refine (within_any bt 512 _ (by decide) (by decide)).mono ?_; rintro e w' ⟨rfl, rfl⟩; rw [hje.out])
    | (at_builtin; refine app_src (w0 := w3) w3.heap.size (by rfl) _ _ 22 5 (.int .u8 0) 1 1 rfl Try.underlying22 info5 rfl (by decide) (by decide) _ 0 [] rfl (own_lit w3 w3.heap.size 5 1 0 [] (Nat.le_refl _) rfl (by omega)) ((Below.refl _ _).alloc (Nat.le_refl _) _) (by simp) (some ⟨g3, 0, none⟩) 64 cap3 (bs p.bytes) rfl (by rw [bs_length, hbl.out]) (hr3.out.below (bl_alloc (Below.refl _ _) _)) (fun e => by cases e) (bs_one _) (by decide) ?_; rintro v4 w4 ho4 hb4 - -; obtain ⟨g4, cap4, rfl, hn4, hg4⟩ := own_some ho4 (by decide); replace ho4 := Lib.hid ho4; replace hb4 := Lib.hid (bl_then hb3w.out hb3w.out.size hb4)))
  have ho4' : w4.ownsRow w3.heap.size 5 1 (.slice (some ⟨g4, 0, none⟩) 64 cap4) 64 (bs p.bytes) := by simpa using ho4.out
  have hil : i / 8 < p.bytes.length := by rw [hbl.out]; omega
  have x4 : w4.cell? ⟨g4, i / 8, none⟩ = some (.int .u8 ((p.bytes[i / 8] : Nat) : Int)) := own_get ho4.out (by simp [bs, enc, by_, hil])
  have z4 : w4.frozen? ⟨g4, i / 8, none⟩ = false := (own_setCell ho4' (i / 8) (by omega) undef).2.1
  have ho5 := Lib.hid (own_turn ho4' hbl.out hb8.out i hil)
  have hb3sz := hb3w.out.size
  clear ho4' ho4 ho3 hb3 hb2 hr3
  go_upto_region 7 with fail
  clear x4 z4
  replace ho5 := Lib.hid (show _ ∧ _ from ⟨ho5.out.1, ho5.out.2 _ _ hb4.out hb3sz⟩)
  generalize (w4.setCell { block := g4, off := i / 8 } (Value.int IntKind.u8 (bits BinOp.xor IntKind.u8 ((p.bytes[i / 8] : Nat) : Int) (2 ^ (i % 8) % 256)))) = w5 at ho5
  have hb5 := Lib.hid ho5.out.2
  replace ho5 := Lib.hid ho5.out.1
  have hfl := Lib.hid (fl_len p.bytes i hbl.out)
  have hf8 := Lib.hid (fl_8 p.bytes i hb8.out)
  have hr5 : Hid (Rd w5 (some ⟨g4, 0, none⟩) (bs (fl p.bytes i))) := Lib.hid (by obtain ⟨A', c', e, -, -, h, -⟩ := Rd.own ho5.out; cases e; exact h)
  have hp1 := Lib.hid (parse_one p hpl.out hp8.out i hi)
  have hsz5 := hb5.out.size
  have hjl : j / 8 < (fl p.bytes i).length := by rw [hfl.out]; omega
  clear hb4
  go_upto_region 8 with (first
    | (at_builtin; refine app_src (w0 := w5) w5.heap.size (by rfl) _ _ 22 5 (.int .u8 0) 1 1 rfl Try.underlying22 info5 rfl (by decide) (by decide) _ 0 [] rfl (own_lit w5 w5.heap.size 5 1 0 [] (Nat.le_refl _) rfl (by omega)) ((Below.refl _ _).alloc (Nat.le_refl _) _) (by simp) (some ⟨g4, 0, none⟩) 64 cap4 (bs (fl p.bytes i)) rfl (by rw [bs_length, hfl.out]) (hr5.out.below (bl_alloc (Below.refl _ _) _)) (fun e => by cases e) (bs_one _) (by decide) ?_; rintro v6 w6 ho6 hb6 - -; obtain ⟨A6, c6, rfl, hn6, hc6, hr6, hA6⟩ := Rd.own ho6; replace ho6 := Lib.hid ho6; replace hr6 := Lib.hid hr6; replace hb6 := Lib.hid hb6; clear hA6)
    | (go_at_call 17; have hh := parse_any A6 c6 (fl p.bytes i) w6 (show Rd w6 A6 (bs (fl p.bytes i)) from hr6.out) hf8.out (by rw [hfl.out]; omega) hc6; rw [hfl.out, hp1.out] at hh; refine hh.mono ?_; clear hh; rintro e w7 ⟨v7, rfl, hz7, hb7⟩; obtain ⟨A7, c7, rfl, -⟩ := Rd.own hz7; clear hz7; simp only [PartD.val, zeroP]; replace hb7 := Lib.hid (bl_then hb6.out hb6.out.size hb7)))
  have ho7 := Lib.hid (own_below ho5.out hb7.out)
  have x7 : w7.cell? ⟨g4, j / 8, none⟩ = some (.int .u8 (((fl p.bytes i)[j / 8] : Nat) : Int)) := own_get ho7.out (by simp [bs, enc, by_, hjl])
  have z7 : w7.frozen? ⟨g4, j / 8, none⟩ = false := (own_setCell ho7.out (j / 8) (by omega) undef).2.1
  have hlt7 : g4 < w7.heap.size := (World.block_lt_of_cell? w7 _ x7)
  have ho8 := Lib.hid (own_turn ho7.out hfl.out hf8.out j hjl)
  have hb7w := Lib.hid (bl_then hb5.out hsz5 hb7.out)
  go_upto_region 9 with fail
  clear x7 z7
  replace ho8 := Lib.hid (show _ ∧ _ from ⟨ho8.out.1, ho8.out.2 _ _ hb7w.out hb3sz⟩)
  generalize (w7.setCell { block := g4, off := j / 8 } (Value.int IntKind.u8 (bits BinOp.xor IntKind.u8 (((fl p.bytes i)[j / 8] : Nat) : Int) (2 ^ (j % 8) % 256)))) = w8 at ho8
  have hb8w := Lib.hid ho8.out.2
  have hfl2 := Lib.hid (fl_len _ j hfl.out)
  have hf82 := Lib.hid (fl_8 _ j hf8.out)
  have hr8 : Hid (Rd w8 (some ⟨g4, 0, none⟩) (bs (fl (fl p.bytes i) j))) := Lib.hid (by obtain ⟨A', c', e, -, -, h, -⟩ := Rd.own ho8.out.1; cases e; exact h)
  have hcap : 64 ≤ cap4 ∧ cap4 ≤ 9223372036854775807 := by obtain ⟨A', c', e, h1, h2, -⟩ := Rd.own ho8.out.1; cases e; exact ⟨h1, h2⟩
  have hp2 := Lib.hid (parse_two p hok.out hp8.out i j hi hj)
  have hsz8 := hb8w.out.size
  clear ho8 ho7 hb7 hb6 hr6 hr5 ho6
  go_wp2_with fail
  have hh := parse_any (some ⟨g4, 0, none⟩) cap4 (fl (fl p.bytes i) j) (w8.alloc (.cells #[.int .i64 0, .int .i64 0, .int .i64 0, .int .i64 0, .slice A7 0 c7] 33)) (hr8.out.below (bl_alloc (Below.refl _ _) _)) hf82.out (by rw [hfl2.out]; omega) hcap.2
  rw [hfl2.out, hp2.out] at hh
  refine hh.mono ?_
  clear hh
  rintro e w9 ⟨v9, rfl, ho9, hb9⟩
  obtain ⟨A9, c9, rfl, -⟩ := Rd.own ho9
  clear ho9
  simp only [PartD.val]
  replace hb9 := Lib.hid (bl_then (bl_alloc hb8w.out (.cells #[.int .i64 0, .int .i64 0, .int .i64 0, .int .i64 0, .slice A7 0 c7] 33)) (by simp; omega) hb9)
  go_wp2_with fail
  go_ret
  exact ⟨ret_bool (by by_cases e : i = j <;> simp [e, Int.ofNat_inj]), bl_alloc hb9.out _⟩

theorem sectTurn_any (w : World) (gen : Int) (h0 : (Lit.int .i64 gen).wf = true) (rc : Int) (h1 : (Lit.int .i64 rc).wf = true) (n : Int) (h2 : (Lit.int .i64 n).wf = true) (ofn : Int) (h3 : (Lit.int .i64 ofn).wf = true)
    (A : Option Addr) (c : Nat) (l : List Nat) (hr : Rd w A (bs l)) (h8 : Bytes8 l) (hn : l.length ≤ c) (hc : c ≤ 9223372036854775807) (hA : A = none → l.length = 0 ∧ c = 0)
    (at_ : Int) (h5 : (Lit.int .i64 at_).wf = true) (bt : Int) (h6 : (Lit.int .i64 bt).wf = true) :
    Calls Try.prog 8 #[.int .i64 gen, .int .i64 rc, .int .i64 n, .int .i64 ofn, .slice A l.length c, .int .i64 at_, .int .i64 bt] w fun e w' => e = .returned (.bool true) ∧ Below w.heap.size w w' :=
  turn_walk w gen rc n ofn A c l at_ bt hr h8 hn hc hA
end Go.Proofs.Ytjlhajnficneoaa
