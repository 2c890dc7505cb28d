/-
  The orders of drawn regions of Roots.
  f35 Roots.
-/
import Derived.Test.YtdhklfbelplbcaaZ10
import Derived.Test.YtdhklfbelplbcaaZ19
namespace Go.Proofs.Ytdhklfbelplbcaa
set_option maxRecDepth 100000
noncomputable def opsD6 : Array Oper := regIn 6 Try.f35
theorem nsD6 : Region.noSelect opsD6 = true := by kernel_rfl
theorem liD6 : Array.replicate opsD6.size false = (bitsB 7 0) := by kernel_rfl
theorem rdD6_0 : Region.ready .any opsD6 (bitsB 7 0) = [0, 1, 2] := by kernel_rfl
theorem frD6_0 : Region.free .any opsD6 (bitsB 7 0) 0 = true := by kernel_rfl
theorem stD6_0 : (bitsB 7 0).setIfInBounds 0 true = (bitsB 7 1) := by kernel_rfl
theorem rdD6_1 : Region.ready .any opsD6 (bitsB 7 1) = [1, 2] := by kernel_rfl
theorem frD6_1 : Region.free .any opsD6 (bitsB 7 1) 1 = true := by kernel_rfl
theorem stD6_1 : (bitsB 7 1).setIfInBounds 1 true = (bitsB 7 3) := by kernel_rfl
theorem rdD6_2 : Region.ready .any opsD6 (bitsB 7 3) = [2] := by kernel_rfl
theorem stD6_2 : (bitsB 7 3).setIfInBounds 2 true = (bitsB 7 7) := by kernel_rfl
theorem rdD6_3 : Region.ready .any opsD6 (bitsB 7 7) = [3] := by kernel_rfl
theorem stD6_3 : (bitsB 7 7).setIfInBounds 3 true = (bitsB 7 15) := by kernel_rfl
theorem rdD6_4 : Region.ready .any opsD6 (bitsB 7 15) = [4] := by kernel_rfl
theorem stD6_4 : (bitsB 7 15).setIfInBounds 4 true = (bitsB 7 31) := by kernel_rfl
theorem rdD6_5 : Region.ready .any opsD6 (bitsB 7 31) = [5] := by kernel_rfl
theorem stD6_5 : (bitsB 7 31).setIfInBounds 5 true = (bitsB 7 63) := by kernel_rfl
theorem rdD6_6 : Region.ready .any opsD6 (bitsB 7 63) = [6] := by kernel_rfl
theorem stD6_6 : (bitsB 7 63).setIfInBounds 6 true = (bitsB 7 127) := by kernel_rfl
theorem rdD6_7 : Region.ready .any opsD6 (bitsB 7 127) = [] := by kernel_rfl
noncomputable def opsD10 : Array Oper := regIn 10 Try.f35
theorem nsD10 : Region.noSelect opsD10 = true := by kernel_rfl
theorem liD10 : Array.replicate opsD10.size false = (bitsB 7 0) := by kernel_rfl
theorem rdD10_0 : Region.ready .any opsD10 (bitsB 7 0) = [0, 1, 2] := by kernel_rfl
theorem frD10_0 : Region.free .any opsD10 (bitsB 7 0) 0 = true := by kernel_rfl
theorem stD10_0 : (bitsB 7 0).setIfInBounds 0 true = (bitsB 7 1) := by kernel_rfl
theorem rdD10_1 : Region.ready .any opsD10 (bitsB 7 1) = [1, 2] := by kernel_rfl
theorem frD10_1 : Region.free .any opsD10 (bitsB 7 1) 1 = true := by kernel_rfl
theorem stD10_1 : (bitsB 7 1).setIfInBounds 1 true = (bitsB 7 3) := by kernel_rfl
theorem rdD10_2 : Region.ready .any opsD10 (bitsB 7 3) = [2] := by kernel_rfl
theorem stD10_2 : (bitsB 7 3).setIfInBounds 2 true = (bitsB 7 7) := by kernel_rfl
theorem rdD10_3 : Region.ready .any opsD10 (bitsB 7 7) = [3] := by kernel_rfl
theorem stD10_3 : (bitsB 7 7).setIfInBounds 3 true = (bitsB 7 15) := by kernel_rfl
theorem rdD10_4 : Region.ready .any opsD10 (bitsB 7 15) = [4] := by kernel_rfl
theorem stD10_4 : (bitsB 7 15).setIfInBounds 4 true = (bitsB 7 31) := by kernel_rfl
theorem rdD10_5 : Region.ready .any opsD10 (bitsB 7 31) = [5] := by kernel_rfl
theorem stD10_5 : (bitsB 7 31).setIfInBounds 5 true = (bitsB 7 63) := by kernel_rfl
theorem rdD10_6 : Region.ready .any opsD10 (bitsB 7 63) = [6] := by kernel_rfl
theorem stD10_6 : (bitsB 7 63).setIfInBounds 6 true = (bitsB 7 127) := by kernel_rfl
theorem rdD10_7 : Region.ready .any opsD10 (bitsB 7 127) = [] := by kernel_rfl
end Go.Proofs.Ytdhklfbelplbcaa
namespace Go.Proofs.Ytdhklfbelplbcaa
set_option linter.unusedVariables false
set_option linter.unusedSimpArgs false
open Go.RowKit

theorem info4 : (Try.prog.info? 4).map (fun i => (i.zero, i.size, i.bytes)) = some (some (.bool false), 1, 1) := by kernel_rfl
def Apart (z v : Value) : Prop := ∀ b, z.ownBlock = some b → v.ownBlock ≠ some b
theorem keepN {W W1 : World} {z v v' : Value} {l : List ByteArray} (h : SlN W z l) (hl : 0 < l.length) (ha : Apart z v) (g1 : W.grownBy W1 v.ownBlock) (a1 : v'.ownBlock = v.ownBlock ∨ ∃ j, v'.ownBlock = some j ∧ W.heap.size ≤ j) : SlN W1 z l ∧ Apart z v' := by
  refine ⟨h.grown g1 (fun b hb e => ha b hb e), fun b hb e => ?_⟩
  rcases a1 with a1 | ⟨j, a1, hj⟩
  · exact ha b hb (by rw [← a1]; exact e)
  · rw [a1] at e; cases e
    have := h.lt hl b hb
    omega
theorem muF_app {out : List ByteArray} {s : ByteArray} (hs : FN s) (hn : inL out s = false) : muF (out ++ [s]) + 1 ≤ muF out := by
  have h := muF_with hs hn
  have e : ∀ x, inL (out ++ [s]) x = inL (withL out s) x := fun x => by rw [inL_app, inL_withL]
  have e2 : muF (out ++ [s]) = muF (withL out s) := by unfold muF; simp only [e]
  omega
/-- the roots so far, and what is spawned -/
structure RtS (w W : World) (v4 v5 : Value) (al sp : List ByteArray) : Prop where
  hB : Below w.heap.size w W
  o4 : W.ownsRow (w.heap.size + 1) 9 1 v4 al.length (strs al)
  s5 : SlN W v5 sp
  n5 : Apart v5 v4
  f5 : ∀ b, v5.ownBlock = some b → b < W.heap.size
  fa : AllFN al
  fs : AllFN sp
  ca : al.length + muF al ≤ 4
  cs : sp.length + muF sp ≤ 4
theorem RtS.below {w W W' : World} {v4 v5 : Value} {al sp : List ByteArray} (h : RtS w W v4 v5 al sp) (hb : Below W.heap.size W W') : RtS w W' v4 v5 al sp :=
  ⟨bl_then h.hB h.hB.size hb, own_below h.o4 hb, h.s5.below hb, h.n5, fun b e => Nat.lt_of_lt_of_le (h.f5 b e) hb.size, h.fa, h.fs, h.ca, h.cs⟩
theorem RtS.with_ {w W W' : World} {v4 v5 v5' : Value} {al sp : List ByteArray} {y : ByteArray} (h : RtS w W v4 v5 al sp) (hb : Below W.heap.size W W') (hs : SlN W' v5' (withL sp y)) (hf : Fr W.heap.size v5 v5') (hy : FN y) : RtS w W' v4 v5' al (withL sp y) := by
  have k := h.below hb
  refine ⟨k.hB, k.o4, hs, ?_, fun b e => hs.lt (withL_pos _ _) b e, k.fa, fun x hx => ?_, k.ca, ?_⟩
  · rcases hf with rfl | hf
    · exact h.n5
    · intro b hb1 e
      have := hf b hb1
      have := (h.o4.lt b e).2
      omega
  · rcases (withL_mem sp y x).1 hx with hx | rfl
    · exact h.fs x hx
    · exact hy
  · cases hi : inL sp y with
    | true => have : withL sp y = sp := by unfold withL; rw [hi]; rfl
              rw [this]; exact h.cs
    | false => have h1 := muF_with hy hi
               have h2 := withL_len sp y
               have := h.cs
               omega
theorem RtS.app {w W W1 : World} {v4 v4' v5 : Value} {al sp : List ByteArray} {y : ByteArray} (h : RtS w W v4 v5 al sp) (hp : 0 < sp.length) (hw : w.heap.size + 1 ≤ W.heap.size) (o1 : W1.ownsRow (w.heap.size + 1) 9 1 v4' (al.length + 1) (strs al ++ [.string y])) (g1 : W.grownBy W1 v4.ownBlock) (a1 : v4'.ownBlock = v4.ownBlock ∨ ∃ j, v4'.ownBlock = some j ∧ W.heap.size ≤ j) (hy : FN y) (hn : inL al y = false) : RtS w W1 v4' v5 (al ++ [y]) sp := by
  obtain ⟨k1, k2⟩ := keepN h.s5 hp h.n5 g1 a1
  refine ⟨h.hB.grown g1 h.hB.size (fun k hk => by have := (h.o4.lt k hk).1; omega), by simpa [strs, enc] using o1, k1, k2, fun b e => Nat.lt_of_lt_of_le (h.f5 b e) g1.size, fun x hx => ?_, h.fs, ?_, h.cs⟩
  · rcases List.mem_append.1 hx with hx | hx
    · exact h.fa x hx
    · rw [List.mem_singleton] at hx; subst hx; exact hy
  · have := muF_app hy hn
    have := h.ca
    simp only [List.length_append, List.length_cons, List.length_nil]
    omega
def RootsPost (w : World) (e : Ending) (w' : World) : Prop := ∃ A c g cm L ys, e = .returned (.tuple #[.slice A (L : List ByteArray).length c, .slice (some ⟨g, 0, none⟩) L.length cm]) ∧ (∀ a : Addr, A = some a → w.heap.size ≤ a.block) ∧ w.heap.size ≤ g ∧ SlN w' (.slice A L.length c) L ∧ AllFN L ∧ 0 < L.length ∧ L.length ≤ 5 ∧ L.length ≤ cm ∧ cm ≤ 9223372036854775807 ∧ Rd w' (some ⟨g, 0, none⟩) ys ∧ ys.length = L.length ∧ (∀ y ∈ ys, ∃ b : Bool, y = .bool b) ∧ Below w.heap.size w w'
set_option maxHeartbeats 64000000 in
set_option maxRecDepth 100000 in
theorem roots_any (v : Value) (bs : Nat → St) (w : World) (hp : PrOk w.cell? v bs) (hok : ∀ j, j < 4 → StOk (bs j)) (hcnt : ∀ j, j < 4 → (bs j).cnt ≤ 200) :
    Calls Try.prog 35 #[v] w (RootsPost w) := by
  have hp' := Lib.hid hp
  obtain ⟨A0, n0, c0, g1, g2, rfl, -, -⟩ := hp
  have hok' := Lib.hid hok
  have hcnt' := Lib.hid hcnt
  clear hok hcnt
  have hrow : Hid (∀ w' : World, w'.heap[w.heap.size]? = some (.cells #[.slice A0 n0 c0, .slice (some ⟨g1, 0, none⟩) 3 3, .slice (some ⟨g2, 0, none⟩) 4 4] 40 (0, 0)) → (w'.cell? ⟨w.heap.size, 0, none⟩ = some (.slice A0 n0 c0) ∧ w'.cell? ⟨w.heap.size, 1, none⟩ = some (.slice (some ⟨g1, 0, none⟩) 3 3) ∧ w'.cell? ⟨w.heap.size, 2, none⟩ = some (.slice (some ⟨g2, 0, none⟩) 4 4))) := Lib.hid (fun w' h => by
    refine ⟨?_, ?_, ?_⟩ <;> (rw [cell_of_row _ _ _ _ 40 (0, 0) h]; rfl))
  obtain ⟨w1, hw1⟩ : ∃ Z, Z = w.alloc (.cells #[.slice A0 n0 c0, .slice (some ⟨g1, 0, none⟩) 3 3, .slice (some ⟨g2, 0, none⟩) 4 4] 40) := ⟨_, rfl⟩
  have hb1 : Hid (Below w.heap.size w w1) := Lib.hid (by rw [hw1]; exact bl_alloc (Below.refl _ _) _)
  have hbx : Hid (w1.heap[w.heap.size]? = some (.cells #[.slice A0 n0 c0, .slice (some ⟨g1, 0, none⟩) 3 3, .slice (some ⟨g2, 0, none⟩) 4 4] 40 (0, 0))) := Lib.hid (by rw [hw1]; exact heap_alloc_new w _)
  have hz1 : Hid (w1.heap.size = w.heap.size + 1) := Lib.hid (by rw [hw1]; exact World.size_alloc _ _)
  have hmain : Hid (FN ⟨#[109, 97, 105, 110]⟩) := Lib.hid ⟨0, by omega, rfl⟩
  go_enter Try.func35, Try.ntmps35
  go_upto_region 1 with fail
  rw [← hw1]
  replace hw1 := Lib.hid hw1
  go_upto_block 0 with fail
  have hS0 : Hid (RtS w (w1.alloc (.cells #[.string ⟨#[109, 97, 105, 110]⟩] 9)) (.slice (some ⟨w1.heap.size, 0, none⟩) 1 1) (.slice none 0 0) [⟨#[109, 97, 105, 110]⟩] []) := Lib.hid
    ⟨bl_alloc hb1.out _, by have := own_lit w1 (w.heap.size + 1) 9 1 1 [.string ⟨#[109, 97, 105, 110]⟩] (by rw [hz1.out]; exact Nat.le_refl _) rfl (by omega); exact this, SlN.nil _, (fun b h => by cases h), (fun b h => by cases h), (fun x hx => by rw [List.mem_singleton] at hx; subst hx; exact hmain.out), (fun x hx => by cases hx), by have h : muF [⟨#[109, 97, 105, 110]⟩] ≤ 3 := muF_one (f := 0) (by omega); show 1 + _ ≤ 4; omega, by have := muF_le []; show 0 + _ ≤ 4; omega⟩
  have hX0 : Hid (Below w1.heap.size w1 (w1.alloc (.cells #[.string ⟨#[109, 97, 105, 110]⟩] 9))) := Lib.hid (bl_alloc (Below.refl _ _) _)
  go_cut [5] (fun v5 wx => ∃ (sp : List ByteArray), Hid (SlN wx v5 sp ∧ AllFN sp ∧ sp.length ≤ 4) ∧ Hid (Below w.heap.size w wx))
  case first =>
    go_wp2_with fail
    go_loopw [4, 5, 6] (fun v4 v5 v6 wr => ∃ (i : Nat) (al sp : List ByteArray), v6 = .int .i64 (i : Nat) ∧ i ≤ al.length ∧ Hid (RtS w wr v4 v5 al sp) ∧ Hid (wr.heap[w.heap.size]? = some (.cells #[.slice A0 n0 c0, .slice (some ⟨g1, 0, none⟩) 3 3, .slice (some ⟨g2, 0, none⟩) 4 4] 40 (0, 0)))) (fun _ _ v _ => 4 - (intOf v).toNat)
    case atStart => exact ⟨0, _, [], rfl, Nat.zero_le _, hS0, Lib.hid (bl_row hX0.out hbx.out)⟩
    case round =>
      obtain ⟨wi, rfl⟩ : ∃ x, x = wr := ⟨_, rfl⟩
      obtain ⟨i, al, sp, rfl, hi, hR, hX⟩ := hrel
      have hca := hR.out.ca
      obtain ⟨A4, c4, hv4, hn4, hc4, hr4⟩ := SlN.list hR.out.o4
      subst hv4
      obtain ⟨p, hp⟩ : ∃ p, p = al.length := ⟨_, rfl⟩
      rw [← hp] at hn4 hi hca ⊢
      have hp := Lib.hid hp
      by_cases hlt : i < p
      · have d1 : decide ((i : Int) < (p : Int)) = true := by simp; omega
        have i1 : (0 : Int) ≤ (i : Int) := by omega
        have i2 : (i : Int) < (p : Int) := by omega
        have hil : i < al.length := by rw [← hp.out]; exact hlt
        obtain ⟨ad, x, rfl, hx, hxe⟩ := hr4.at i hil
        obtain ⟨f, hf, rfl⟩ : FN x := by rw [hxe]; exact hR.out.fa _ (List.getElem_mem hil)
        have hre : Hid (∀ w', Below wi.heap.size wi w' → Calls Try.prog 50 #[.agg #[.slice A0 n0 c0, .slice (some ⟨g1, 0, none⟩) 3 3, .slice (some ⟨g2, 0, none⟩) 4 4], .string (fnN f)] w' fun e w'' => ∃ v', e = .returned v' ∧ SlN w'' v' (reachL bs f) ∧ (∀ b, v'.ownBlock = some b → w'.heap.size ≤ b) ∧ Below w'.heap.size w' w'') := Lib.hid (fun w' hb => reach_any _ bs f hf w' (hp'.out.mono (cell_le (bl_then hR.out.hB hR.out.hB.size hb))) hok'.out (fun j hj => by have := hcnt'.out j hj; omega))
        have hSk : Hid (∀ w', Below wi.heap.size wi w' → (w'.cell? ⟨w.heap.size, 0, none⟩ = some (.slice A0 n0 c0) ∧ w'.cell? ⟨w.heap.size, 1, none⟩ = some (.slice (some ⟨g1, 0, none⟩) 3 3) ∧ w'.cell? ⟨w.heap.size, 2, none⟩ = some (.slice (some ⟨g2, 0, none⟩) 4 4) ∧ w'.cell? (ad.add i) = some (.string (fnN f)))) := Lib.hid (fun w' hb => by
          obtain ⟨z0, z1, z2⟩ := hrow.out w' (bl_row hb hX.out)
          exact ⟨z0, z1, z2, bl_cell hb hx⟩)
        have hrl := reachL_len bs hok'.out hf
        have hrf := Lib.hid (reach_all bs hok'.out hf).2.1
        clear hxe hr4 hx
        go_upto_region 6 with fail
        refine wp_region_heldR (S := fun w' => Below wi.heap.size wi w') opsD6 _ (by kernel_rfl) liD6 (by kernel_rfl) nsD6 ((Below.refl wi.heap.size wi).drew) (fun hops hns hHeld => ?_)
        refine wpAnyH_takeR (i := 0) (v := ?vD6_1) hops hns rdD6_0 (by rfl) frD6_0 rfl (fun _ _ _ h => h) stD6_0 (Or.inl ⟨by kernel_rfl, ?hyD6_1⟩) (by assumption) ?restD6_1
        case hyD6_1 => (intro w hSw; obtain ⟨y0, y1, y2, y3⟩ := hSk.out _ hSw; clear hSw; go_simp; (try with_reducible rfl))
        try simp only [Act.put, sA, sB, sC]
        refine wpAnyH_takeR (i := 1) (v := ?vD6_2) hops hns rdD6_1 (by rfl) frD6_1 rfl (fun _ _ _ h => h) stD6_1 (Or.inl ⟨by kernel_rfl, ?hyD6_2⟩) (by assumption) ?restD6_2
        case hyD6_2 => (intro w hSw; obtain ⟨y0, y1, y2, y3⟩ := hSk.out _ hSw; clear hSw; go_simp; (try with_reducible rfl))
        try simp only [Act.put, sA, sB, sC]
        refine wpAnyH_oneR (i := 2) (v := ?vD6_3) hops rdD6_2 rfl stD6_2 (Or.inl ⟨by kernel_rfl, ?hyD6_3⟩) (by assumption) ?restD6_3
        case hyD6_3 => (intro w hSw; obtain ⟨y0, y1, y2, y3⟩ := hSk.out _ hSw; clear hSw; go_simp; (try with_reducible rfl))
        try simp only [Act.put, sA, sB, sC]
        refine wpAnyH_oneR (i := 3) (v := ?vD6_4) hops rdD6_3 rfl stD6_3 (Or.inl ⟨by kernel_rfl, ?hyD6_4⟩) (by assumption) ?restD6_4
        case hyD6_4 => (intro w hSw; obtain ⟨y0, y1, y2, y3⟩ := hSk.out _ hSw; clear hSw; go_simp; (try with_reducible rfl))
        try simp only [Act.put, sA, sB, sC]
        refine wpAnyH_oneR (i := 4) (v := ?vD6_5) hops rdD6_4 rfl stD6_4 (Or.inl ⟨by kernel_rfl, ?hyD6_5⟩) (by assumption) ?restD6_5
        case hyD6_5 => (intro w hSw; obtain ⟨y0, y1, y2, y3⟩ := hSk.out _ hSw; clear hSw; go_simp; (try with_reducible rfl))
        try simp only [Act.put, sA, sB, sC]
        refine wpAnyH_readyR (rs := [5]) hops rdD6_5 (by simp) (AllReadyH.consR rfl stD6_5 (fun K hK => ?_) AllReadyH.nil)
        (go_simp; go_wp2_with (go_at_call 50; (with_reducible refine (hre.out _ (Below.refl _ _).drew).mono ?_); rintro e w7 ⟨v7, rfl, hs7, hf7, hb7⟩; have hs7' := Lib.hid hs7; obtain ⟨A7, c7, rfl, hn7, hc7, hA7, hr7⟩ := hs7; have hBo := Lib.hid (bl_then (Below.refl wi.heap.size wi).drew (Nat.le_refl _) hb7); replace hf7 := Lib.hid hf7; replace hr7 := Lib.hid hr7; clear hA7 hb7))
        refine hK.out _ _ (by first | assumption | exact hBo.out) (fun hHeld => ?_)
        clear hK K
        try simp only [Act.put, sA, sB, sC]
        refine wpAnyH_oneR (i := 6) (v := ?vD6_6) hops rdD6_6 rfl stD6_6 (Or.inl ⟨by kernel_rfl, ?hyD6_6⟩) (by assumption) ?restD6_6
        case hyD6_6 => (intro w hSw; obtain ⟨y0, y1, y2, y3⟩ := hSk.out _ hSw; clear hSw; go_simp; (try with_reducible rfl))
        try simp only [Act.put, sA, sB, sC]
        refine wpAnyH_doneR hops rdD6_7 ?_
        have hR7 := Lib.hid (hR.out.below hBo.out)
        have hX7 := Lib.hid (bl_row hBo.out hX.out)
        have hA7 : Hid (Apart (.slice A7 (reachL bs f).length c7) (.slice (some ad) p c4)) := Lib.hid (fun b hb e => by
          have h1 := hf7.out b hb
          have h2 := (hR.out.o4.lt b (by rw [← hp.out]; exact e)).2
          have h3 : wi.drew.heap.size = wi.heap.size := rfl
          omega)
        generalize reachL bs f = rl at *
        obtain ⟨q7, hq7⟩ : ∃ q, q = rl.length := ⟨_, rfl⟩
        rw [← hq7] at hrl hn7 hs7' hA7 ⊢
        replace hq7 := Lib.hid hq7
        clear hSk hre hR hX hf7 hr7
        go_wp2_with fail
        go_loopw [4, 5, 8] (fun v4 v5 v8 wr => ∃ (k : Nat) (al sp : List ByteArray), v8 = .int .i64 (k : Nat) ∧ k ≤ q7 ∧ i < al.length ∧ Hid (RtS w wr v4 v5 al sp) ∧ Hid (wr.heap[w.heap.size]? = some (.cells #[.slice A0 n0 c0, .slice (some ⟨g1, 0, none⟩) 3 3, .slice (some ⟨g2, 0, none⟩) 4 4] 40 (0, 0))) ∧ Hid (SlN wr (.slice A7 q7 c7) rl ∧ Apart (.slice A7 q7 c7) v4)) (fun _ _ v _ => q7 - (intOf v).toNat)
        case atStart => exact ⟨0, al, sp, rfl, Nat.zero_le _, hil, by simpa [hp.out] using hR7, hX7, Lib.hid ⟨hs7'.out, hA7.out⟩⟩
        case round =>
          obtain ⟨wk, rfl⟩ : ∃ x, x = wr := ⟨_, rfl⟩
          obtain ⟨k, al, sp, rfl, hk, hial, hR, hX, hS7⟩ := hrel
          have hca4 := hR.out.ca
          by_cases hkq : k < q7
          · have d2 : decide ((k : Int) < (q7 : Int)) = true := by simp; omega
            have k1 : (0 : Int) ≤ (k : Int) := by omega
            have k2 : (k : Int) < (q7 : Int) := by omega
            have hkl : k < rl.length := by rw [← hq7.out]; exact hkq
            obtain ⟨ad7, x7, rfl, hx7, hxe7⟩ : ∃ ad x, A7 = some ad ∧ wk.cell? (ad.add k) = some (.string x) ∧ x = rl[k] := by
              obtain ⟨A', c', e1, -, -, -, h4⟩ := hS7.out.1
              cases e1
              exact h4.at k hkl
            obtain ⟨f9, hf9, rfl⟩ : FN x7 := by rw [hxe7]; exact hrf.out _ (List.getElem_mem hkl)
            have hsp : Hid (∀ w', Below wk.heap.size wk w' → Calls Try.prog 51 #[.agg #[.slice A0 n0 c0, .slice (some ⟨g1, 0, none⟩) 3 3, .slice (some ⟨g2, 0, none⟩) 4 4], .string (fnN f9)] w' fun e w'' => ∃ v', e = .returned v' ∧ SlN w'' v' (namedL (bs f9) 6 []) ∧ (∀ b, v'.ownBlock = some b → w'.heap.size ≤ b) ∧ Below w'.heap.size w' w'') := Lib.hid (fun w' hb => spawns_any _ bs f9 hf9 w' (hp'.out.mono (cell_le (bl_then hR.out.hB hR.out.hB.size hb))) (by have := hcnt'.out f9 hf9; omega))
            have hSk : Hid (∀ w', Below wk.heap.size wk w' → (w'.cell? ⟨w.heap.size, 0, none⟩ = some (.slice A0 n0 c0) ∧ w'.cell? ⟨w.heap.size, 1, none⟩ = some (.slice (some ⟨g1, 0, none⟩) 3 3) ∧ w'.cell? ⟨w.heap.size, 2, none⟩ = some (.slice (some ⟨g2, 0, none⟩) 4 4) ∧ w'.cell? (ad7.add k) = some (.string (fnN f9)))) := Lib.hid (fun w' hb => by
              obtain ⟨z0, z1, z2⟩ := hrow.out w' (bl_row hb hX.out)
              exact ⟨z0, z1, z2, bl_cell hb hx7⟩)
            have hsfn : Hid (AllFN (namedL (bs f9) 6 [])) := Lib.hid (spawns_fn hok'.out hf9)
            clear hxe7 hx7
            go_upto_region 10 with fail
            refine wp_region_heldR (S := fun w' => Below wk.heap.size wk w') opsD10 _ (by kernel_rfl) liD10 (by kernel_rfl) nsD10 ((Below.refl wk.heap.size wk).drew) (fun hops hns hHeld => ?_)
            refine wpAnyH_takeR (i := 0) (v := ?vD10_1) hops hns rdD10_0 (by rfl) frD10_0 rfl (fun _ _ _ h => h) stD10_0 (Or.inl ⟨by kernel_rfl, ?hyD10_1⟩) (by assumption) ?restD10_1
            case hyD10_1 => (intro w hSw; obtain ⟨y0, y1, y2, y3⟩ := hSk.out _ hSw; clear hSw; go_simp; (try with_reducible rfl))
            try simp only [Act.put, sA, sB, sC]
            refine wpAnyH_takeR (i := 1) (v := ?vD10_2) hops hns rdD10_1 (by rfl) frD10_1 rfl (fun _ _ _ h => h) stD10_1 (Or.inl ⟨by kernel_rfl, ?hyD10_2⟩) (by assumption) ?restD10_2
            case hyD10_2 => (intro w hSw; obtain ⟨y0, y1, y2, y3⟩ := hSk.out _ hSw; clear hSw; go_simp; (try with_reducible rfl))
            try simp only [Act.put, sA, sB, sC]
            refine wpAnyH_oneR (i := 2) (v := ?vD10_3) hops rdD10_2 rfl stD10_2 (Or.inl ⟨by kernel_rfl, ?hyD10_3⟩) (by assumption) ?restD10_3
            case hyD10_3 => (intro w hSw; obtain ⟨y0, y1, y2, y3⟩ := hSk.out _ hSw; clear hSw; go_simp; (try with_reducible rfl))
            try simp only [Act.put, sA, sB, sC]
            refine wpAnyH_oneR (i := 3) (v := ?vD10_4) hops rdD10_3 rfl stD10_3 (Or.inl ⟨by kernel_rfl, ?hyD10_4⟩) (by assumption) ?restD10_4
            case hyD10_4 => (intro w hSw; obtain ⟨y0, y1, y2, y3⟩ := hSk.out _ hSw; clear hSw; go_simp; (try with_reducible rfl))
            try simp only [Act.put, sA, sB, sC]
            refine wpAnyH_oneR (i := 4) (v := ?vD10_5) hops rdD10_4 rfl stD10_4 (Or.inl ⟨by kernel_rfl, ?hyD10_5⟩) (by assumption) ?restD10_5
            case hyD10_5 => (intro w hSw; obtain ⟨y0, y1, y2, y3⟩ := hSk.out _ hSw; clear hSw; go_simp; (try with_reducible rfl))
            try simp only [Act.put, sA, sB, sC]
            refine wpAnyH_readyR (rs := [5]) hops rdD10_5 (by simp) (AllReadyH.consR rfl stD10_5 (fun K hK => ?_) AllReadyH.nil)
            (go_simp; go_wp2_with (go_at_call 51; (with_reducible refine (hsp.out _ (Below.refl _ _).drew).mono ?_); rintro e w9 ⟨v9, rfl, hs9, hfx9, hb9⟩; have hs9' := Lib.hid hs9; obtain ⟨A9, c9, rfl, hn9, hc9, hA9, hr9⟩ := hs9; have hBo := Lib.hid (bl_then (Below.refl wk.heap.size wk).drew (Nat.le_refl _) hb9); have hf9' := Lib.hid hfx9; clear hfx9; replace hr9 := Lib.hid hr9; clear hA9 hb9))
            refine hK.out _ _ (by first | assumption | exact hBo.out) (fun hHeld => ?_)
            clear hK K
            try simp only [Act.put, sA, sB, sC]
            refine wpAnyH_oneR (i := 6) (v := ?vD10_6) hops rdD10_6 rfl stD10_6 (Or.inl ⟨by kernel_rfl, ?hyD10_6⟩) (by assumption) ?restD10_6
            case hyD10_6 => (intro w hSw; obtain ⟨y0, y1, y2, y3⟩ := hSk.out _ hSw; clear hSw; go_simp; (try with_reducible rfl))
            try simp only [Act.put, sA, sB, sC]
            refine wpAnyH_doneR hops rdD10_7 ?_
            have hR9 := Lib.hid (hR.out.below hBo.out)
            have hX9 := Lib.hid (bl_row hBo.out hX.out)
            have hS79 : Hid (SlN w9 (.slice (some ad7) q7 c7) rl ∧ Apart (.slice (some ad7) q7 c7) u4) := Lib.hid ⟨hS7.out.1.below hBo.out, hS7.out.2⟩
            have hA9 : Hid (Apart (.slice A9 (namedL (bs f9) 6 []).length c9) u4) := Lib.hid (fun b hb e => by
              have h1 := hf9'.out b hb
              have h2 := (hR.out.o4.lt b e).2
              have h3 : wk.drew.heap.size = wk.heap.size := rfl
              omega)
            generalize namedL (bs f9) 6 [] = sl at *
            obtain ⟨q9, hq9⟩ : ∃ q, q = sl.length := ⟨_, rfl⟩
            rw [← hq9] at hn9 hs9' hA9 ⊢
            replace hq9 := Lib.hid hq9
            clear hSk hsp hR hX hS7 hr9
            go_wp2_with fail
            go_loopw [4, 5, 10] (fun v4 v5 v10 wr => ∃ (j : Nat) (al sp : List ByteArray), v10 = .int .i64 (j : Nat) ∧ j ≤ q9 ∧ i < al.length ∧ Hid (RtS w wr v4 v5 al sp) ∧ Hid (wr.heap[w.heap.size]? = some (.cells #[.slice A0 n0 c0, .slice (some ⟨g1, 0, none⟩) 3 3, .slice (some ⟨g2, 0, none⟩) 4 4] 40 (0, 0))) ∧ Hid (SlN wr (.slice (some ad7) q7 c7) rl ∧ Apart (.slice (some ad7) q7 c7) v4) ∧ Hid (SlN wr (.slice A9 q9 c9) sl ∧ Apart (.slice A9 q9 c9) v4)) (fun _ _ v _ => q9 - (intOf v).toNat)
            case atStart => exact ⟨0, al, sp, rfl, Nat.zero_le _, hial, hR9, hX9, hS79, Lib.hid ⟨hs9'.out, hA9.out⟩⟩
            case round =>
              obtain ⟨j, al, sp, rfl, hj, hial, hR, hX, hS7, hS9⟩ := hrel
              have hca4 := hR.out.ca
              have hcs4 := hR.out.cs
              by_cases hjq : j < q9
              · have d3 : decide ((j : Int) < (q9 : Int)) = true := by simp; omega
                have j1 : (0 : Int) ≤ (j : Int) := by omega
                have j2 : (j : Int) < (q9 : Int) := by omega
                have hjl : j < sl.length := by rw [← hq9.out]; exact hjq
                obtain ⟨ad9, y, rfl, hy, hye⟩ : ∃ ad y, A9 = some ad ∧ wr.cell? (ad.add j) = some (.string y) ∧ y = sl[j] := by
                  obtain ⟨A', c', e1, -, -, -, h4⟩ := hS9.out.1
                  cases e1
                  exact h4.at j hjl
                have hyf : Hid (FN y) := Lib.hid (by rw [hye]; exact hsfn.out _ (List.getElem_mem hjl))
                obtain ⟨A5, c5, hv5, hn5, hc5, hA5, hr5⟩ := hR.out.s5
                subst hv5
                have hwt := Lib.hid (with_any A5 c5 sp y wr hr5 hA5 hn5 hc5 (by omega))
                obtain ⟨A4, c4, hv4, hn4, hc4, hr4⟩ := SlN.list hR.out.o4
                subst hv4
                have hin := Lib.hid (fun (w' : World) (hb : Below wr.heap.size wr w') => in_any A4 c4 al y w' (hr4.below hb) hn4 hc4)
                replace hye := Lib.hid hye
                clear hr5 hA5 hr4
                cases hiy : inL al y with
                | true =>
                  rw [hiy] at hin
                  go_wp2_with (first | (go_at_call 44; (with_reducible refine hwt.out.mono ?_); rintro e w8 ⟨v5, rfl, hs5, hf5, hb5⟩; replace hy := bl_cell hb5 hy; replace hs5 := Lib.hid hs5; replace hf5 := Lib.hid hf5; replace hb5 := Lib.hid hb5) | (go_at_call 52; (with_reducible refine (hin.out _ hb5.out).mono ?_); rintro e w' ⟨rfl, rfl⟩))
                  exact ⟨⟨j + 1, al, withL sp y, by go_num, by omega, hial, Lib.hid (hR.out.with_ hb5.out hs5.out hf5.out hyf.out), Lib.hid (bl_row hb5.out hX.out), Lib.hid ⟨hS7.out.1.below hb5.out, hS7.out.2⟩, Lib.hid ⟨hS9.out.1.below hb5.out, hS9.out.2⟩⟩, by simp [intOf]; omega⟩
                | false =>
                  rw [hiy] at hin
                  replace hiy := Lib.hid hiy
                  go_wp2_with (first | (go_at_call 44; (with_reducible refine hwt.out.mono ?_); rintro e w8 ⟨v5, rfl, hs5, hf5, hb5⟩; replace hy := bl_cell hb5 hy; have hR8 := Lib.hid (hR.out.with_ hb5 hs5 hf5 hyf.out); replace hs5 := Lib.hid hs5; replace hf5 := Lib.hid hf5; replace hb5 := Lib.hid hb5) | (go_at_call 52; (with_reducible refine (hin.out _ hb5.out).mono ?_); rintro e w' ⟨rfl, rfl⟩) | (at_builtin; refine app_lit (w0 := w8) (w.heap.size + 1) rfl _ _ 52 9 (.string ⟨#[]⟩) 1 16 rfl Try.underlying52 info9 rfl (by decide) (by decide) (.slice A4 al.length c4) al.length (strs al) rfl hR8.out.o4 (Below.refl _ _) (by have := (Array.getElem?_eq_some_iff.1 (bl_row hb5.out hX.out)).1; omega) 1 1 [.string y] rfl rfl (by simp [Value.oneCell']) (by omega) ?_; intro v9 w9 o9 b9 g9 a9; replace o9 := Lib.hid o9; replace g9 := Lib.hid g9; replace a9 := Lib.hid a9; clear b9))
                  have hX8 := bl_row hb5.out hX.out
                  have hz8 := (Array.getElem?_eq_some_iff.1 hX8).1
                  have k7 := keepN (hS7.out.1.below hb5.out) (by have := hq7.out; omega) hS7.out.2 g9.out a9.out
                  have k9 := keepN (hS9.out.1.below hb5.out) (by have := hq9.out; omega) hS9.out.2 g9.out a9.out
                  exact ⟨⟨j + 1, al ++ [y], withL sp y, by go_num, by omega, by simp; omega, Lib.hid (hR8.out.app (withL_pos _ _) (by omega) o9.out g9.out a9.out hyf.out hiy.out), Lib.hid ((g9.out.block _ hz8 (fun e => by have := (hR8.out.o4.lt _ e.symm).1; omega)).trans hX8), Lib.hid k7, Lib.hid k9⟩, by simp [intOf]; omega⟩
              · have d3 : decide ((j : Int) < (q9 : Int)) = false := by simp; omega
                go_wp2_with fail
                exact ⟨⟨k + 1, al, sp, by go_num, by omega, hial, hR, hX, hS7⟩, by simp [intOf]; omega⟩
          · have d2 : decide ((k : Int) < (q7 : Int)) = false := by simp; omega
            have hial2 : Hid (i < al.length) := Lib.hid hial
            go_wp2_with fail
            exact ⟨⟨i + 1, al, sp, by go_num, by omega, hR, hX⟩, by simp [intOf]; omega⟩
      · have d1 : decide ((i : Int) < (p : Int)) = false := by simp; omega
        go_wp2_with fail
        go_meet
        exact ⟨sp, Lib.hid ⟨hR.out.s5, hR.out.fs, by have := hR.out.cs; omega⟩, hR.out.hB⟩
  case rest =>
    obtain ⟨sp, hsp, hB⟩ := hcut
    obtain ⟨A5, c5, hv5, hn5, hc5, hA5, hr5⟩ := hsp.out.1
    subst hv5
    have hin := Lib.hid (fun (w' : World) (hb : Below wc.heap.size wc w') => in_any A5 c5 sp ⟨#[109, 97, 105, 110]⟩ w' (hr5.below hb) hn5 hc5)
    have hsl := hsp.out.2.2
    have hcel : Hid (∀ i, ∀ h : i < sp.length, ∃ ad x, A5 = some ad ∧ x = sp[i] ∧ ∀ w', Below wc.heap.size wc w' → w'.cell? (ad.add i) = some (.string x)) := Lib.hid (fun i h => by
      obtain ⟨ad, x, e1, e2, e3⟩ := hr5.at i h
      exact ⟨ad, x, e1, e3, fun w' hb => bl_cell hb e2⟩)
    clear hr5 hA5
    obtain ⟨b0, hb0⟩ : ∃ b, inL sp ⟨#[109, 97, 105, 110]⟩ = b := ⟨_, rfl⟩
    rw [hb0] at hin
    replace hb0 := Lib.hid hb0
    obtain ⟨q, hq⟩ : ∃ q, q = sp.length := ⟨_, rfl⟩
    rw [← hq] at hn5 hin hsl ⊢
    replace hq := Lib.hid hq
    go_upto_block 6 with (go_at_call 52; (with_reducible refine (hin.out _ (bl_alloc (Below.refl _ _) _)).mono ?_); rintro e w' ⟨rfl, rfl⟩)
    have hox : Hid (((wc.alloc (.cells #[.string (⟨#[109, 97, 105, 110]⟩ : ByteArray)] 9)).alloc (.cells #[.bool b0] 4)).ownsRow wc.heap.size 9 1 (.slice (some ⟨wc.heap.size, 0, none⟩) 1 1) 1 [.string (⟨#[109, 97, 105, 110]⟩ : ByteArray)]) := Lib.hid ((own_lit wc wc.heap.size 9 1 1 [.string (⟨#[109, 97, 105, 110]⟩ : ByteArray)] (Nat.le_refl _) rfl (by omega)).alloc _)
    have hoy : Hid (((wc.alloc (.cells #[.string (⟨#[109, 97, 105, 110]⟩ : ByteArray)] 9)).alloc (.cells #[.bool b0] 4)).ownsRow wc.heap.size 4 1 (.slice (some ⟨wc.heap.size + 1, 0, none⟩) 1 1) 1 [.bool b0]) := Lib.hid (by
      have := own_lit (wc.alloc (.cells #[.string (⟨#[109, 97, 105, 110]⟩ : ByteArray)] 9)) wc.heap.size 4 1 1 [.bool b0] (by simp) rfl (by omega)
      rw [World.size_alloc] at this
      exact this)
    have hT0 : Hid (Two0 wc ((wc.alloc (.cells #[.string (⟨#[109, 97, 105, 110]⟩ : ByteArray)] 9)).alloc (.cells #[.bool b0] 4)) 9 4 (.slice (some ⟨wc.heap.size, 0, none⟩) 1 1) (.slice (some ⟨wc.heap.size + 1, 0, none⟩) 1 1) 1 1 (strs [(⟨#[109, 97, 105, 110]⟩ : ByteArray)]) [.bool b0]) := Lib.hid
      ⟨bl_alloc (bl_alloc (Below.refl _ _) _) _, hox.out, hoy.out, fun b h e => by simp only [Value.ownBlock, Option.some.injEq] at h e; omega⟩
    clear hin hox hoy
    go_wp2_with fail
    go_loopw [11, 12, 13] (fun v11 v12 v13 wr => ∃ (i : Nat) (L : List ByteArray) (ys : List Value), v13 = .int .i64 (i : Nat) ∧ i ≤ q ∧ 0 < L.length ∧ L.length ≤ i + 1 ∧ Hid (AllFN L) ∧ Hid (∀ y ∈ ys, ∃ b : Bool, y = .bool b) ∧ Hid (Two0 wc wr 9 4 v11 v12 L.length L.length (strs L) ys)) (fun _ _ v _ => q - (intOf v).toNat)
    case atStart => exact ⟨0, [(⟨#[109, 97, 105, 110]⟩ : ByteArray)], [.bool b0], rfl, Nat.zero_le _, by simp, by simp, Lib.hid (fun x hx => by rw [List.mem_singleton] at hx; subst hx; exact hmain.out), Lib.hid (fun y hy => by rw [List.mem_singleton] at hy; exact ⟨_, hy⟩), hT0⟩
    case round =>
      obtain ⟨i, L, ys, rfl, hi, hL0, hL1, hLf, hys, hT⟩ := hrel
      by_cases hlt : i < q
      · have d1 : decide ((i : Int) < (q : Int)) = true := by simp; omega
        have i1 : (0 : Int) ≤ (i : Int) := by omega
        have i2 : (i : Int) < (q : Int) := by omega
        obtain ⟨ad, x, rfl, hx, hxc⟩ := hcel.out i (by rw [← hq.out]; exact hlt)
        have y0 := hxc wr hT.out.hB
        have hxf : Hid (FN x) := Lib.hid (by rw [hx]; exact hsp.out.2.1 _ (List.getElem_mem _))
        replace hx := Lib.hid hx
        clear hxc
        cases he : (x.toList == (⟨#[109, 97, 105, 110]⟩ : ByteArray).toList) with
        | true =>
          have hxm := (eqS_iff x _).1 he
          subst hxm
          clear he
          go_wp2_with fail
          exact ⟨⟨i + 1, L, ys, by go_num, by omega, hL0, by omega, hLf, hys, hT⟩, by simp [intOf]; omega⟩
        | false =>
          have hmm : (⟨#[109, 97, 105, 110]⟩ : ByteArray).toList = [109, 97, 105, 110] := by rw [ByteArray.toList_eq]
          rw [hmm] at he
          clear hmm
          have hL9 : ∀ x, FN x → AllFN (L ++ [x]) := fun x hx z hz => by
            rcases List.mem_append.1 hz with hz | hz
            · exact hLf.out z hz
            · rw [List.mem_singleton] at hz; subst hz; exact hx
          have hy9 : ∀ b : Bool, ∀ y ∈ ys ++ [.bool b], ∃ b : Bool, y = .bool b := fun b z hz => by
            rcases List.mem_append.1 hz with hz | hz
            · exact hys.out z hz
            · rw [List.mem_singleton] at hz; exact ⟨_, hz⟩
          go_wp2_with (first
            | (at_builtin; refine app_lit (w0 := wc) wc.heap.size rfl _ _ 52 9 (.string ⟨#[]⟩) 1 16 rfl Try.underlying52 info9 rfl (by decide) (by decide) u11 L.length (strs L) rfl hT.out.ox hT.out.hB hT.out.hB.size 1 1 [.string x] rfl rfl (by simp [Value.oneCell']) (by omega) ?_; intro v9 w9 o9 b9 g9 a9; have hT9 := Lib.hid (hT.out.growX o9 b9 g9 a9); clear o9 b9 g9 a9)
            | (at_builtin; refine app_lit (w0 := wc) wc.heap.size rfl _ _ 59 4 (.bool false) 1 1 rfl Try.underlying59 info4 rfl (by decide) (by decide) u12 L.length ys rfl hT9.out.oy hT9.out.hB hT9.out.hB.size 1 1 [.bool true] rfl rfl (by simp [Value.oneCell']) (by omega) ?_; intro v8 w8 o8 b8 g8 a8; have hT8 := Lib.hid (hT9.out.growY o8 b8 g8 a8); clear o8 b8 g8 a8; go_wp2_with fail; (exact ⟨⟨i + 1, L ++ [x], ys ++ [.bool true], by go_num, by omega, by simp, by simp; omega, Lib.hid (hL9 x hxf.out), Lib.hid (hy9 _), Lib.hid (by have := hT8.out; simpa [strs, enc] using this)⟩, by simp [intOf]; omega⟩)))
      · have d1 : decide ((i : Int) < (q : Int)) = false := by simp; omega
        obtain ⟨A11, c11, hv11, h11a, h11b, h11c⟩ := SlN.list hT.out.ox
        subst hv11
        obtain ⟨g12, c12, hv12, h12, hg12⟩ := own_some hT.out.oy hL0
        subst hv12
        obtain ⟨A', c', e', k1, k2, k3, -⟩ := Rd.own hT.out.oy
        cases e'
        replace h11c := Lib.hid h11c
        replace k3 := Lib.hid k3
        go_wp2_with fail
        go_ret2
        exact ⟨A11, c11, g12, c12, L, ys, rfl, fun a ha => by
          have h1 := hT.out.ox.lt a.block (by rw [ha]; rfl)
          have := hB.out.size
          omega, Nat.le_trans hB.out.size hg12, SlN.own hT.out.ox rfl, hLf.out, hL0, by omega, k1, k2, k3.out, by simpa using hT.out.oy.1, hys.out, bl_then hB.out hB.out.size hT.out.hB⟩
end Go.Proofs.Ytdhklfbelplbcaa
