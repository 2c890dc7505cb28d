/-
  The walk of Reach.
  The walks: a lock's place, the join of two states.
-/
import Derived.Test.YtdhklfbelplbcaaZ07
namespace Go.Proofs.Ytdhklfbelplbcaa
set_option linter.unusedVariables false
set_option linter.unusedSimpArgs false
open Go.RowKit

/-- what is reached so far, and what is still to be looked at; the row of names that is gone through -/
structure RchSt (w W : World) (box : Array Value) (v5 v6 : Value) (out todo : List ByteArray) : Prop where
  so : SlN W v5 out
  tl : Tl W (w.heap.size + 1) v6 todo
  ne : ∀ b, v5.ownBlock = some b → v6.ownBlock ≠ some b
  fr : ∀ b, v5.ownBlock = some b → w.heap.size ≤ b
  hB : Below w.heap.size w W
  bx : W.heap[w.heap.size]? = some (.cells box 40 (0, 0))
  pos : 0 < out.length
theorem RchSt.below {w W W' : World} {box : Array Value} {v5 v6 : Value} {out todo : List ByteArray} (h : RchSt w W box v5 v6 out todo) (hb : Below W.heap.size W W') : RchSt w W' box v5 v6 out todo :=
  ⟨h.so.below hb, h.tl.below hb, h.ne, h.fr, bl_then h.hB h.hB.size hb, bl_row hb h.bx, h.pos⟩
theorem RchSt.drew {w W : World} {box : Array Value} {v5 v6 : Value} {out todo : List ByteArray} (h : RchSt w W box v5 v6 out todo) : RchSt w W.drew box v5 v6 out todo := h.below (Below.refl _ _).drew
theorem RchSt.with_ {w W W' : World} {box : Array Value} {v5 v5' v6 : Value} {out out' todo : List ByteArray} (h : RchSt w W box v5 v6 out todo) (hb : Below W.heap.size W W') (hs : SlN W' v5' out') (hf : Fr W.heap.size v5 v5') (hp : 0 < out'.length) : RchSt w W' box v5' v6 out' todo := by
  have hsz := h.hB.size
  refine ⟨hs, h.tl.below hb, fun b hb1 => ?_, fun b hb1 => ?_, bl_then h.hB h.hB.size hb, bl_row hb h.bx, hp⟩
  · rcases hf with rfl | hf
    · exact h.ne b hb1
    · intro e
      have := (h.tl.lt b e).2
      have := hf b hb1
      omega
  · rcases hf with rfl | hf
    · exact h.fr b hb1
    · exact Nat.le_trans hsz (hf b hb1)
theorem RchSt.app {w W W' : World} {box : Array Value} {v5 v6 v6' : Value} {out todo todo' : List ByteArray} (h : RchSt w W box v5 v6 out todo) (ht : Tl W' (w.heap.size + 1) v6' todo') (hg : W.grownBy W' v6.ownBlock) (hat : v6'.ownBlock = v6.ownBlock ∨ ∃ b, v6'.ownBlock = some b ∧ W.heap.size ≤ b) : RchSt w W' box v5 v6' out todo' := by
  refine ⟨h.so.grown hg (fun b hb e => h.ne b hb e), ht, fun b hb => ?_, h.fr, ?_, ?_, h.pos⟩
  · rcases hat with hat | ⟨c, hat, hc⟩
    · rw [hat]; exact h.ne b hb
    · rw [hat]
      intro e
      cases e
      have := h.so.lt h.pos _ hb
      omega
  · exact h.hB.grown hg h.hB.size (fun k hk => by have := (h.tl.lt k hk).1; omega)
  · rw [hg.block _ (Array.getElem?_eq_some_iff.1 h.bx).1 (fun e => by have := (h.tl.lt _ e.symm).1; omega)]
    exact h.bx
theorem Tl.cut {W : World} {base g o m c : Nat} {x : ByteArray} {rest : List ByteArray} (h : Tl W base (.slice (some ⟨g, o, none⟩) m c) (x :: rest)) :
    (c = 1 → Tl W base (.slice (some ⟨g, o, none⟩) (m - 1) (c - 1)) rest) ∧ Tl W base (.slice (some ⟨g, o + 1, none⟩) (m - 1) (c - 1)) rest := by
  obtain ⟨g', o', c', cur, hv, h2, h3, h4, h5, h6, h7⟩ := h
  cases hv
  simp only [List.length_cons] at h5
  refine ⟨fun hc => ?_, g, o + 1, c - 1, cur, by simp, h2, h3, by omega, by omega, by omega, fun i hi => ?_⟩
  · have hr : rest = [] := List.eq_nil_of_length_eq_zero (by omega)
    subst hr
    exact ⟨g, o, c - 1, cur, by simp, h2, h3, by omega, by simp, by omega, fun i hi => by simp at hi⟩
  · have := h7 (i + 1) (by simp; omega)
    rw [show o + 1 + i = o + (i + 1) by omega, this]
    simp

theorem muF_one {f : Nat} (hf : f < 4) : muF [fnN f] ≤ 3 := by
  have h1 := muF_with (out := []) (s := fnN f) ⟨f, hf, rfl⟩ rfl
  have h2 : withL [] (fnN f) = [fnN f] := rfl
  have h3 := muF_le []
  rw [h2] at h1
  omega
theorem addR_step (y : ByteArray) (ys : List ByteArray) (p : List ByteArray × List ByteArray) : addR (y :: ys) p = addR ys (if inL p.1 y then p else (withL p.1 y, p.2 ++ [y])) := rfl
theorem withL_pos (l : List ByteArray) (s : ByteArray) : 0 < (withL l s).length := by
  have : s ∈ withL l s := (withL_mem l s s).2 (.inr rfl)
  exact List.length_pos_of_mem this
set_option maxHeartbeats 16000000 in
set_option maxRecDepth 100000 in
theorem reach_any (v : Value) (bs : Nat → St) (f : Nat) (hf : f < 4) (w : World) (hp : PrOk w.cell? v bs) (hok : ∀ j, j < 4 → StOk (bs j)) (hcnt : ∀ j, j < 4 → (bs j).cnt ≤ 900) :
    Calls Try.prog 50 #[v, .string (fnN f)] w fun e w' => ∃ v', e = .returned v' ∧ SlN w' v' (reachL bs f) ∧ (∀ b, v'.ownBlock = some b → w.heap.size ≤ b) ∧ Below w.heap.size w w' := by
  have hp' := Lib.hid hp
  obtain ⟨A0, n0, c0, g1, g2, rfl, h2, h3⟩ := hp
  replace hok := Lib.hid hok
  replace hcnt := Lib.hid hcnt
  clear h2 h3
  go_enter Try.func50, Try.ntmps50
  go_wp2_with fail
  go_loopg [5, 6] 4 (fun k v5 v6 wr => ∃ out todo, k ≤ 4 ∧ out.length + muF out ≤ 4 ∧ muF out + todo.length ≤ k ∧ AllFN out ∧ AllFN todo ∧ reachF bs (k + 1) out todo = reachL bs f ∧ RchSt w wr #[.slice A0 n0 c0, .slice (some ⟨g1, 0, none⟩) 3 3, .slice (some ⟨g2, 0, none⟩) 4 4] v5 v6 out todo)
  case atStart =>
    refine ⟨[fnN f], [fnN f], Nat.le_refl _, by have := muF_one hf; simp; omega, by have := muF_one hf; simp; omega, fun s hs => ⟨f, hf, by simpa using hs⟩, fun s hs => ⟨f, hf, by simpa using hs⟩, rfl, ?_⟩
    have hr1 : (((w.alloc (.cells #[.slice A0 n0 c0, .slice (some ⟨g1, 0, none⟩) 3 3, .slice (some ⟨g2, 0, none⟩) 4 4] 40)).alloc (.cells #[.string (fnN f)] 9)).alloc (.cells #[.string (fnN f)] 9)).heap[w.heap.size + 1]? = some (.cells #[.string (fnN f)] 9 (0, 0)) := by
      have := heap_alloc_new (w.alloc (.cells #[.slice A0 n0 c0, .slice (some ⟨g1, 0, none⟩) 3 3, .slice (some ⟨g2, 0, none⟩) 4 4] 40)) (.cells #[.string (fnN f)] 9)
      rw [World.size_alloc] at this
      exact blk_alloc this _
    have ho := own_lit ((w.alloc (.cells #[.slice A0 n0 c0, .slice (some ⟨g1, 0, none⟩) 3 3, .slice (some ⟨g2, 0, none⟩) 4 4] 40)).alloc (.cells #[.string (fnN f)] 9)) (w.heap.size + 1) 9 1 1 [.string (fnN f)] (by simp) rfl (by omega)
    rw [World.size_alloc, World.size_alloc] at ho
    refine ⟨⟨_, 1, rfl, Nat.le_refl _, by omega, (fun e => by cases e), rd_row (xs := [.string (fnN f)]) hr1⟩, Tl.own ho (by simp), fun b hb e => ?_, fun b hb => ?_, bl_alloc (bl_alloc (bl_alloc (Below.refl _ _) _) _) _, blk_alloc (blk_alloc (heap_alloc_new w _) _) _, by simp⟩
    · simp only [Value.ownBlock, Option.some.injEq] at hb e; omega
    · cases hb; show w.heap.size ≤ w.heap.size + 1; omega
  case round =>
    obtain ⟨out, todo, hk4, hol, hmu, hfo, hft, hre, hR⟩ := hrel
    obtain ⟨g, o, c6, cur, rfl, hg0, -, -, -, hc6, -⟩ := hR.tl
    obtain ⟨A5, c5, rfl, hn5, hc5, hA5, hr5⟩ := hR.so
    cases todo with
    | nil =>
      have hd : decide ((0 : Int) < ((0 : Nat) : Int)) = false := by simp
      have hfin : Hid (out = reachL bs f) := Lib.hid (by rw [← hre]; rfl)
      have hz : Hid (([] : List ByteArray).length = 0) := Lib.hid rfl
      rw [hz.out]
      replace hre := Lib.hid hre
      replace hR := Lib.hid hR
      clear hr5 hA5
      go_wp2_with fail
      first | go_ret | go_end0
      exact ⟨_, rfl, by rw [← hfin.out]; exact hR.out.so, hR.out.fr, hR.out.hB⟩
    | cons x rest =>
      obtain ⟨k, rfl⟩ : ∃ k, gk = k + 1 := ⟨gk - 1, by simp at hmu; omega⟩
      have hxf := hft x (List.mem_cons_self ..)
      have hfx := fnIx_fn hxf
      have hxl := fnIx_lt x
      have hmb : Hid (out.length + muF out ≤ 4 ∧ muF out + rest.length ≤ 8) := Lib.hid (by simp only [List.length_cons] at hmu; omega)
      have hft' : Hid (AllFN rest) := Lib.hid (fun s hs => hft s (List.mem_cons_of_mem _ hs))
      replace hfo := Lib.hid hfo
      obtain ⟨m, hm⟩ : ∃ m, m = (x :: rest).length := ⟨_, rfl⟩
      have hm1 : 1 ≤ m := by rw [hm]; simp
      have hmr : Hid (m - 1 = rest.length) := Lib.hid (by rw [hm]; simp)
      rw [← hm]
      have hd : decide ((0 : Int) < (m : Int)) = true := by simp; omega
      have hd2 : decide (0 < m) = true := by simp; omega
      have mi : 0 < m := by omega
      have hR' : Hid (RchSt w wr #[.slice A0 n0 c0, .slice (some ⟨g1, 0, none⟩) 3 3, .slice (some ⟨g2, 0, none⟩) 4 4] (.slice A5 out.length c5) (.slice (some ⟨g, o, none⟩) m c6) out (x :: rest)) := Lib.hid (by rw [hm]; exact hR)
      have hmc : m ≤ c6 := by
        obtain ⟨g', o', c', cur', hv, -, -, -, h5, -⟩ := hR'.out.tl
        cases hv; rw [hm]; exact h5
      have hxc : wr.cell? ⟨g, o, none⟩ = some (.string (fnN (fnIx x))) := by
        obtain ⟨g', o', c', cur', hv, -, h3, h4, h5, -, h7⟩ := hR'.out.tl
        cases hv
        have := h7 0 (by simp)
        rw [cell_of_row wr g o cur' 9 (0, 0) h3, hfx]
        simpa using this
      have hmu' : Hid (muF (addR (callsL bs (fnIx x)) (out, rest)).1 + (addR (callsL bs (fnIx x)) (out, rest)).2.length ≤ k) := Lib.hid (by
        have := addR_mu (callsL bs (fnIx x)) (out, rest) (calls_fn hok.out hxl)
        simp only [List.length_cons] at hmu
        simp only at this
        omega)
      have hre' : Hid (reachF bs (k + 1) (addR (callsL bs (fnIx x)) (out, rest)).1 (addR (callsL bs (fnIx x)) (out, rest)).2 = reachL bs f) := Lib.hid hre
      have hcf := Lib.hid (calls_fn hok.out hxl)
      have hca := Lib.hid (calls_any (.agg #[.slice A0 n0 c0, .slice (some ⟨g1, 0, none⟩) 3 3, .slice (some ⟨g2, 0, none⟩) 4 4]) bs (fnIx x) hxl wr.drew (hp'.out.mono (cell_le hR.hB.drew)) (by have := hcnt.out _ hxl; omega))
      change Hid (Calls Try.prog 62 _ wr.drew fun e w' => ∃ v', e = .returned v' ∧ SlN w' v' (callsL bs (fnIx x)) ∧ (∀ b, v'.ownBlock = some b → wr.drew.heap.size ≤ b) ∧ Below wr.drew.heap.size wr.drew w') at hca
      replace hm := Lib.hid hm
      replace hfx := Lib.hid hfx
      clear hmu hol hft hre hR hr5 hA5 hxf hg0
      have hbx := hR'.out.bx
      have hSd : wr.drew.cell? ⟨w.heap.size, 0, none⟩ = some (.slice A0 n0 c0) ∧ wr.drew.cell? ⟨w.heap.size, 1, none⟩ = some (.slice (some ⟨g1, 0, none⟩) 3 3) ∧ wr.drew.cell? ⟨w.heap.size, 2, none⟩ = some (.slice (some ⟨g2, 0, none⟩) 4 4) ∧ wr.drew.cell? ⟨g, o, none⟩ = some (.string (fnN (fnIx x))) := ⟨by rw [cell_of_row wr.drew _ 0 _ 40 (0, 0) hbx]; rfl, by rw [cell_of_row wr.drew _ 1 _ 40 (0, 0) hbx]; rfl, by rw [cell_of_row wr.drew _ 2 _ 40 (0, 0) hbx]; rfl, hxc⟩
      have hSk : Hid (∀ w', Below wr.drew.heap.size wr.drew w' → (w'.cell? ⟨w.heap.size, 0, none⟩ = some (.slice A0 n0 c0) ∧ w'.cell? ⟨w.heap.size, 1, none⟩ = some (.slice (some ⟨g1, 0, none⟩) 3 3) ∧ w'.cell? ⟨w.heap.size, 2, none⟩ = some (.slice (some ⟨g2, 0, none⟩) 4 4) ∧ w'.cell? ⟨g, o, none⟩ = some (.string (fnN (fnIx x))))) := Lib.hid (fun w' hb => ⟨bl_cell hb hSd.1, bl_cell hb hSd.2.1, bl_cell hb hSd.2.2.1, bl_cell hb hSd.2.2.2⟩)
      clear hbx hxc
      go_wp2_with fail
      go_region_held3 (fun w' => w'.cell? ⟨w.heap.size, 0, none⟩ = some (.slice A0 n0 c0) ∧ w'.cell? ⟨w.heap.size, 1, none⟩ = some (.slice (some ⟨g1, 0, none⟩) 3 3) ∧ w'.cell? ⟨w.heap.size, 2, none⟩ = some (.slice (some ⟨g2, 0, none⟩) 4 4) ∧ w'.cell? ⟨g, o, none⟩ = some (.string (fnN (fnIx x)))) (first | with_reducible exact hSd | exact hSk.out _ hb7.out)
        (first | (go_at_call 62; (with_reducible refine hca.out.mono ?_); rintro e w7 ⟨v7, rfl, hs7, hf7, hb7⟩; obtain ⟨A7, c7, rfl, n7, m7, a7, r7⟩ := hs7; replace hf7 := Lib.hid hf7; replace hb7 := Lib.hid hb7; replace a7 := Lib.hid a7; replace r7 := Lib.hid r7))
      clear hSd hSk
      have hR7 := Lib.hid (hR'.out.drew.below hb7.out)
      obtain ⟨v6, hv6, hT6⟩ : ∃ v6, v6 = Value.slice (if c6 = 1 then some ⟨g, o, none⟩ else some ⟨g, o + 1, none⟩) (m - 1) (c6 - 1) ∧ RchSt w w7 #[.slice A0 n0 c0, .slice (some ⟨g1, 0, none⟩) 3 3, .slice (some ⟨g2, 0, none⟩) 4 4] (.slice A5 out.length c5) v6 out rest := by
        refine ⟨_, rfl, ?_⟩
        have hcut := hR7.out.tl.cut
        by_cases hc1 : c6 = 1
        · rw [if_pos hc1]
          exact ⟨hR7.out.so, hcut.1 hc1, fun b hb e => hR7.out.ne b hb (by simpa [Value.ownBlock] using e), hR7.out.fr, hR7.out.hB, hR7.out.bx, hR7.out.pos⟩
        · rw [if_neg hc1]
          exact ⟨hR7.out.so, hcut.2, fun b hb e => hR7.out.ne b hb (by simpa [Value.ownBlock] using e), hR7.out.fr, hR7.out.hB, hR7.out.bx, hR7.out.pos⟩
      have hne7 : Hid (∀ b, (Value.slice A7 (callsL bs (fnIx x)).length c7).ownBlock = some b → v6.ownBlock ≠ some b) := Lib.hid (fun b hb e => by
        have h1 := hf7.out b hb
        have h2 : (Value.slice (some ⟨g, o, none⟩) m c6).ownBlock = some b := by
          rw [← e, hv6]; split <;> rfl
        have h3 := (hR'.out.tl.lt b h2).2
        have h4 : wr.drew.heap.size = wr.heap.size := rfl
        omega)
      replace hv6 := Lib.hid hv6
      replace hT6 := Lib.hid hT6
      generalize callsL bs (fnIx x) = cl at *
      go_upto_block 2 with fail
      rw [← hv6.out]
      clear mi hd hd2 hm1 hmc hc5 hn5
      go_wp2_with fail
      go_loopw [5, 6, 8] (fun x5 x6 x8 wx => ∃ (i : Nat) (out1 todo1 : List ByteArray), x8 = .int .i64 (i : Nat) ∧ i ≤ cl.length ∧ Hid (addR (cl.drop i) (out1, todo1) = addR cl (out, rest)) ∧ Hid (RchSt w wx #[.slice A0 n0 c0, .slice (some ⟨g1, 0, none⟩) 3 3, .slice (some ⟨g2, 0, none⟩) 4 4] x5 x6 out1 todo1) ∧ Hid (SlN wx (.slice A7 cl.length c7) cl) ∧ Hid (∀ b, (Value.slice A7 cl.length c7).ownBlock = some b → x6.ownBlock ≠ some b) ∧ Hid (out1.length + muF out1 ≤ 4 ∧ muF out1 + todo1.length ≤ 8)) (fun _ _ x8 _ => cl.length - (intOf x8).toNat)
      case atStart => exact ⟨0, out, rest, rfl, Nat.zero_le _, Lib.hid rfl, hT6, Lib.hid ⟨A7, c7, rfl, n7, m7, a7.out, r7.out⟩, hne7, hmb⟩
      case round =>
        obtain ⟨i, out1, todo1, rfl, hi, had, hR1, hc1, hn1, hm1⟩ := hrel
        by_cases hlt : i < cl.length
        · have hd : decide (i < cl.length) = true := by simpa using hlt
          have hd2 : decide ((i : Int) < (cl.length : Int)) = true := by simp; omega
          have i1 : (0 : Int) ≤ (i : Int) := by omega
          have i2 : (i : Int) < (cl.length : Int) := by omega
          obtain ⟨Ac, cc, hce, hcn, hcm, hcA, hcr⟩ := hc1.out
          cases hce
          obtain ⟨ad, y, rfl, hy, hye⟩ := hcr.at i hlt
          obtain ⟨B5, d5, rfl, hb5n, hb5m, hb5A, hb5r⟩ := hR1.out.so
          have hfy : Hid (FN y) := Lib.hid (by rw [hye]; exact hcf.out _ (List.getElem_mem _))
          have had' : Hid (addR (cl.drop (i + 1)) (if inL out1 y then (out1, todo1) else (withL out1 y, todo1 ++ [y])) = addR cl (out, rest)) := Lib.hid (by
            rw [← had.out, List.drop_eq_getElem_cons hlt, ← hye, addR_step])
          have hol := hm1.out
          have hin := Lib.hid (in_any B5 d5 out1 y wr hb5r hb5n hb5m)
          cases hiy : inL out1 y with
          | true =>
            rw [hiy] at hin had'
            replace had' : Hid (addR (cl.drop (i + 1)) (out1, todo1) = addR cl (out, rest)) := had'
            replace hye := Lib.hid hye
            replace hol := Lib.hid hol
            clear hcr hcA hb5r hb5A
            go_wp2_with (go_at_call 52; refine hin.out.mono ?_; rintro e w' ⟨rfl, rfl⟩)
            exact ⟨⟨i + 1, out1, todo1, by go_num, by omega, had', hR1, hc1, hn1, hm1⟩, by simp [intOf]; omega⟩
          | false =>
            have hwt := Lib.hid (with_any B5 d5 out1 y wr hb5r hb5A hb5n hb5m (by omega))
            have hmw : Hid ((withL out1 y).length + muF (withL out1 y) ≤ 4 ∧ muF (withL out1 y) + (todo1 ++ [y]).length ≤ 8) := Lib.hid (by
              have h1 := muF_with hfy.out hiy
              have h2 := withL_len out1 y
              simp only [List.length_append, List.length_cons, List.length_nil]
              omega)
            rw [hiy] at hin had'
            replace had' : Hid (addR (cl.drop (i + 1)) (withL out1 y, todo1 ++ [y]) = addR cl (out, rest)) := had'
            have htl : todo1.length ≤ 1000 := by omega
            replace hye := Lib.hid hye
            replace hol := Lib.hid hol
            clear hcr hcA hb5r hb5A
            go_wp2_with (first
              | (go_at_call 52; refine hin.out.mono ?_; rintro e w' ⟨rfl, rfl⟩)
              | (go_at_call 44; refine hwt.out.mono ?_; rintro e w1 ⟨v1, rfl, hs1, hf1, hb1⟩; have hR2 := Lib.hid (hR1.out.with_ hb1 hs1 hf1 (withL_pos _ _)); have hc2 := Lib.hid (hc1.out.below hb1); replace hy := bl_cell hb1 hy; clear hs1 hf1 hb1)
              | (at_builtin; refine app_tl (w1.alloc (.cells #[.string y] 9)) rfl _ _ rfl (w.heap.size + 1) u6 todo1 rfl (hR2.out.tl.below (bl_alloc (Below.refl _ _) _)) (by have := hR2.out.hB.size; have h3 := (Array.getElem?_eq_some_iff.1 hR2.out.bx).1; simp; omega) y ⟨w1.heap.size, 0, none⟩ 1 rfl (by rw [cell_of_row _ _ 0 _ 9 (0, 0) (heap_alloc_new w1 _)]; rfl) htl ?_; intro v3 w3 hT3 hg3 hat3; replace hT3 := Lib.hid hT3; replace hg3 := Lib.hid hg3; replace hat3 := Lib.hid hat3))
            have hcpos : 0 < cl.length := by omega
            refine ⟨⟨i + 1, withL out1 y, todo1 ++ [y], by go_num, by omega, had', Lib.hid ((hR2.out.below (bl_alloc (Below.refl _ _) _)).app hT3.out hg3.out hat3.out), Lib.hid ((hc2.out.below (bl_alloc (Below.refl _ _) _)).grown hg3.out (fun b hb e => hn1.out b hb e)), Lib.hid (fun b hb e => ?_), hmw⟩, by simp [intOf]; omega⟩
            rcases hat3.out with hat | ⟨b', hat, hb'⟩
            · exact hn1.out b hb (by rw [← hat]; exact e)
            · rw [hat] at e
              cases e
              have := hc2.out.lt hcpos _ hb
              rw [World.size_alloc] at hb'
              omega
        · have hd : decide (i < cl.length) = false := by simpa using hlt
          have hd2 : decide ((i : Int) < (cl.length : Int)) = false := by simp; omega
          have hfin : Hid ((out1, todo1) = addR cl (out, rest)) := Lib.hid (by rw [← had.out, List.drop_of_length_le (by omega)]; rfl)
          go_wp2_with fail
          go_roundg k
          case measure => omega
          case rel =>
            have h1 : (addR cl (out, rest)).1 = out1 := by rw [← hfin.out]
            have h2 : (addR cl (out, rest)).2 = todo1 := by rw [← hfin.out]
            have hff := addR_fn cl (out, rest) hcf.out hfo.out hft'.out
            rw [h1, h2] at hff
            refine ⟨out1, todo1, by omega, hm1.out.1, ?_, hff.1, hff.2, ?_, hR1.out⟩
            · rw [← h1, ← h2]; exact hmu'.out
            · rw [← h1, ← h2]; exact hre'.out
end Go.Proofs.Ytdhklfbelplbcaa
namespace Go.Proofs.Ytdhklfbelplbcaa
set_option linter.unusedVariables false
set_option linter.unusedSimpArgs false
open Go.RowKit

/-- a lock's place -/
def placeM (s : ByteArray) : Int := if eqS (lkN 0) s then 0 else if eqS (lkN 1) s then 1 else if eqS (lkN 2) s then 2 else -1
theorem placeM_of {s : ByteArray} (k : Nat) (hk : k < 3) (h : ∀ i, i < k → eqS (lkN i) s = false) (he : eqS (lkN k) s = true) : placeM s = (k : Nat) := by
  unfold placeM
  rcases (by omega : k = 0 ∨ k = 1 ∨ k = 2) with rfl | rfl | rfl
  · rw [he]; rfl
  · rw [h 0 (by omega), he]; rfl
  · rw [h 0 (by omega), h 1 (by omega), he]; rfl
theorem placeM_none {s : ByteArray} (h : ∀ i, i < 3 → eqS (lkN i) s = false) : placeM s = -1 := by
  unfold placeM
  rw [h 0 (by omega), h 1 (by omega), h 2 (by omega)]; rfl

set_option maxHeartbeats 4000000 in
set_option maxRecDepth 100000 in
theorem place_any (v : Value) (bs : Nat → St) (s : ByteArray) (w : World) (hp : PrOk w.cell? v bs) :
    Calls Try.prog 66 #[v, .string s] w fun e w' => e = .returned (.int .i64 (placeM s)) ∧ Below w.heap.size w w' := by
  obtain ⟨A0, n0, c0, g1, g2, rfl, h2, h3⟩ := hp
  replace h2 := Lib.hid h2
  clear h3
  go_enter Try.func66, Try.ntmps66
  go_wp2_with fail
  have y2 : (w.alloc (.cells #[.slice A0 n0 c0, .slice (some ⟨g1, 0, none⟩) 3 3, .slice (some ⟨g2, 0, none⟩) 4 4] 40)).cell? ⟨w.heap.size, 1, none⟩ = some (.slice (some ⟨g1, 0, none⟩) 3 3) := by rw [cell_of_row _ _ 1 _ 40 (0, 0) (heap_alloc_new w _)]; rfl
  go_loopw [5] (fun i wr => ∃ k : Nat, k ≤ 3 ∧ i = .int .i64 (k : Nat) ∧ Hid (∀ j, j < k → eqS (lkN j) s = false) ∧ wr = w.alloc (.cells #[.slice A0 n0 c0, .slice (some ⟨g1, 0, none⟩) 3 3, .slice (some ⟨g2, 0, none⟩) 4 4] 40)) (fun i _ => 3 - (intOf i).toNat)
  case atStart => exact ⟨0, Nat.zero_le _, rfl, Lib.hid (fun j hj => by omega), rfl⟩
  case round =>
    obtain ⟨k, hk, rfl, hq, rfl⟩ := hrel
    by_cases hlt : k < 3
    · have k1 : (0 : Int) ≤ (k : Int) := by omega
      have k2 : (k : Int) < 3 := by omega
      have hd : decide ((k : Int) < 3) = true := by simp; omega
      have z0 := bl_cell (bl_alloc (Below.refl w.heap.size w) (.cells #[.slice A0 n0 c0, .slice (some ⟨g1, 0, none⟩) 3 3, .slice (some ⟨g2, 0, none⟩) 4 4] 40)) (h2.out k (by omega))
      cases he : eqS (lkN k) s with
      | true =>
        have he' : ((lkN k).toList == s.toList) = true := he
        have hz : Hid (placeM s = (k : Nat)) := Lib.hid (placeM_of k hlt hq.out he)
        replace he := Lib.hid he
        go_wp2_with fail
        go_ret
        exact ⟨ret_int hz.out.symm, bl_alloc (Below.refl _ _) _⟩
      | false =>
        have he' : ((lkN k).toList == s.toList) = false := he
        have hz : Hid (∀ j, j < k + 1 → eqS (lkN j) s = false) := Lib.hid (fun j hj => by
          by_cases h : j = k
          · rw [h]; exact he
          · exact hq.out j (by omega))
        replace he := Lib.hid he
        go_wp2_with fail
        exact ⟨⟨k + 1, by omega, by go_num, hz, trivial⟩, by simp [intOf]; omega⟩
    · have hk3 : k = 3 := by omega
      subst hk3
      have hd : decide (((3 : Nat) : Int) < 3) = false := by decide
      have hz : Hid (placeM s = -1) := Lib.hid (placeM_none hq.out)
      go_wp2_with fail
      go_ret
      exact ⟨ret_int hz.out.symm, bl_alloc (Below.refl _ _) _⟩

/-- the join of two states -/
def bothL (most : Bool) (a b : List Int) : List Int := if most then mostL a b else leastL a b
theorem Ef.both {m : Nat} {a b : List Int} (most : Bool) (ha : Ef m a) (hb : Ef m b) : Ef m (bothL most a b) := by
  unfold bothL; split
  · exact ha.mo hb
  · exact ha.le hb
set_option maxHeartbeats 2000000 in
theorem both_any (g : Nat) (most : Bool) (a b : List Int) (ha : Ef 3 a) (hb : Ef 3 b) (w : World) (hm : w.cell? ⟨g, 3, none⟩ = some (.bool most)) :
    Calls Try.prog 58 #[.pointer (some ⟨g, 0, none⟩), .string (st a), .string (st b)] w fun e w' => e = .returned (.string (st (bothL most a b))) ∧ Below w.heap.size w w' := by
  have h1 := Lib.hid (refmost_e (m := 3) (Lib.hid (rfl : mostL a b = mostL a b)) (Lib.hid ha) (Lib.hid hb) (Lib.hid (by omega)) w)
  have h2 := Lib.hid (refleast_e (m := 3) (Lib.hid (rfl : leastL a b = leastL a b)) (Lib.hid ha) (Lib.hid hb) (Lib.hid (by omega)) w)
  clear ha hb
  cases most with
  | true =>
    go_enter Try.func58, Try.ntmps58
    go_wp2_with (go_at_call 67; refine h1.out.mono ?_; rintro e w' ⟨rfl, hb⟩; replace hb := Lib.hid hb)
    first | go_ret | go_end0
    exact ⟨rfl, hb.out⟩
  | false =>
    go_enter Try.func58, Try.ntmps58
    go_wp2_with (go_at_call 68; refine h2.out.mono ?_; rintro e w' ⟨rfl, hb⟩; replace hb := Lib.hid hb)
    first | go_ret | go_end0
    exact ⟨rfl, hb.out⟩
end Go.Proofs.Ytdhklfbelplbcaa
