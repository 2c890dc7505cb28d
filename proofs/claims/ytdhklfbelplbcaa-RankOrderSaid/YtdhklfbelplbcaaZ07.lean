/-
  The walks: the names of statements of one kind.
  The walks: Find, Calls, Spawns.
  What is reached: plain laws; a row of which the head was cut off grows.
-/
import Derived.Test.YtdhklfbelplbcaaZ06
import Derived.Deep.LoopGhost
import Derived.ArgAppend
namespace Go.Proofs.Ytdhklfbelplbcaa
set_option linter.unusedVariables false
set_option linter.unusedSimpArgs false
open Go.RowKit

/-- the names of statements of one kind, with others -/
def namedL : St → Int → List ByteArray → List ByteArray
  | .nil, _, l => l
  | .cons k nm a b r, kind, l => namedL r kind (namedL b kind (namedL a kind (if k = kind then withL l nm else l)))
theorem namedL_len : ∀ (t : St) (kind : Int) (l : List ByteArray), (namedL t kind l).length ≤ l.length + t.cnt
  | .nil, _, l => Nat.le_refl _
  | .cons k nm a b r, kind, l => by
    have h1 := withL_len l nm
    have h2 := namedL_len a kind (if k = kind then withL l nm else l)
    have h3 := namedL_len b kind (namedL a kind (if k = kind then withL l nm else l))
    have h4 := namedL_len r kind (namedL b kind (namedL a kind (if k = kind then withL l nm else l)))
    have h5 : (if k = kind then withL l nm else l).length ≤ l.length + 1 := by split <;> omega
    unfold namedL St.cnt
    omega
/-- a statement of this kind and this name is among these -/
def InSt (kind : Int) (s : ByteArray) : St → Prop
  | .nil => False
  | .cons k nm a b r => (k = kind ∧ nm = s) ∨ InSt kind s a ∨ InSt kind s b ∨ InSt kind s r
theorem namedL_mem (kind : Int) (s : ByteArray) : ∀ (t : St) (l : List ByteArray), s ∈ namedL t kind l ↔ s ∈ l ∨ InSt kind s t
  | .nil, l => by simp [namedL, InSt]
  | .cons k nm a b r, l => by
    unfold namedL InSt
    rw [namedL_mem kind s r, namedL_mem kind s b, namedL_mem kind s a]
    by_cases h : k = kind
    · rw [if_pos h, withL_mem]
      constructor
      · rintro (((( h1 | h1) | h1) | h1) | h1)
        · exact .inl h1
        · exact .inr (.inl ⟨h, h1.symm⟩)
        · exact .inr (.inr (.inl h1))
        · exact .inr (.inr (.inr (.inl h1)))
        · exact .inr (.inr (.inr (.inr h1)))
      · rintro (h1 | ⟨_, h1⟩ | h1 | h1 | h1)
        · exact .inl (.inl (.inl (.inl h1)))
        · exact .inl (.inl (.inl (.inr h1.symm)))
        · exact .inl (.inl (.inr h1))
        · exact .inl (.inr h1)
        · exact .inr h1
    · rw [if_neg h]
      constructor
      · rintro (((h1 | h1) | h1) | h1)
        · exact .inl h1
        · exact .inr (.inr (.inl h1))
        · exact .inr (.inr (.inr (.inl h1)))
        · exact .inr (.inr (.inr (.inr h1)))
      · rintro (h1 | ⟨h2, _⟩ | h1 | h1 | h1)
        · exact .inl (.inl (.inl h1))
        · exact absurd h2 h
        · exact .inl (.inl (.inr h1))
        · exact .inl (.inr h1)
        · exact .inr h1
theorem StOk.fn {kind : Int} {s : ByteArray} (hk : kind = 5 ∨ kind = 6) : ∀ t : St, StOk t → InSt kind s t → FN s
  | .nil, _, h => h.elim
  | .cons k nm a b r, ⟨_, h1, h2, h3, h4⟩, h => by
    rcases h with ⟨rfl, rfl⟩ | h | h | h
    · exact h1 hk
    · exact StOk.fn hk a h2 h
    · exact StOk.fn hk b h3 h
    · exact StOk.fn hk r h4 h

set_option maxHeartbeats 8000000 in
set_option maxRecDepth 100000 in
theorem named_any : ∀ (m : Nat) (t : St), t.cnt ≤ m → ∀ (kind : Int) (A0 : Option Addr) (c0 : Nat) (l0 : List ByteArray) (A : Option Addr) (c : Nat) (w : World), Rd w A0 (strs l0) → (A0 = none → l0.length = 0 ∧ c0 = 0) → l0.length ≤ c0 → c0 ≤ 9223372036854775807 →
    RdSt w.cell? t A 0 → t.len ≤ c → c ≤ 9223372036854775807 → l0.length + t.cnt ≤ 1000 →
    Calls Try.prog 63 #[.slice A0 l0.length c0, .slice A t.len c, .int .i64 kind] w fun e w' => ∃ v, e = .returned v ∧ SlN w' v (namedL t kind l0) ∧ Fr w.heap.size (.slice A0 l0.length c0) v ∧ Below w.heap.size w w' := by
  intro m
  induction m with
  | zero =>
    intro t ht kind A0 c0 l0 A c w hr0 hA0 hl0 hc0 hr hl hc hb
    have h0 : t = .nil := by cases t with
      | nil => rfl
      | cons k n a b r => simp [St.cnt] at ht
    subst h0
    have hs0 : Hid (SlN w (.slice A0 l0.length c0) l0) := Lib.hid ⟨A0, c0, rfl, hl0, hc0, hA0, hr0⟩
    have hln : Hid (St.nil.len = 0) := Lib.hid rfl
    rw [hln.out]
    clear hr0 hA0 hr
    go_enter Try.func63, Try.ntmps63
    go_wp2_with fail
    go_loopw [0, 7] (fun v i wr => v = .slice A0 l0.length c0 ∧ i = .int .i64 0 ∧ wr = w) (fun _ _ _ => 0)
    case atStart => exact ⟨rfl, rfl, rfl⟩
    case round =>
      obtain ⟨rfl, rfl, rfl⟩ := hrel
      go_wp2_with fail
      go_ret
      exact ⟨_, rfl, hs0.out, Fr.refl _ _, Below.refl _ _⟩
  | succ m ih =>
    intro t ht kind A0 c0 l0 A c w hr0 hA0 hl0 hc0 hr hl hc hb
    have hs0 : Hid (SlN w (.slice A0 l0.length c0) l0) := Lib.hid ⟨A0, c0, rfl, hl0, hc0, hA0, hr0⟩
    have hr' := Lib.hid hr
    have ih' := Lib.hid ih
    have hlc := St.len_le t
    clear hr ih hr0 hA0
    go_enter Try.func63, Try.ntmps63
    go_wp2_with fail
    go_loopw [0, 7] (fun v i wr => ∃ (j : Nat) (s : St) (l : List ByteArray), i = .int .i64 (j : Nat) ∧ Hid (j + s.len = t.len) ∧ s.cnt ≤ m + 1 ∧ Hid (RdSt w.cell? s A j) ∧ Hid (SlN wr v l) ∧ Hid (namedL s kind l = namedL t kind l0) ∧ l.length + s.cnt ≤ 1000 ∧ Hid (Fr w.heap.size (.slice A0 l0.length c0) v) ∧ Hid (Below w.heap.size w wr)) (fun _ i _ => t.len - (intOf i).toNat)
    case atStart => exact ⟨0, t, l0, rfl, Lib.hid (by omega), ht, hr', hs0, Lib.hid rfl, hb, Lib.hid (Fr.refl _ _), Lib.hid (Below.refl _ _)⟩
    case round =>
      obtain ⟨j, s, l, rfl, hj, hcs, hrs, hsl, hst, hlb, hfr, hB⟩ := hrel
      cases s with
      | nil =>
        have hjl : j = t.len := by have := hj.out; simp only [St.len] at this; omega
        subst hjl
        have d1 : decide (t.len < t.len) = false := by simp
        have d2 : decide ((t.len : Int) < (t.len : Int)) = false := by simp
        have hfin : Hid (namedL t kind l0 = l) := Lib.hid (by rw [← hst.out]; rfl)
        go_wp2_with fail
        go_ret
        exact ⟨_, rfl, by rw [hfin.out]; exact hsl.out, hfr.out, hB.out⟩
      | cons k nm a b r =>
        have hjl : j < t.len := by have := hj.out; simp only [St.len] at this; omega
        have d1 : decide (j < t.len) = true := by simpa using hjl
        have d2 : decide ((j : Int) < (t.len : Int)) = true := by simp; omega
        have j1 : (0 : Int) ≤ (j : Int) := by omega
        have j2 : (j : Int) < (t.len : Int) := by omega
        simp only [St.cnt] at hcs hlb
        have hj' : Hid (j + 1 + r.len = t.len) := Lib.hid (by have := hj.out; simp only [St.len] at this; omega)
        have hrs' : Hid (RdSt w.cell? r A (j + 1)) := Lib.hid hrs.out.2
        have hcr : r.cnt ≤ m + 1 := by omega
        obtain ⟨Al, cl, rfl, nl, ml, al, rl⟩ := hsl.out
        have hB0 := hB.out.size
        by_cases hk : k = kind
        · obtain ⟨⟨ad, x, A1, q1, A2, q2, rfl, f0, f1, f2, f3, f4, l1', l2, l3, l4, ra, rb⟩, rr⟩ := RdSt.below hB.out _ _ _ hrs.out
          have hkd : (k == kind) = true := by simpa using hk
          obtain ⟨l1, hl1⟩ : ∃ l1, l1 = withL l nm := ⟨_, rfl⟩
          have hlen1 : l1.length ≤ l.length + 1 := by rw [hl1]; exact withL_len l nm
          have hst' : Hid (namedL r kind (namedL b kind (namedL a kind l1)) = namedL t kind l0) := Lib.hid (by rw [← hst.out, namedL, if_pos hk, hl1])
          clear hst
          have hst := hst'
          clear hst'
          have hwc := Lib.hid (with_any Al cl l nm wr rl al nl ml (by omega))
          rw [← hl1] at hwc
          replace hk := Lib.hid hk
          replace hl1 := Lib.hid hl1
          replace ra := Lib.hid ra
          replace rb := Lib.hid rb
          clear rr al rl f1 hj hrs
          go_upto_region 6 with (go_at_call 44; refine hwc.out.mono ?_; rintro e W ⟨vW, rfl, hsW, hfW, hbW⟩; obtain ⟨A9, c9, rfl, n9, m9, a9, r9⟩ := hsW; replace hbW := Lib.hid hbW; have hfW' := Lib.hid (hfr.out.trans hB0 hfW); clear hfW)
          replace f3 := bl_cell hbW.out f3
          replace f4 := bl_cell hbW.out f4
          replace ra := Lib.hid (RdSt.below hbW.out _ _ _ ra.out)
          replace rb := Lib.hid (RdSt.below hbW.out _ _ _ rb.out)
          have hBW := Lib.hid (bl_then hB.out hB0 hbW.out)
          have hca := Lib.hid (ih'.out a (by omega) kind A9 c9 l1 A1 q1 W.drew r9 a9 n9 m9 (RdSt.below (Below.refl W.heap.size W).drew _ _ _ ra.out) l1' l2 (by omega))
          clear a9 r9 f0 f2 hkd
          go_upto_region 6 with fail
          go_region_with (first
            | (go_at_call_of 63 (Value.slice A1 a.len q1); refine (hca.out).mono ?_; rintro e w5 ⟨v5, rfl, hs5, hf5, hb5⟩; replace hf5 := Lib.hid (hfW'.out.trans hBW.out.size hf5); have hs5' := hs5; obtain ⟨A5, c5, rfl, n5, m5, a5, r5⟩ := hs5'; replace hs5 := Lib.hid hs5; have k4 := bl_cell hb5 (show W.drew.cell? _ = _ from f4); have hcb := Lib.hid (ih'.out b (by omega) kind A5 c5 (namedL a kind l1) A2 q2 w5 r5 a5 n5 m5 (RdSt.below hb5 _ _ _ (RdSt.below (Below.refl W.heap.size W).drew _ _ _ rb.out)) l3 l4 (by have := namedL_len a kind l1; omega)); replace hb5 := Lib.hid hb5; clear n5 m5; replace a5 := Lib.hid a5; replace r5 := Lib.hid r5)
            | (go_at_call_of 63 (Value.slice A2 b.len q2); refine (hcb.out).mono ?_; rintro e w6 ⟨v6, rfl, hs6, hf6, hb6⟩; replace hf6 := Lib.hid (hf5.out.trans (by have := hBW.out.size; have := hb5.out.size; exact Nat.le_trans (show w.heap.size ≤ W.drew.heap.size from hBW.out.size) hb5.out.size) hf6); replace hs6 := Lib.hid hs6; replace hb6 := Lib.hid (bl_then hBW.out.drew (by have := hBW.out.size; exact this) (bl_then (hb5.out) hb5.out.size hb6))))
          all_goals
            (go_wp2_with fail
             exact ⟨⟨j + 1, r, _, by go_num, hj', hcr, hrs', hs6, Lib.hid (by rw [← hst.out]), by have := namedL_len a kind l1; have := namedL_len b kind (namedL a kind l1); omega, hf6, hb6⟩, by simp [intOf]; omega⟩)
        · obtain ⟨W, hW⟩ : ∃ x, x = wr := ⟨_, rfl⟩
          subst hW
          obtain ⟨⟨ad, x, A1, q1, A2, q2, rfl, f0, f1, f2, f3, f4, l1', l2, l3, l4, ra, rb⟩, rr⟩ := RdSt.below hB.out _ _ _ hrs.out
          have hkd : (k == kind) = false := by simpa using hk
          obtain ⟨l1, hl1⟩ : ∃ l1, l1 = l := ⟨_, rfl⟩
          subst hl1
          have hst' : Hid (namedL r kind (namedL b kind (namedL a kind l1)) = namedL t kind l0) := Lib.hid (by rw [← hst.out, namedL, if_neg hk])
          clear hst
          have hst := hst'
          clear hst'
          replace hk := Lib.hid hk
          have hBW := hB
          have hfW' := hfr
          replace ra := Lib.hid ra
          replace rb := Lib.hid rb
          have hca := Lib.hid (ih'.out a (by omega) kind Al cl l1 A1 q1 W.drew rl al nl ml (RdSt.below (Below.refl W.heap.size W).drew _ _ _ ra.out) l1' l2 (by omega))
          clear al rl f1 hj hrs rr
          go_upto_region 6 with fail
          go_region_with (first
            | (go_at_call_of 63 (Value.slice A1 a.len q1); refine (hca.out).mono ?_; rintro e w5 ⟨v5, rfl, hs5, hf5, hb5⟩; replace hf5 := Lib.hid (hfW'.out.trans hBW.out.size hf5); have hs5' := hs5; obtain ⟨A5, c5, rfl, n5, m5, a5, r5⟩ := hs5'; replace hs5 := Lib.hid hs5; have k4 := bl_cell hb5 (show W.drew.cell? _ = _ from f4); have hcb := Lib.hid (ih'.out b (by omega) kind A5 c5 (namedL a kind l1) A2 q2 w5 r5 a5 n5 m5 (RdSt.below hb5 _ _ _ (RdSt.below (Below.refl W.heap.size W).drew _ _ _ rb.out)) l3 l4 (by have := namedL_len a kind l1; omega)); replace hb5 := Lib.hid hb5; clear n5 m5; replace a5 := Lib.hid a5; replace r5 := Lib.hid r5)
            | (go_at_call_of 63 (Value.slice A2 b.len q2); refine (hcb.out).mono ?_; rintro e w6 ⟨v6, rfl, hs6, hf6, hb6⟩; replace hf6 := Lib.hid (hf5.out.trans (by have := hBW.out.size; have := hb5.out.size; exact Nat.le_trans (show w.heap.size ≤ W.drew.heap.size from hBW.out.size) hb5.out.size) hf6); replace hs6 := Lib.hid hs6; replace hb6 := Lib.hid (bl_then hBW.out.drew (by have := hBW.out.size; exact this) (bl_then (hb5.out) hb5.out.size hb6))))
          all_goals
            (go_wp2_with fail
             exact ⟨⟨j + 1, r, _, by go_num, hj', hcr, hrs', hs6, Lib.hid (by rw [← hst.out]), by have := namedL_len a kind l1; have := namedL_len b kind (namedL a kind l1); omega, hf6, hb6⟩, by simp [intOf]; omega⟩)

end Go.Proofs.Ytdhklfbelplbcaa
namespace Go.Proofs.Ytdhklfbelplbcaa
set_option linter.unusedVariables false
set_option linter.unusedSimpArgs false
open Go.RowKit

theorem fr_nil {n m : Nat} {v : Value} (h : Fr m (.slice none 0 0) v) (hn : n ≤ m) : ∀ b, v.ownBlock = some b → n ≤ b := by
  intro b hb
  rcases h with rfl | h
  · cases hb
  · exact Nat.le_trans hn (h b hb)
theorem fnN_eq {i j : Nat} (hi : i < 4) (hj : j < 4) : ((fnN i).toList == (fnN j).toList) = decide (i = j) := by
  have : ∀ i : Fin 4, ∀ j : Fin 4, eqS (fnN i.val) (fnN j.val) = decide (i.val = j.val) := by
    intro i j
    by_cases h : i.val = j.val
    · rw [h]; simp [eqS]
    · simp only [h, decide_false]
      rw [Bool.eq_false_iff]
      intro e
      rw [eqS_iff] at e
      revert h e
      revert i j
      decide
  exact this ⟨i, hi⟩ ⟨j, hj⟩

set_option maxHeartbeats 4000000 in
set_option maxRecDepth 100000 in
theorem find_any (v : Value) (bs : Nat → St) (f : Nat) (hf : f < 4) (w : World) (hp : PrOk w.cell? v bs) :
    Calls Try.prog 53 #[v, .string (fnN f)] w fun e w' => e = .returned (.int .i64 (f : Nat)) ∧ Below w.heap.size w w' := by
  obtain ⟨A0, n0, c0, g1, g2, rfl, h2, h3⟩ := hp
  replace h2 := Lib.hid h2
  replace h3 := Lib.hid h3
  go_enter Try.func53, Try.ntmps53
  go_wp2_with fail
  have y2 : (w.alloc (.cells #[.slice A0 n0 c0, .slice (some ⟨g1, 0, none⟩) 3 3, .slice (some ⟨g2, 0, none⟩) 4 4] 40)).cell? ⟨w.heap.size, 2, none⟩ = some (.slice (some ⟨g2, 0, none⟩) 4 4) := by rw [cell_of_row _ _ 2 _ 40 (0, 0) (heap_alloc_new w _)]; rfl
  go_loopw [5] (fun i wr => ∃ k : Nat, k ≤ f ∧ i = .int .i64 (k : Nat) ∧ wr = w.alloc (.cells #[.slice A0 n0 c0, .slice (some ⟨g1, 0, none⟩) 3 3, .slice (some ⟨g2, 0, none⟩) 4 4] 40)) (fun i _ => f - (intOf i).toNat)
  case atStart => exact ⟨0, Nat.zero_le _, rfl, rfl⟩
  case round =>
    obtain ⟨k, hk, rfl, rfl⟩ := hrel
    have k1 : (0 : Int) ≤ (k : Int) := by omega
    have k2 : (k : Int) < 4 := by omega
    have hd : decide ((k : Int) < 4) = true := by simp; omega
    have z0 := bl_cell (bl_alloc (Below.refl w.heap.size w) (.cells #[.slice A0 n0 c0, .slice (some ⟨g1, 0, none⟩) 3 3, .slice (some ⟨g2, 0, none⟩) 4 4] 40)) (h3.out k (by omega)).1
    have he := fnN_eq (show k < 4 by omega) hf
    by_cases hkf : k = f
    · have he' : ((fnN k).toList == (fnN f).toList) = true := by rw [he]; simpa using hkf
      clear he
      have hk0 : Hid (k = f) := Lib.hid hkf
      clear hkf
      go_wp2_with fail
      go_ret
      exact ⟨ret_int (by rw [hk0.out]), bl_alloc (Below.refl _ _) _⟩
    · have he' : ((fnN k).toList == (fnN f).toList) = false := by rw [he]; simpa using hkf
      have hlt : k < f := by omega
      clear he hkf
      go_wp2_with fail
      exact ⟨⟨k + 1, by omega, by go_num, trivial⟩, by simp [intOf]; omega⟩

set_option maxHeartbeats 4000000 in
set_option maxRecDepth 100000 in
theorem calls_any (v : Value) (bs : Nat → St) (f : Nat) (hf : f < 4) (w : World) (hp : PrOk w.cell? v bs) (hcnt : (bs f).cnt ≤ 1000) :
    Calls Try.prog 62 #[v, .string (fnN f)] w fun e w' => ∃ v', e = .returned v' ∧ SlN w' v' (namedL (bs f) 5 []) ∧ (∀ b, v'.ownBlock = some b → w.heap.size ≤ b) ∧ Below w.heap.size w w' := by
  have hp' := Lib.hid hp
  obtain ⟨A0, n0, c0, g1, g2, rfl, h2, h3⟩ := hp
  obtain ⟨-, vb, hvb, Ab, cb, rfl, lb, mb, rb⟩ := h3 f hf
  clear h2 h3
  go_enter Try.func62, Try.ntmps62
  go_wp2_with fail
  obtain ⟨Wb, hWb⟩ : ∃ x, x = w.alloc (.cells #[.slice A0 n0 c0, .slice (some ⟨g1, 0, none⟩) 3 3, .slice (some ⟨g2, 0, none⟩) 4 4] 40) := ⟨_, rfl⟩
  rw [← hWb]
  have hbb : Hid (Below w.heap.size w Wb) := Lib.hid (by rw [hWb]; exact bl_alloc (Below.refl _ _) _)
  have hrow : Hid (Wb.heap[w.heap.size]? = some (.cells #[.slice A0 n0 c0, .slice (some ⟨g1, 0, none⟩) 3 3, .slice (some ⟨g2, 0, none⟩) 4 4] 40 (0, 0))) := Lib.hid (by rw [hWb]; exact heap_alloc_new w _)
  replace hWb := Lib.hid hWb
  have hSd : Wb.drew.cell? ⟨w.heap.size, 0, none⟩ = some (.slice A0 n0 c0) ∧ Wb.drew.cell? ⟨w.heap.size, 1, none⟩ = some (.slice (some ⟨g1, 0, none⟩) 3 3) ∧ Wb.drew.cell? ⟨w.heap.size, 2, none⟩ = some (.slice (some ⟨g2, 0, none⟩) 4 4) ∧ Wb.drew.cell? ⟨g2, f * 3 + 2, none⟩ = some (.slice Ab (bs f).len cb) := ⟨by rw [cell_of_row Wb.drew _ 0 _ 40 (0, 0) hrow.out]; rfl, by rw [cell_of_row Wb.drew _ 1 _ 40 (0, 0) hrow.out]; rfl, by rw [cell_of_row Wb.drew _ 2 _ 40 (0, 0) hrow.out]; rfl, bl_cell hbb.out.drew hvb⟩
  have hSk : Hid (∀ w', Below Wb.drew.heap.size Wb.drew w' → (w'.cell? ⟨w.heap.size, 0, none⟩ = some (.slice A0 n0 c0) ∧ w'.cell? ⟨w.heap.size, 1, none⟩ = some (.slice (some ⟨g1, 0, none⟩) 3 3) ∧ w'.cell? ⟨w.heap.size, 2, none⟩ = some (.slice (some ⟨g2, 0, none⟩) 4 4) ∧ w'.cell? ⟨g2, f * 3 + 2, none⟩ = some (.slice Ab (bs f).len cb))) := Lib.hid (fun w' hb => ⟨bl_cell hb hSd.1, bl_cell hb hSd.2.1, bl_cell hb hSd.2.2.1, bl_cell hb hSd.2.2.2⟩)
  have hfd := Lib.hid (find_any (.agg #[.slice A0 n0 c0, .slice (some ⟨g1, 0, none⟩) 3 3, .slice (some ⟨g2, 0, none⟩) 4 4]) bs f hf Wb.drew (hp'.out.mono (cell_le hbb.out.drew)))
  have hnd : Hid (∀ w', Below Wb.drew.heap.size Wb.drew w' → Calls Try.prog 63 #[.slice none 0 0, .slice Ab (bs f).len cb, .int .i64 5] w' fun e w'' => ∃ v, e = .returned v ∧ SlN w'' v (namedL (bs f) 5 []) ∧ Fr w'.heap.size (.slice none 0 0) v ∧ Below w'.heap.size w' w'') :=
    Lib.hid (fun w' hb => named_any (bs f).cnt (bs f) (Nat.le_refl _) 5 none 0 [] Ab cb w' (Rd.nil _ _) (fun _ => ⟨rfl, rfl⟩) (Nat.le_refl _) (by omega) (RdSt.below hb _ _ _ (RdSt.below hbb.out.drew _ _ _ rb)) lb mb (by simpa using hcnt))
  have f1 : (0 : Int) ≤ (f : Int) := by omega
  have f2 : (f : Int) < 4 := by omega
  clear hvb rb
  go_region_held3 (fun w' => w'.cell? ⟨w.heap.size, 0, none⟩ = some (.slice A0 n0 c0) ∧ w'.cell? ⟨w.heap.size, 1, none⟩ = some (.slice (some ⟨g1, 0, none⟩) 3 3) ∧ w'.cell? ⟨w.heap.size, 2, none⟩ = some (.slice (some ⟨g2, 0, none⟩) 4 4) ∧ w'.cell? ⟨g2, f * 3 + 2, none⟩ = some (.slice Ab (bs f).len cb)) (first | with_reducible exact hSd | exact hSk.out _ hb6.out | exact hSk.out _ hb5.out)
    (first
      | (go_at_call 53; (with_reducible refine hfd.out.mono ?_); rintro e w5 ⟨rfl, hb5⟩; replace hb5 := Lib.hid hb5)
      | (go_at_call 63; (with_reducible refine (hnd.out w5 hb5.out).mono ?_); rintro e w6 ⟨v6, rfl, hs6, hf6, hb6⟩; replace hs6 := Lib.hid hs6; replace hf6 := Lib.hid hf6; replace hb6 := Lib.hid (bl_then hb5.out hb5.out.size hb6)))
  all_goals
    (go_wp2_with fail
     first | go_ret | go_end0
     exact ⟨_, rfl, hs6.out, fr_nil hf6.out (Nat.le_trans (show w.heap.size ≤ Wb.drew.heap.size from hbb.out.size) hb5.out.size), bl_then hbb.out.drew (by have := hbb.out.size; exact this) hb6.out⟩)

set_option maxHeartbeats 4000000 in
set_option maxRecDepth 100000 in
theorem spawns_any (v : Value) (bs : Nat → St) (f : Nat) (hf : f < 4) (w : World) (hp : PrOk w.cell? v bs) (hcnt : (bs f).cnt ≤ 1000) :
    Calls Try.prog 51 #[v, .string (fnN f)] w fun e w' => ∃ v', e = .returned v' ∧ SlN w' v' (namedL (bs f) 6 []) ∧ (∀ b, v'.ownBlock = some b → w.heap.size ≤ b) ∧ Below w.heap.size w w' := by
  have hp' := Lib.hid hp
  obtain ⟨A0, n0, c0, g1, g2, rfl, h2, h3⟩ := hp
  obtain ⟨-, vb, hvb, Ab, cb, rfl, lb, mb, rb⟩ := h3 f hf
  clear h2 h3
  go_enter Try.func51, Try.ntmps51
  go_wp2_with fail
  obtain ⟨Wb, hWb⟩ : ∃ x, x = w.alloc (.cells #[.slice A0 n0 c0, .slice (some ⟨g1, 0, none⟩) 3 3, .slice (some ⟨g2, 0, none⟩) 4 4] 40) := ⟨_, rfl⟩
  rw [← hWb]
  have hbb : Hid (Below w.heap.size w Wb) := Lib.hid (by rw [hWb]; exact bl_alloc (Below.refl _ _) _)
  have hrow : Hid (Wb.heap[w.heap.size]? = some (.cells #[.slice A0 n0 c0, .slice (some ⟨g1, 0, none⟩) 3 3, .slice (some ⟨g2, 0, none⟩) 4 4] 40 (0, 0))) := Lib.hid (by rw [hWb]; exact heap_alloc_new w _)
  replace hWb := Lib.hid hWb
  have hSd : Wb.drew.cell? ⟨w.heap.size, 0, none⟩ = some (.slice A0 n0 c0) ∧ Wb.drew.cell? ⟨w.heap.size, 1, none⟩ = some (.slice (some ⟨g1, 0, none⟩) 3 3) ∧ Wb.drew.cell? ⟨w.heap.size, 2, none⟩ = some (.slice (some ⟨g2, 0, none⟩) 4 4) ∧ Wb.drew.cell? ⟨g2, f * 3 + 2, none⟩ = some (.slice Ab (bs f).len cb) := ⟨by rw [cell_of_row Wb.drew _ 0 _ 40 (0, 0) hrow.out]; rfl, by rw [cell_of_row Wb.drew _ 1 _ 40 (0, 0) hrow.out]; rfl, by rw [cell_of_row Wb.drew _ 2 _ 40 (0, 0) hrow.out]; rfl, bl_cell hbb.out.drew hvb⟩
  have hSk : Hid (∀ w', Below Wb.drew.heap.size Wb.drew w' → (w'.cell? ⟨w.heap.size, 0, none⟩ = some (.slice A0 n0 c0) ∧ w'.cell? ⟨w.heap.size, 1, none⟩ = some (.slice (some ⟨g1, 0, none⟩) 3 3) ∧ w'.cell? ⟨w.heap.size, 2, none⟩ = some (.slice (some ⟨g2, 0, none⟩) 4 4) ∧ w'.cell? ⟨g2, f * 3 + 2, none⟩ = some (.slice Ab (bs f).len cb))) := Lib.hid (fun w' hb => ⟨bl_cell hb hSd.1, bl_cell hb hSd.2.1, bl_cell hb hSd.2.2.1, bl_cell hb hSd.2.2.2⟩)
  have hfd := Lib.hid (find_any (.agg #[.slice A0 n0 c0, .slice (some ⟨g1, 0, none⟩) 3 3, .slice (some ⟨g2, 0, none⟩) 4 4]) bs f hf Wb.drew (hp'.out.mono (cell_le hbb.out.drew)))
  have hnd : Hid (∀ w', Below Wb.drew.heap.size Wb.drew w' → Calls Try.prog 63 #[.slice none 0 0, .slice Ab (bs f).len cb, .int .i64 6] w' fun e w'' => ∃ v, e = .returned v ∧ SlN w'' v (namedL (bs f) 6 []) ∧ Fr w'.heap.size (.slice none 0 0) v ∧ Below w'.heap.size w' w'') :=
    Lib.hid (fun w' hb => named_any (bs f).cnt (bs f) (Nat.le_refl _) 6 none 0 [] Ab cb w' (Rd.nil _ _) (fun _ => ⟨rfl, rfl⟩) (Nat.le_refl _) (by omega) (RdSt.below hb _ _ _ (RdSt.below hbb.out.drew _ _ _ rb)) lb mb (by simpa using hcnt))
  have f1 : (0 : Int) ≤ (f : Int) := by omega
  have f2 : (f : Int) < 4 := by omega
  clear hvb rb
  go_region_held3 (fun w' => w'.cell? ⟨w.heap.size, 0, none⟩ = some (.slice A0 n0 c0) ∧ w'.cell? ⟨w.heap.size, 1, none⟩ = some (.slice (some ⟨g1, 0, none⟩) 3 3) ∧ w'.cell? ⟨w.heap.size, 2, none⟩ = some (.slice (some ⟨g2, 0, none⟩) 4 4) ∧ w'.cell? ⟨g2, f * 3 + 2, none⟩ = some (.slice Ab (bs f).len cb)) (first | with_reducible exact hSd | exact hSk.out _ hb6.out | exact hSk.out _ hb5.out)
    (first
      | (go_at_call 53; (with_reducible refine hfd.out.mono ?_); rintro e w5 ⟨rfl, hb5⟩; replace hb5 := Lib.hid hb5)
      | (go_at_call 63; (with_reducible refine (hnd.out w5 hb5.out).mono ?_); rintro e w6 ⟨v6, rfl, hs6, hf6, hb6⟩; replace hs6 := Lib.hid hs6; replace hf6 := Lib.hid hf6; replace hb6 := Lib.hid (bl_then hb5.out hb5.out.size hb6)))
  all_goals
    (go_wp2_with fail
     first | go_ret | go_end0
     exact ⟨_, rfl, hs6.out, fr_nil hf6.out (Nat.le_trans (show w.heap.size ≤ Wb.drew.heap.size from hbb.out.size) hb5.out.size), bl_then hbb.out.drew (by have := hbb.out.size; exact this) hb6.out⟩)
end Go.Proofs.Ytdhklfbelplbcaa
namespace Go.Proofs.Ytdhklfbelplbcaa
set_option linter.unusedVariables false
set_option linter.unusedSimpArgs false
open Go.RowKit

/-- how many of the four are not among these -/
def muF (out : List ByteArray) : Nat := (if inL out (fnN 0) then 0 else 1) + (if inL out (fnN 1) then 0 else 1) + (if inL out (fnN 2) then 0 else 1) + (if inL out (fnN 3) then 0 else 1)
def AllFN (l : List ByteArray) : Prop := ∀ s ∈ l, FN s
theorem inL_withL (l : List ByteArray) (s x : ByteArray) : inL (withL l s) x = (inL l x || eqS s x) := by
  rw [Bool.eq_iff_iff, inL_iff, withL_mem, Bool.or_eq_true, inL_iff, eqS_iff]
  constructor
  · rintro (h | h)
    · exact .inl h
    · exact .inr h.symm
  · rintro (h | h)
    · exact .inl h
    · exact .inr h.symm
theorem muF_with {out : List ByteArray} {s : ByteArray} (hs : FN s) (hn : inL out s = false) : muF (withL out s) + 1 ≤ muF out := by
  obtain ⟨j, hj, rfl⟩ := hs
  have he : ∀ i, i < 4 → eqS (fnN j) (fnN i) = decide (j = i) := fun i hi => fnN_eq hj hi
  unfold muF
  rw [inL_withL, inL_withL, inL_withL, inL_withL, he 0 (by omega), he 1 (by omega), he 2 (by omega), he 3 (by omega)]
  rcases (by omega : j = 0 ∨ j = 1 ∨ j = 2 ∨ j = 3) with rfl | rfl | rfl | rfl <;> simp only [hn] <;> simp <;> omega
theorem muF_le (out : List ByteArray) : muF out ≤ 4 := by
  unfold muF; split <;> split <;> split <;> split <;> omega
def addR : List ByteArray → List ByteArray × List ByteArray → List ByteArray × List ByteArray
  | [], p => p
  | y :: ys, p => addR ys (if inL p.1 y then p else (withL p.1 y, p.2 ++ [y]))
theorem addR_fn : ∀ (ys : List ByteArray) (p : List ByteArray × List ByteArray), AllFN ys → AllFN p.1 → AllFN p.2 → AllFN (addR ys p).1 ∧ AllFN (addR ys p).2
  | [], p, _, h1, h2 => ⟨h1, h2⟩
  | y :: ys, p, h0, h1, h2 => by
    unfold addR
    refine addR_fn ys _ (fun s hs => h0 s (List.mem_cons_of_mem _ hs)) ?_ ?_
    · split
      · exact h1
      · intro s hs
        rw [withL_mem] at hs
        rcases hs with hs | rfl
        · exact h1 s hs
        · exact h0 _ (List.mem_cons_self ..)
    · split
      · exact h2
      · intro s hs
        rw [List.mem_append, List.mem_singleton] at hs
        rcases hs with hs | rfl
        · exact h2 s hs
        · exact h0 _ (List.mem_cons_self ..)
theorem addR_mu : ∀ (ys : List ByteArray) (p : List ByteArray × List ByteArray), AllFN ys → muF (addR ys p).1 + (addR ys p).2.length ≤ muF p.1 + p.2.length
  | [], p, _ => Nat.le_refl _
  | y :: ys, p, h0 => by
    unfold addR
    refine Nat.le_trans (addR_mu ys _ (fun s hs => h0 s (List.mem_cons_of_mem _ hs))) ?_
    split
    · exact Nat.le_refl _
    · rename_i hn
      have := muF_with (out := p.1) (h0 y (List.mem_cons_self ..)) (by simpa using hn)
      simp only [List.length_append, List.length_cons, List.length_nil]
      omega
/-- the place of a name -/
def fnIx (s : ByteArray) : Nat := if eqS s (fnN 0) then 0 else if eqS s (fnN 1) then 1 else if eqS s (fnN 2) then 2 else 3
theorem fnIx_lt (s : ByteArray) : fnIx s < 4 := by unfold fnIx; split <;> (try split) <;> (try split) <;> omega
theorem fnIx_fn {s : ByteArray} (h : FN s) : fnN (fnIx s) = s := by
  obtain ⟨j, hj, rfl⟩ := h
  have he : ∀ i, i < 4 → eqS (fnN j) (fnN i) = decide (j = i) := fun i hi => fnN_eq hj hi
  unfold fnIx
  rw [he 0 (by omega), he 1 (by omega), he 2 (by omega)]
  rcases (by omega : j = 0 ∨ j = 1 ∨ j = 2 ∨ j = 3) with rfl | rfl | rfl | rfl <;> rfl
def callsL (bs : Nat → St) (j : Nat) : List ByteArray := namedL (bs j) 5 []
def spawnsL (bs : Nat → St) (j : Nat) : List ByteArray := namedL (bs j) 6 []
def reachF (bs : Nat → St) : Nat → List ByteArray → List ByteArray → List ByteArray
  | 0, out, _ => out
  | _ + 1, out, [] => out
  | n + 1, out, x :: rest => reachF bs n (addR (callsL bs (fnIx x)) (out, rest)).1 (addR (callsL bs (fnIx x)) (out, rest)).2
def reachL (bs : Nat → St) (f : Nat) : List ByteArray := reachF bs 5 [fnN f] [fnN f]
theorem calls_fn {bs : Nat → St} (hok : ∀ j, j < 4 → StOk (bs j)) {j : Nat} (hj : j < 4) : AllFN (callsL bs j) := by
  intro s hs
  unfold callsL at hs
  rw [namedL_mem] at hs
  rcases hs with hs | hs
  · simp at hs
  · exact StOk.fn (.inl rfl) _ (hok j hj) hs
theorem spawns_fn {bs : Nat → St} (hok : ∀ j, j < 4 → StOk (bs j)) {j : Nat} (hj : j < 4) : AllFN (spawnsL bs j) := by
  intro s hs
  unfold spawnsL at hs
  rw [namedL_mem] at hs
  rcases hs with hs | hs
  · simp at hs
  · exact StOk.fn (.inr rfl) _ (hok j hj) hs

/-! ### a row of the call's own whose head may have been cut off -/
def Tl (W : World) (base : Nat) (v : Value) (l : List ByteArray) : Prop :=
  ∃ g o c cur, v = .slice (some ⟨g, o, none⟩) l.length c ∧ base ≤ g ∧ W.heap[g]? = some (.cells cur 9 (0, 0)) ∧ o + c ≤ cur.size ∧ l.length ≤ c ∧ c ≤ 9223372036854775807 ∧ ∀ i, ∀ h : i < l.length, cur[o + i]? = some (.string l[i])
theorem Tl.kept {W W' : World} {base : Nat} {v : Value} {l : List ByteArray} {row : Option Nat} (h : Tl W base v l) (hg : W.grownBy W' row) (hne : ∀ b, v.ownBlock = some b → row ≠ some b) : Tl W' base v l := by
  obtain ⟨g, o, c, cur, rfl, h2, h3, h4, h5, h6, h7⟩ := h
  refine ⟨g, o, c, cur, rfl, h2, ?_, h4, h5, h6, h7⟩
  rw [hg.block g (Array.getElem?_eq_some_iff.1 h3).1 (fun e => hne g rfl e.symm)]
  exact h3
theorem Tl.below {W W' : World} {base : Nat} {v : Value} {l : List ByteArray} (h : Tl W base v l) (hb : Below W.heap.size W W') : Tl W' base v l :=
  h.kept (row := none) ⟨hb.os, hb.tape, hb.output, hb.size, fun i hi _ => hb.block i hi⟩ (fun b _ e => by cases e)
theorem Tl.lt {W : World} {base : Nat} {v : Value} {l : List ByteArray} (h : Tl W base v l) : ∀ b, v.ownBlock = some b → base ≤ b ∧ b < W.heap.size := by
  obtain ⟨g, o, c, cur, rfl, h2, h3, h4, h5, h6, h7⟩ := h
  intro b hb
  cases hb
  exact ⟨h2, (Array.getElem?_eq_some_iff.1 h3).1⟩
theorem Tl.own {W : World} {base : Nat} {v : Value} {l : List ByteArray} (h : W.ownsRow base 9 1 v l.length (strs l)) (hl : 0 < l.length) : Tl W base v l := by
  rcases h.2 with ⟨_, h2⟩ | ⟨g, cap, cur, rfl, hb, hg, hc, hm, hz, hx⟩
  · omega
  · refine ⟨g, 0, cap, cur, rfl, hb, hg, ?_, hc, by unfold maxLen at hm; exact hm, fun i hi => ?_⟩
    · omega
    · have hx' : cur.toList.take (l.length * 1) = strs l := hx
      have h1 : (cur.toList.take (l.length * 1))[i]? = (strs l)[i]? := by rw [hx']
      rw [List.getElem?_take_of_lt (by omega)] at h1
      rw [Nat.zero_add, ← Array.getElem?_toList, h1]
      simp [strs, enc, hi]
theorem SlN.grown {W W' : World} {v : Value} {l : List ByteArray} {row : Option Nat} (h : SlN W v l) (hg : W.grownBy W' row) (hne : ∀ b, v.ownBlock = some b → row ≠ some b) : SlN W' v l := by
  obtain ⟨A, c, rfl, h2, h3, h4, h5⟩ := h
  refine ⟨A, c, rfl, h2, h3, h4, fun i hi => ?_⟩
  obtain ⟨ad, h6, h7⟩ := h5 i hi
  refine ⟨ad, h6, ?_⟩
  subst h6
  have hb := World.block_lt_of_cell? W _ h7
  have hbl : (ad.add i).block = ad.block := by unfold Addr.add; split <;> rfl
  rw [cell_block (hg.block _ hb (fun e => hne ad.block rfl (by rw [← e, hbl])))]
  exact h7
theorem SlN.lt {W : World} {v : Value} {l : List ByteArray} (h : SlN W v l) (hl : 0 < l.length) : ∀ b, v.ownBlock = some b → b < W.heap.size := by
  obtain ⟨A, c, rfl, h2, h3, h4, h5⟩ := h
  intro b hb
  obtain ⟨ad, h6, h7⟩ := h5 0 (by rw [strs_len]; exact hl)
  subst h6
  cases hb
  have := World.block_lt_of_cell? W _ h7
  have hbl : (ad.add 0).block = ad.block := by unfold Addr.add; split <;> rfl
  rwa [hbl] at this

theorem app_tl {ops : Array Oper} {rest : List Oper} {o : Oper} {a : Act} {Q : Exit → Act → World → Prop} (W : World) (hgd : o.guard = none) (s x : Operand) (ho : o.op = .call { callee := .builtin .append, args := #[s, x], argTypes := #[52, 52] })
    (base : Nat) (v : Value) (l : List ByteArray) (hs : a.eval s = v) (hT : Tl W base v l) (hbase : base ≤ W.heap.size) (y : ByteArray) (ad : Addr) (c' : Nat) (hx : a.eval x = .slice (some ad) 1 c') (hy : W.cell? ad = some (.string y)) (hl : l.length ≤ 1000)
    (h : ∀ v' w', Tl w' base v' (l ++ [y]) → W.grownBy w' v.ownBlock → (v'.ownBlock = v.ownBlock ∨ ∃ b, v'.ownBlock = some b ∧ W.heap.size ≤ b) → wpList Try.prog ops Q rest (a.put o.dst v') w') :
    wpList Try.prog ops Q (o :: rest) a W := by
  obtain ⟨i0, hi, hz0, hz1, hz2⟩ := info_parts info9
  obtain ⟨g, oo, c, cur, rfl, h2, h3, h4, h5, h6, h7⟩ := hT
  have hcell : ∀ j u, (strs l)[j]? = some u → W.cell? ⟨g, oo + j, none⟩ = some u := by
    intro j u hj
    have hj' : j < l.length := by have := (List.getElem?_eq_some_iff.1 hj).1; rwa [strs_len] at this
    rw [cell_of_row W g (oo + j) cur 9 (0, 0) h3, h7 j hj', ← hj]
    simp [strs, enc, hj']
  have hone : ∀ j u, [Value.string y][j]? = some u → W.cell? (ad.add j) = some u := by
    intro j u hj
    have hj0 : j = 0 := by have := (List.getElem?_eq_some_iff.1 hj).1; simpa using this
    subst hj0
    have e : ad.add 0 = ad := by unfold Addr.add; simp
    rw [e, hy]
    simpa using hj
  refine wpList_append_arg W hgd s x 52 ho 9 i0 (.string ⟨#[]⟩) 1 16 Try.underlying52 hi hz0 hz1 hz2 rfl (by decide) g oo l.length c (strs l) hs (by rw [strs_len, Nat.mul_one]) hcell ad 1 c' [.string y] hx rfl hone (by simp [Value.oneCell']) ?_ (by unfold maxLen; omega) (by omega) ?_ ?_
  · intro hr j hj
    have hj0 : j = 0 := by simpa using hj
    subst hj0
    rw [Nat.mul_one, Nat.add_zero]
    refine ⟨?_, by simp [World.frozen?, h3]⟩
    rw [cell_of_row W g _ cur 9 (0, 0) h3]
    have : oo + l.length < cur.size := by omega
    simp [this]
  · intro hr
    rw [Nat.mul_one]
    have e : W.setCells g (oo + l.length) [.string y] = W.setCell ⟨g, oo + l.length, none⟩ (.string y) := rfl
    rw [e]
    have hlt : oo + l.length < cur.size := by omega
    obtain ⟨q1, q2⟩ := set_field W g (oo + l.length) cur.toList (.string y) 9 (by simpa using h3)
    refine h _ _ ⟨g, oo, c, _, by simp, h2, q1, ?_, by simpa using hr, h6, fun i hi => ?_⟩ q2 (.inl rfl)
    · simp; exact h4
    · simp only [List.length_append, List.length_cons, List.length_nil] at hi
      rw [List.getElem?_toArray, List.getElem?_set]
      by_cases hil : i = l.length
      · subst hil
        simp [hlt]
      · have hi2 : i < l.length := by omega
        rw [if_neg (by omega), List.getElem_append_left hi2, Array.getElem?_toList]
        exact h7 i hi2
  · intro hr v' w' ho' hg'
    have hlen : (l ++ [y]).length = l.length + 1 := by simp
    have hT' : Tl w' base v' (l ++ [y]) := Tl.own (by rw [hlen]; have := own_weaken ho' hbase; simpa [strs, enc] using this) (by simp)
    obtain ⟨g', cap', hv', hb', hlt'⟩ := ho'.form (by omega)
    refine h v' w' hT' ⟨hg'.os, hg'.tape, hg'.output, hg'.size, fun k hk _ => hg'.block k hk (by simp)⟩ (.inr ⟨g', by rw [hv']; rfl, hb'⟩)
end Go.Proofs.Ytdhklfbelplbcaa
