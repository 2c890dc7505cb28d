/- The walks: ref.Cut. -/
import Derived.Test.YtjlhajnficneoaaSw
namespace Go.Proofs.Ytjlhajnficneoaa
set_option linter.unusedVariables false
set_option linter.unusedSimpArgs false
open Go.RowKit

theorem PartsIn.app {R : Value → List Nat → Prop} {cells : List Value} {ps : List PartD} {p : PartD} {v : Value} (h : PartsIn R cells ps) (hl : cells.length = ps.length * 5) (hv : R v p.data) :
    PartsIn R (cells ++ [.int .i64 p.gen, .int .i64 p.rc, .int .i64 p.n, .int .i64 p.ofn, v]) (ps ++ [p]) := by
  intro i hi
  by_cases hik : i < ps.length
  · obtain ⟨v', hv', h0, h1, h2, h3, h4⟩ := h i hik
    refine ⟨v', ?_, ?_⟩
    · rw [List.getElem_append_left hik]; exact hv'
    · rw [List.getElem_append_left hik]
      refine ⟨?_, ?_, ?_, ?_, ?_⟩ <;> rw [List.getElem?_append_left (by omega)] <;> assumption
  · have hik2 : i = ps.length := by simp at hi; omega
    subst hik2
    have e : (ps ++ [p])[ps.length] = p := by simp
    refine ⟨v, by rw [e]; exact hv, ?_⟩
    rw [e]
    refine ⟨?_, ?_, ?_, ?_, ?_⟩ <;> rw [List.getElem?_append_right (by omega)]
    · rw [show 5 * ps.length - cells.length = 0 by omega]; rfl
    · rw [show 5 * ps.length + 1 - cells.length = 1 by omega]; rfl
    · rw [show 5 * ps.length + 2 - cells.length = 2 by omega]; rfl
    · rw [show 5 * ps.length + 3 - cells.length = 3 by omega]; rfl
    · rw [show 5 * ps.length + 4 - cells.length = 4 by omega]; rfl
theorem parts_mono {R R' : Value → List Nat → Prop} {cells : List Value} {ps : List PartD} (h : PartsIn R cells ps) (hR : ∀ v l, R v l → R' v l) : PartsIn R' cells ps := by
  intro i hi
  obtain ⟨v, h0, h1⟩ := h i hi
  exact ⟨v, hR _ _ h0, h1⟩
theorem own_apart {w : World} {b1 b2 n1 n2 s1 s2 : Nat} {t1 t2 : TypeId} {v u : Value} {xs ys : List Value} (h : w.ownsRow b1 t1 s1 v n1 xs) (k : w.ownsRow b2 t2 s2 u n2 ys) (ht : t1 ≠ t2) : v.ownBlock = none ∨ v.ownBlock ≠ u.ownBlock := by
  rcases h.2 with ⟨rfl, -⟩ | ⟨g, cap, cur, rfl, -, h5, -⟩
  · exact .inl rfl
  · refine .inr ?_
    rcases k.2 with ⟨rfl, -⟩ | ⟨g', cap', cur', rfl, -, k5, -⟩
    · simp [Value.ownBlock]
    · intro e
      simp only [Value.ownBlock, Option.some.injEq] at e
      subst e
      rw [h5] at k5
      cases k5
      exact ht rfl
def sliceLen : Value → Nat
  | .slice _ n _ => n
  | _ => 0
theorem info28 : (Try.prog.info? 28).map (fun i => (i.zero, i.size, i.bytes)) = some (some (.agg #[.int .i64 0, .int .i64 0, .int .i64 0, .int .i64 0, .slice none 0 0]), 5, 56) := by kernel_rfl

set_option maxHeartbeats 1000000 in
set_option maxRecDepth 100000 in
theorem refcut_arg (gen rc : Int) (A : Option Addr) (c n : Nat) (w : World) (hno : ¬ cutArg gen rc) :
    Calls Try.prog 23 #[.int .i64 gen, .int .i64 rc, .slice A n c] w fun e w' => e = .returned (.tuple #[.slice none 0 0, .int .i64 1]) ∧ w = w' := by
  by_cases h0 : gen < 1
  · have e0 := decide_eq_true h0
    go_enter Try.func23, Try.ntmps23
    go_wp2_with fail
    go_ret2
    exact ⟨rfl, rfl⟩
  have e0 := decide_eq_false h0
  by_cases h1 : gen > 4294967295
  · have e1 := decide_eq_true h1
    go_enter Try.func23, Try.ntmps23
    go_wp2_with fail
    go_ret2
    exact ⟨rfl, rfl⟩
  have e1 := decide_eq_false h1
  by_cases h2 : rc < 0
  · have e2 := decide_eq_true h2
    go_enter Try.func23, Try.ntmps23
    go_wp2_with fail
    go_ret2
    exact ⟨rfl, rfl⟩
  have e2 := decide_eq_false h2
  have h3 : rc > 65535 := by
    by_cases h3 : rc > 65535
    · exact h3
    · exact absurd ⟨by omega, by omega, by omega, by omega⟩ hno
  have e3 := decide_eq_true h3
  go_enter Try.func23, Try.ntmps23
  go_wp2_with fail
  go_ret2
  exact ⟨rfl, rfl⟩

set_option maxHeartbeats 4000000 in
set_option maxRecDepth 100000 in
theorem refcut_walk (gen rc : Int) (A : Option Addr) (c : Nat) (l : List Nat) (w : World) (hok : cutArg gen rc) (hl : l.length ≤ 100000) (hr : Rd w A (bs l)) (hA : A = none → l.length = 0 ∧ c = 0) :
    Calls Try.prog 23 #[.int .i64 gen, .int .i64 rc, .slice A l.length c] w fun e w' => ∃ v cells, e = .returned (.tuple #[v, .int .i64 (if recN l ≤ 255 then 0 else 2)]) ∧ (recN l ≤ 255 → w'.ownsRow w.heap.size 28 5 v (recN l) cells ∧ PartsIn (OwnB w' w.heap.size) cells (cutOf gen rc l)) ∧ (¬ recN l ≤ 255 → v = .slice none 0 0) ∧ Below w.heap.size w w' := by
  obtain ⟨a1, a2, a3, a4⟩ := hok
  have e0 : decide (gen < 1) = false := by simp; omega
  have e1 : decide (gen > 4294967295) = false := by simp; omega
  have e2 : decide (rc < 0) = false := by simp; omega
  have e3 : decide (rc > 65535) = false := by simp; omega
  have hr' := Lib.hid hr
  have hA' := Lib.hid hA
  clear hr hA
  obtain ⟨M, hM⟩ : ∃ M, M = recN l := ⟨_, rfl⟩
  have hMl : 52 * M ≤ l.length + 55 ∧ l.length + 4 ≤ 52 * M := by rw [hM]; unfold recN; omega
  rw [← hM]
  have hM' := Lib.hid hM
  clear hM
  go_enter Try.func23, Try.ntmps23
  go_wp2_with (first
    | (go_at_call 32; refine (le_any w.heap.size (.slice none 0 0) 0 4 [] (l.length : Int) w (own_nil _ _ _ _) (Nat.le_refl _) (by decide) (by decide)).mono ?_; rintro e w1 ⟨v1, rfl, ho1, hb1, -, -⟩; replace ho1 := Lib.hid ho1; replace hb1 := Lib.hid hb1)
    | (at_builtin; refine app_src (w0 := w) w.heap.size (by rfl) _ _ 22 5 (.int .u8 0) 1 1 rfl Try.underlying22 info5 rfl (by decide) (by decide) v1 4 _ rfl (by simpa using ho1.out) hb1.out hb1.out.size A l.length c (bs l) rfl (by rw [bs_length, Nat.mul_one]) (hr'.out.below hb1.out) hA'.out (bs_one _) (by omega) ?_; rintro v2 w2 ho2 hb2 - -; replace ho2 := Lib.hid ho2; replace hb2 := Lib.hid hb2))
  go_loopw [8] (fun v wr => ∃ j, 4 + l.length + j ≤ 52 * M ∧ wr.ownsRow w.heap.size 5 1 v (4 + l.length + j) (bs (leN l.length 4 ++ l ++ List.replicate j 0)) ∧ Below w.heap.size w wr) (fun v _ => 52 * M - sliceLen v)
  case atStart => exact ⟨0, by omega, by simpa [bs_append] using ho2.out, hb2.out⟩
  case round =>
    obtain ⟨j, hj, ho, hb⟩ := hrel
    obtain ⟨g, cap, rfl, hcap, hg⟩ := own_some ho (by omega)
    replace ho := Lib.hid ho
    replace hb := Lib.hid hb
    have hbs := hb.out.size
    generalize hL : 4 + l.length + j = L at hj ho hcap
    by_cases hrem : (L : Int) % 52 = 0
    · obtain rfl : L = 52 * M := by omega
      have hfull : Hid (leN l.length 4 ++ l ++ List.replicate j 0 = full l) := Lib.hid (by
        unfold full
        rw [← hM'.out, show M * 52 - 4 - l.length = j by omega])
      have ho8 : Hid (wr.ownsRow w.heap.size 5 1 (.slice (some ⟨g, 0, none⟩) (52 * M) cap) (52 * M) (bs (full l))) := Lib.hid (by rw [← hfull.out]; exact ho.out)
      clear ho hfull hrem
      go_upto_region 7 with fail
      by_cases hbig : M ≤ 255
      · have hd : decide (255 < M) = false := by simp; omega
        have hd2 : decide ((M : Int) > 255) = false := by simp; omega
        go_wp2_with fail
        go_loopw [10, 11] (fun v i wr => ∃ (k : Nat) (cells : List Value), i = .int .i64 k ∧ k ≤ M ∧ wr.ownsRow w.heap.size 28 5 v k cells ∧ PartsIn (OwnB wr w.heap.size) cells ((cutOf gen rc l).take k) ∧ wr.ownsRow w.heap.size 5 1 (.slice (some ⟨g, 0, none⟩) (52 * M) cap) (52 * M) (bs (full l)) ∧ Below w.heap.size w wr) (fun _ i _ => M - (intOf i).toNat)
        case atStart => exact ⟨0, [], rfl, by omega, own_nil _ _ _ _, (fun i hi => by simp at hi), ho8.out, hb.out⟩
        case round =>
          obtain ⟨k, cells, rfl, hk, hoc, hpi, hof, hbl⟩ := hrel
          replace hoc := Lib.hid hoc
          replace hpi := Lib.hid hpi
          have hrf : Hid (Rd wr (some ⟨g, 0, none⟩) (bs (full l))) := Lib.hid (by obtain ⟨A', c', e, -, -, h, -⟩ := Rd.own hof; cases e; exact h)
          replace hof := Lib.hid hof
          replace hbl := Lib.hid hbl
          have hbs2 := hbl.out.size
          by_cases hlt : k < M
          · have hd3 : decide (k < M) = true := by simpa using hlt
            have hdat : Hid (((full l).drop (k * 52)).take 52 = (partOf gen rc l k).data) := Lib.hid rfl
            have hlen : Hid ((partOf gen rc l k).data.length = (k + 1) * 52 - k * 52) := Lib.hid (by rw [part_len gen rc l k (by rw [← hM'.out]; exact hlt)]; omega)
            have hrd : Hid (Rd wr (some ⟨g, k * 52, none⟩) (bs (partOf gen rc l k).data)) := Lib.hid (by
              rw [← hdat.out]
              have := (hrf.out.drop (k * 52)).take 52
              rw [Nat.zero_add] at this
              simpa [bs, enc, List.map_take, List.map_drop] using this)
            have hmul : (0 + ((k + 1) * 52 - k * 52)) * 1 ≤ 140737488355328 := by omega
            have hl0 : Hid ((bs (partOf gen rc l k).data).length = ((k + 1) * 52 - k * 52) * 1) := Lib.hid (by rw [bs_length, Nat.mul_one]; exact hlen.out)
            go_wp2_with (first
              | (at_builtin; refine app_src (w0 := wr) wr.heap.size (by rfl) _ _ 22 5 (.int .u8 0) 1 1 rfl Try.underlying22 info5 rfl (by decide) (by decide) _ 0 [] rfl (own_lit wr wr.heap.size 5 1 0 [] (Nat.le_refl _) rfl (by omega)) ((Below.refl _ _).alloc (Nat.le_refl _) _) (by simp) (some ⟨g, k * 52, none⟩) ((k + 1) * 52 - k * 52) (cap - k * 52) (bs (partOf gen rc l k).data) rfl hl0.out (hrd.out.below (bl_alloc (Below.refl _ _) _)) (fun e => by cases e) (bs_one _) hmul ?_; rintro v5 w5 ho5 hb5 - -; obtain ⟨g5, cap5, rfl, -, hg5⟩ := own_some ho5 (by omega); replace ho5 : Hid (OwnB w5 w.heap.size (.slice (some ⟨g5, 0, none⟩) (0 + ((k + 1) * 52 - k * 52)) cap5) (partOf gen rc l k).data) := Lib.hid (by unfold OwnB; rw [hlen.out, ← Nat.zero_add ((k + 1) * 52 - k * 52)]; exact own_weaken (by simpa using ho5) hbs2); have hoc5 := Lib.hid (own_below hoc.out hb5); have hof5 := Lib.hid (own_below hof.out hb5); have hpi5 : Hid (PartsIn (OwnB w5 w.heap.size) cells ((cutOf gen rc l).take k)) := Lib.hid (parts_mono (R := OwnB wr w.heap.size) hpi.out (fun v l h => OwnB.below h hb5)); replace hb5 := Lib.hid (bl_then hbl.out hbs2 hb5))
              | (at_builtin; refine app_lit (w0 := w) w.heap.size (by rfl) _ _ 49 28 _ 5 56 rfl Try.underlying49 info28 rfl (by decide) (by decide) _ k cells rfl hoc5.out hb5.out hb5.out.size 1 1 [.int .i64 gen, .int .i64 rc, .int .i64 k, .int .i64 M, .slice (some ⟨g5, 0, none⟩) ((k + 1) * 52 - k * 52) cap5] rfl rfl (by simp [Value.oneCell']) (by omega) ?_; rintro v6 w6 ho6 hb6 hg6 -))
            have hk5 : ∀ v l, OwnB w5 w.heap.size v l → OwnB w6 w.heap.size v l := fun v l h => World.ownsRow.kept h hg6 (own_apart h hoc5.out (by decide))
            refine ⟨⟨k + 1, cells ++ [.int .i64 gen, .int .i64 rc, .int .i64 k, .int .i64 M, .slice (some ⟨g5, 0, none⟩) ((k + 1) * 52 - k * 52) cap5], by go_num, by omega, ho6, ?_, World.ownsRow.kept hof5.out hg6 (own_apart hof5.out hoc5.out (by decide)), hb6⟩, by simp [intOf]; omega⟩
            have hcl : k < (cutOf gen rc l).length := by rw [cutOf_len, ← hM'.out]; exact hlt
            have h1 := PartsIn.app (p := partOf gen rc l k) (v := .slice (some ⟨g5, 0, none⟩) ((k + 1) * 52 - k * 52) cap5) (parts_mono hpi5.out hk5) (by have := hoc5.out.1; rw [this, List.length_take]; omega) (hk5 _ _ (by simpa using ho5.out))
            rw [List.take_succ_eq_append_getElem hcl, cutOf_get]
            simp only [partOf, ← hM'.out] at h1 ⊢
            exact h1
          · have hd3 : decide (k < M) = false := by simpa using hlt
            have hkM : k = M := by omega
            subst hkM
            go_wp2_with fail
            go_ret2
            refine ⟨_, rfl, ⟨cells, hoc.out, ?_⟩, hbl.out⟩
            have h1 : PartsIn (OwnB wr w.heap.size) cells ((cutOf gen rc l).take k) := hpi.out
            rwa [List.take_of_length_le (by rw [cutOf_len, ← hM'.out]; exact Nat.le_refl _)] at h1
      · have hd : decide (255 < M) = true := by simp; omega
        have hd2 : decide ((M : Int) > 255) = true := by simp; omega
        go_wp2_with fail
        go_ret2
        exact ⟨_, rfl, rfl, hb.out⟩
    · have hq1 : ((L : Int) % 52 == 0) = false := by rw [beq_eq_false_iff_ne]; exact hrem
      have hq2 : ((L : Int) % 52 != 0) = true := by simp only [bne, hq1, Bool.not_false]
      go_wp2_with (at_builtin; refine app_lit (w0 := w) w.heap.size (by rfl) _ _ 22 5 (.int .u8 0) 1 1 rfl Try.underlying22 info5 rfl (by decide) (by decide) _ L _ rfl ho.out hb.out hbs 1 1 [.int .u8 0] rfl rfl (by simp [Value.oneCell']) (by omega) ?_; rintro v4 w4 ho4 hb4 - -; obtain ⟨g4, cap4, rfl, -, -⟩ := own_some ho4 (by omega))
      refine ⟨⟨j + 1, by omega, ?_, hb4⟩, by simp [sliceLen]; omega⟩
      rw [show 4 + l.length + (j + 1) = L + 1 by omega, List.replicate_succ', ← List.append_assoc, bs_append]
      exact ho4
end Go.Proofs.Ytjlhajnficneoaa
