/- The walks: SectLong. -/
import Derived.Test.YtjlhajnficneoaaSw
namespace Go.Proofs.Ytjlhajnficneoaa
set_option linter.unusedVariables false
set_option linter.unusedSimpArgs false
open Go.RowKit

/-- behind the record the last Part's bytes are noughts -/
theorem last_zero (gen rc : Int) (l : List Nat) (m i : Nat) (hm : recN l = m + 1) (hi : l.length + 4 ≤ 52 * m + i) (h52 : i < 52) : (partOf gen rc l m).data[i]? = some 0 := by
  have hf : (full l).length = recN l * 52 := full_len l
  have e : full l = (leN l.length 4 ++ l) ++ List.replicate (recN l * 52 - 4 - l.length) 0 := rfl
  have h4 : (leN (l.length : Int) 4 ++ l).length = 4 + l.length := by rw [List.length_append, leN_len]
  unfold partOf
  simp only
  rw [List.getElem?_take_of_lt h52, List.getElem?_drop, e, List.getElem?_append_right (by rw [h4]; omega), List.getElem?_replicate, if_pos (by rw [h4, hm]; omega)]

/-- the last Part's slice of bytes -/
theorem last_at {w : World} {base g cap m : Nat} {gen rc : Int} {l : List Nat} {cells : List Value} (h : w.ownsRow base 33 5 (.slice (some ⟨g, 0, none⟩) (m + 1) cap) (m + 1) cells) (hp : PartsIn (OwnB w base) cells (cutOf gen rc l)) (hm : recN l = m + 1) :
    ∃ gm cm, Rd w (some ⟨gm, 0, none⟩) (bs (partOf gen rc l m).data) ∧ w.cell? ⟨g, m * 5 + 4, none⟩ = some (.slice (some ⟨gm, 0, none⟩) 52 cm) := by
  have hl : m < (cutOf gen rc l).length := by rw [cutOf_len]; omega
  obtain ⟨v, ho, -, -, -, -, h4⟩ := hp m hl
  rw [cutOf_get] at ho
  unfold OwnB at ho
  rw [part_len gen rc l m (by omega)] at ho
  obtain ⟨gm, cm, rfl, -, -⟩ := own_some ho (by decide)
  obtain ⟨A', c', e, -, -, h3, -⟩ := Rd.own ho
  cases e
  rw [Nat.mul_comm 5 m] at h4
  exact ⟨gm, cm, h3, own_get h h4⟩
theorem bs_put (l : List Nat) (i x : Nat) : (bs l).set i (by_ x) = bs (l.set i x) := by simp [bs, enc, List.map_set]

set_option maxHeartbeats 4000000 in
set_option maxRecDepth 100000 in
theorem long_walk (w : World) (n gen : Int) : Calls Try.prog 9 #[.int .i64 n, .int .i64 gen] w fun e w' => e = .returned (.bool true) ∧ Below w.heap.size w w' := by
  obtain ⟨K, hK, hKe⟩ : ∃ K : Nat, K < 13262 ∧ n % 13262 = (K : Int) := ⟨(n % 13262).toNat, by omega, by omega⟩
  obtain ⟨G, hG, hGe⟩ : ∃ G : Nat, G < 99 ∧ gen % 99 = (G : Int) := ⟨(gen % 99).toNat, by omega, by omega⟩
  replace hKe := Lib.hid hKe
  replace hGe := Lib.hid hGe
  have hmk := mk_row (P := Try.prog) 22 5 (.int .u8 0) 1 Try.underlying22 info5 rfl K (by omega) (by omega)
  have hca : Hid (cutArg (1 + (G : Int)) 3) := Lib.hid (by unfold cutArg; omega)
  go_enter Try.func9, Try.ntmps9
  go_wp2_with (first
    | (go_at_call 12; refine (known_any _).mono ?_; rintro e w1 ⟨rfl, hb1⟩; replace hb1 := Lib.hid hb1)
    | (go_at_call_of 20 (Value.int .i64 n); refine (within_any n 13262 _ (by decide) (by decide)).mono ?_; rintro e w' ⟨rfl, rfl⟩; rw [hKe.out]))
  have hs1 := hb1.out.size
  have hz0 : Hid ((w1.alloc (.cells (zer (.int .u8 0) K).toArray 5)).ownsRow w1.heap.size 5 1 (.slice (some ⟨w1.heap.size, 0, none⟩) K K) K (bs (List.replicate K 0))) := Lib.hid (by
    rw [← zer_bs]
    exact own_lit w1 w1.heap.size 5 1 K (zer (.int .u8 0) K) (Nat.le_refl _) (by rw [zer_length, Nat.mul_one]) (by omega))
  go_loopw [7] (fun i wr => ∃ (k : Nat) (l : List Nat), i = .int .i64 k ∧ k ≤ K ∧ l.length = K ∧ Bytes8 l ∧ wr.ownsRow w1.heap.size 5 1 (.slice (some ⟨w1.heap.size, 0, none⟩) K K) K (bs l) ∧ Below w.heap.size w wr) (fun i _ => K - (intOf i).toNat)
  case atStart => exact ⟨0, List.replicate K 0, rfl, by omega, by simp, (fun x hx => by have := List.eq_of_mem_replicate hx; omega), hz0.out, bl_alloc hb1.out _⟩
  case round =>
    obtain ⟨k, l, rfl, hk, hl, h8, hoz, hbl⟩ := hrel
    replace hoz := Lib.hid hoz
    replace hbl := Lib.hid hbl
    by_cases hlt : k < K
    · have hd3 : decide (k < K) = true := by simpa using hlt
      have hkz : k < l.length := by omega
      have x0 : wr.cell? ⟨w1.heap.size, k, none⟩ = some (.int .u8 ((l[k] : Nat) : Int)) := own_get hoz.out (by simp [bs, enc, by_, hkz])
      have z0 : wr.frozen? ⟨w1.heap.size, k, none⟩ = false := (own_put hoz.out k hlt undef).2.1
      go_wp2_with fail
      have hp := own_put hoz.out k hlt (by_ ((k * 7 + 1) % 256))
      rw [bs_put, show by_ ((k * 7 + 1) % 256) = Value.int .u8 (((k : Int) * 7 + 1) % 256) by unfold by_; congr 1] at hp
      refine ⟨⟨k + 1, l.set k ((k * 7 + 1) % 256), by go_num, by omega, by simpa using hl, ?_, hp.1, hp.2.2 _ _ hbl.out hs1⟩, by simp [intOf]; omega⟩
      intro x hx
      rcases List.mem_or_eq_of_mem_set hx with h | h
      · exact h8 x h
      · omega
    · have hd3 : decide (k < K) = false := by simpa using hlt
      have h8' := Lib.hid h8
      have hr6 : Hid (Rd wr (some ⟨w1.heap.size, 0, none⟩) (bs l)) := Lib.hid (by obtain ⟨A', c', e, -, -, h, -⟩ := Rd.own hoz.out; cases e; exact h)
      have hbsz := hbl.out.size
      have hl' := Lib.hid hl
      have hrN : recN l = (K + 55) / 52 := by unfold recN; rw [hl]
      clear h8 hz0
      by_cases hlong : 255 < recN l
      · have hbig : decide (13256 < K) = true := by simp; omega
        have hbig2 : decide ((K : Int) > 13256) = true := by simp; omega
        have hcl := cut_long (1 + (G : Int)) 3 (some ⟨w1.heap.size, 0, none⟩) K l wr hca.out hlong (by omega)
        rw [hl] at hcl
        replace hcl := Lib.hid hcl
        replace hl := Lib.hid hl
        go_wp2_with (first
          | (go_at_call_of 20 (Value.int .i64 gen); refine (within_any gen 99 _ (by decide) (by decide)).mono ?_; rintro e w' ⟨rfl, rfl⟩; rw [hGe.out])
          | (go_at_call 22; refine hcl.out.mono ?_; rintro e w' ⟨rfl, rfl⟩))
        go_ret
        exact ⟨rfl, hbl.out⟩
      · have hbig : decide (13256 < K) = false := by simp; omega
        have hbig2 : decide ((K : Int) > 13256) = false := by simp; omega
        have hrn : recN l ≤ 255 := by omega
        have hrp : 0 < recN l := by omega
        have hck := cut_ok (1 + (G : Int)) 3 (some ⟨w1.heap.size, 0, none⟩) K l wr hca.out hrn hr6.out h8'.out (by omega)
        obtain ⟨m, hm⟩ : ∃ m, recN l = m + 1 := ⟨recN l - 1, by omega⟩
        rw [hl, hm] at hck
        replace hck := Lib.hid hck
        have hm52 : 52 * m ≤ K + 3 ∧ K + 3 < 52 * m + 52 := by omega
        have hne1 : ((m : Int) + 1 != ((K : Int) + 4 + 51) / 52) = false := by rw [bne, Bool.not_eq_false', beq_iff_eq]; omega
        replace hm := Lib.hid hm
        replace hrN := Lib.hid hrN
        replace hl := Lib.hid hl
        go_upto_block 2 with (first
          | (go_at_call_of 20 (Value.int .i64 gen); refine (within_any gen 99 _ (by decide) (by decide)).mono ?_; rintro e w' ⟨rfl, rfl⟩; rw [hGe.out])
          | (go_at_call 22; refine hck.out.mono ?_; rintro e w3 ⟨v3, cells, rfl, ho3, hin3, hb3⟩; obtain ⟨g3, cap3, rfl, hcap3, hg3⟩ := own_some ho3 (by omega); obtain ⟨gm, cm, hrm, y4⟩ := last_at ho3 hin3 hm.out; replace hrm := Lib.hid hrm; replace ho3 := Lib.hid ho3; replace hin3 := Lib.hid hin3; have hb3w := Lib.hid (bl_then hbl.out hbsz hb3); replace hb3 := Lib.hid hb3))
        rw [show ((K : Int) + 4 - 52 * (m : Int)) = ((K + 4 - 52 * m : Nat) : Int) by omega]
        obtain ⟨U, hU⟩ : ∃ U, U = K + 4 - 52 * m := ⟨_, rfl⟩
        rw [← hU]
        have hUb : 52 * m + U = K + 4 := by omega
        clear hU
        have hs3 := hb3w.out.size
        have hrx : Hid (Rd w3 (some ⟨w1.heap.size, 0, none⟩) (bs l)) := Lib.hid (hr6.out.below hb3.out)
        have hat := Lib.hid (PartsIn.at_ ho3.out hin3.out (fun v l h => OwnB.slB h))
        have hj := join_cut (1 + (G : Int)) 3 l g3 cap3 w3 (by have := hat.out; exact this) h8'.out hca.out hrn (by rw [hm.out]; exact hcap3)
        rw [hm.out] at hj
        replace hj := Lib.hid hj
        have hzz := Lib.hid (fun i => last_zero (1 + (G : Int)) 3 l m i hm.out)
        have hpl := Lib.hid (part_len (1 + (G : Int)) 3 l m (by rw [hm.out]; omega))
        clear y4 hck hat hin3 ho3 hne1 hoz
        go_wp2_with fail
        go_loopw [12] (fun i wr => ∃ u : Nat, i = .int .i64 u ∧ K + 4 ≤ 52 * m + u ∧ u ≤ 52 ∧ wr = w3) (fun i _ => 52 - (intOf i).toNat)
        case atStart => exact ⟨U, rfl, by omega, by omega, rfl⟩
        case round =>
          obtain ⟨u, rfl, hu1, hu2, rfl⟩ := hrel
          by_cases hlt2 : u < 52
          · have hd4 : decide (u < 52) = true := by simpa using hlt2
            have hd5 : decide ((u : Int) < 52) = true := by simp; omega
            have x0 : wr.cell? ⟨gm, u, none⟩ = some (.int .u8 0) := by
              have hul : u < (bs (partOf (1 + (G : Int)) 3 l m).data).length := by rw [bs_length, hpl.out]; exact hlt2
              have h1 := hrm.out.get u hul
              rw [add_plain] at h1
              rw [h1]
              have h2 := hzz.out u (by rw [hl.out]; exact hu1) hlt2
              obtain ⟨h3, h4⟩ := List.getElem?_eq_some_iff.1 h2
              simp [bs, enc, by_, h4]
            go_wp2_with fail
            exact ⟨⟨u + 1, by go_num, by omega, by omega, by first | rfl | trivial⟩, by simp [intOf]; omega⟩
          · have hd4 : decide (u < 52) = false := by simpa using hlt2
            have hd5 : decide ((u : Int) < 52) = false := by simp; omega
            have hz1 := (strB_beq h8'.out h8'.out).2 rfl
            go_wp2_with (go_at_call 24; refine hj.out.mono ?_; rintro e w5 ⟨v5, rfl, ho5, hb5⟩; obtain ⟨A5, c5, rfl, hn5, hc5, hr5, hA5, -⟩ := own_shape ho5; have hb5w := Lib.hid (bl_then hb3w.out hs3 hb5); have s1 := str_any A5 l.length c5 l w5 rfl hr5 hA5; have s2 := str_any (some ⟨w1.heap.size, 0, none⟩) K K l w5 hl.out (hrx.out.below hb5) (fun e => by cases e); clear ho5 hr5 hA5 hb5)
            go_ret
            exact ⟨ret_bool (by first | exact hz1 | simp), hb5w.out⟩

/-- the same, its parameters as the row has them -/
theorem sectLong_any (w : World) (n : Int) (hn : (Lit.int .i64 n).wf = true) (gen : Int) (hg : (Lit.int .i64 gen).wf = true) : Calls Try.prog 9 #[.int .i64 n, .int .i64 gen] w fun e w' => e = .returned (.bool true) ∧ Below w.heap.size w w' := long_walk w n gen
end Go.Proofs.Ytjlhajnficneoaa
