/- The walks: SectOwn. -/
import Derived.Test.YtjlhajnficneoaaSw
namespace Go.Proofs.Ytjlhajnficneoaa
set_option linter.unusedVariables false
set_option linter.unusedSimpArgs false
open Go.RowKit

theorem PartsIn.mono {R R' : Value → List Nat → Prop} {cells : List Value} {ps : List PartD} (h : PartsIn R cells ps) (hR : ∀ v l, R v l → R' v l) : PartsIn R' cells ps := by
  intro i hi
  obtain ⟨v, h0, h1⟩ := h i hi
  exact ⟨v, hR _ _ h0, h1⟩

set_option maxHeartbeats 4000000 in
set_option maxRecDepth 100000 in
theorem own_walk (w : World) (A : Option Addr) (c : Nat) (l : List Nat) (hr : Rd w A (bs l)) (h8 : Bytes8 l) (hn : l.length ≤ c) (hc : c ≤ 9223372036854775807) (hA : A = none → l.length = 0 ∧ c = 0) (b : Int) (hb : (Lit.int .u8 b).wf = true) :
    Calls Try.prog 10 #[.slice A l.length c, .int .u8 b] w fun e w' => e = .returned (.bool true) ∧ Below w.heap.size w w' := by
  have hr' := Lib.hid hr
  have h8' := Lib.hid h8
  have hA' := Lib.hid hA
  have hb' := Lib.hid hb
  clear hr h8 hA hb
  by_cases h3 : 300 < l.length
  · have hd : decide (300 < l.length) = true := by simpa using h3
    have hd2 : decide ((l.length : Int) > 300) = true := by simp; omega
    go_enter Try.func10, Try.ntmps10
    go_wp2_with (go_at_call 12; refine (known_any _).mono ?_; rintro e w1 ⟨rfl, hb1⟩)
    go_ret
    exact ⟨rfl, hb1⟩
  have hd : decide (300 < l.length) = false := by simpa using h3
  have hd2 : decide ((l.length : Int) > 300) = false := by simp; omega
  have hca : Hid (cutArg 1 0) := Lib.hid (by unfold cutArg; omega)
  have hrn : recN l ≤ 255 := by unfold recN; omega
  have hrp : 0 < recN l := by unfold recN; omega
  go_enter Try.func10, Try.ntmps10
  go_wp2_with (first
    | (go_at_call 12; refine (known_any _).mono ?_; rintro e w1 ⟨rfl, hb1⟩; replace hb1 := Lib.hid hb1; have hrw1 := Lib.hid (hr'.out.below hb1.out))
    | (at_builtin; refine app_src (w0 := w1) w1.heap.size (by rfl) _ _ 22 5 (.int .u8 0) 1 1 rfl Try.underlying22 info5 rfl (by decide) (by decide) _ 0 [] rfl (own_lit w1 w1.heap.size 5 1 0 [] (Nat.le_refl _) rfl (by omega)) ((Below.refl _ _).alloc (Nat.le_refl _) _) (by simp) A l.length c (bs l) rfl (by rw [bs_length, Nat.mul_one]) (hrw1.out.below (bl_alloc (Below.refl _ _) _)) hA'.out (bs_one _) (by omega) ?_; rintro v2 w2 ho2 hb2 - -; rw [Nat.zero_add, List.nil_append] at ho2; obtain ⟨A2, c2, rfl, hn2, hc2, hr2, hA2, hg2⟩ := own_shape ho2; replace ho2 := Lib.hid ho2; replace hr2 := Lib.hid hr2; replace hA2 := Lib.hid hA2; replace hg2 := Lib.hid hg2; replace hb2 := Lib.hid (bl_then hb1.out hb1.out.size hb2))
    | (go_at_call 22; refine (cut_ok 1 0 A2 c2 l w2 hca.out hrn hr2.out h8'.out hn2).mono ?_; rintro e w3 ⟨v3, cells, rfl, ho3, hin3, hb3⟩; obtain ⟨g3, cap3, rfl, hcap3, hg3⟩ := own_some ho3 hrp; replace ho3 := Lib.hid ho3; replace hin3 := Lib.hid hin3; have hb3w := Lib.hid (bl_then hb2.out hb2.out.size hb3); have ho23 := Lib.hid (own_below ho2.out hb3); replace hb3 := Lib.hid hb3))
  have hs1 := hb1.out.size
  have hs2 := hb2.out.size
  have hs3 := hb3.out.size
  clear hrw1 hr2 hd hd2
  have hz0 : Hid (∃ zs : List Int, zs.length = l.length ∧ w3.ownsRow w1.heap.size 5 1 (.slice A2 l.length c2) l.length (u8s zs)) := Lib.hid ⟨l.map (fun x : Nat => (x : Int)), by simp, by rw [← bs_u8s]; exact ho23.out⟩
  go_loopw [8] (fun i wr => ∃ (k : Nat) (zs : List Int), i = .int .i64 k ∧ k ≤ l.length ∧ zs.length = l.length ∧ wr.ownsRow w1.heap.size 5 1 (.slice A2 l.length c2) l.length (u8s zs) ∧ wr.ownsRow w2.heap.size 33 5 (.slice (some ⟨g3, 0, none⟩) (recN l) cap3) (recN l) cells ∧ PartsIn (OwnB wr w2.heap.size) cells (cutOf 1 0 l) ∧ Below w.heap.size w wr) (fun i _ => l.length - (intOf i).toNat)
  case atStart =>
    obtain ⟨zs, hz1, hz2⟩ := hz0.out
    exact ⟨0, zs, rfl, by omega, hz1, hz2, ho3.out, hin3.out, hb3w.out⟩
  case round =>
    obtain ⟨k, zs, rfl, hk, hzl, hoz, hop, hip, hbl⟩ := hrel
    replace hoz := Lib.hid hoz
    replace hop := Lib.hid hop
    replace hip := Lib.hid hip
    replace hbl := Lib.hid hbl
    by_cases hlt : k < l.length
    · have hd3 : decide (k < l.length) = true := by simpa using hlt
      obtain ⟨g2, rfl, hg2a, hg2b⟩ := hg2.out (by omega)
      have hkz : k < zs.length := by omega
      have x0 : wr.cell? ⟨g2, k, none⟩ = some (.int .u8 zs[k]) := own_get hoz.out (u8s_get zs k hkz)
      have z0 : wr.frozen? ⟨g2, k, none⟩ = false := (own_put hoz.out k hlt undef).2.1
      go_wp2_with fail
      have hp := own_put hoz.out k hlt (.int .u8 ((zs[k] + b) % 256))
      rw [u8s_set] at hp
      refine ⟨⟨k + 1, zs.set k ((zs[k] + b) % 256), by go_num, by omega, by simpa using hzl, ?_, ?_, ?_, ?_⟩, by simp [intOf]; omega⟩
      · exact hp.1
      · exact ownsRow_setCell_below hop.out hg2b _
      · exact hip.out.mono (fun v l h => ownsRow_setCell_below h hg2b _)
      · exact hp.2.2 _ _ hbl.out hs1
    · have hd3 : decide (k < l.length) = false := by simpa using hlt
      have hat := Lib.hid (PartsIn.at_ hop.out hip.out (fun v l h => OwnB.slB h))
      have hbsz := hbl.out.size
      have hz := Lib.hid (strB_beq h8'.out h8'.out)
      have hz1 := hz.out.2 rfl
      have hz2 : ((strB l).toList != (strB l).toList) = false := by simp only [bne, hz1, Bool.not_true]
      clear hoz hop hip hz0
      go_wp2_with (go_at_call 24; refine (join_cut 1 0 l g3 cap3 wr hat.out h8'.out hca.out hrn hcap3).mono ?_; rintro e w4 ⟨v4, rfl, ho4, hb4⟩; obtain ⟨A4, c4, rfl, hn4, hc4, hr4, hA4, hg4⟩ := own_shape ho4; have hb4w := Lib.hid (bl_then hbl.out hbsz hb4); have s1 := str_any A4 l.length c4 l w4 rfl hr4 hA4; have s2 := str_any A l.length c l w4 rfl (hr'.out.below hb4w.out) hA'.out; replace ho4 := Lib.hid ho4; replace hg4 := Lib.hid hg4; replace hA4 := Lib.hid hA4; replace hr4 := Lib.hid hr4; replace hb4 := Lib.hid hb4)
      obtain ⟨wq, rfl⟩ : ∃ x, x = wr := ⟨_, rfl⟩
      have hs4 := hb4.out.size
      have hz4 : Hid (∃ zs : List Int, zs.length = l.length ∧ w4.ownsRow wq.heap.size 5 1 (.slice A4 l.length c4) l.length (u8s zs)) := Lib.hid ⟨l.map (fun x : Nat => (x : Int)), by simp, by rw [← bs_u8s]; exact ho4.out⟩
      clear hd3 s1 s2
      go_loopw [11] (fun i wr => ∃ (k : Nat) (zs : List Int), i = .int .i64 k ∧ k ≤ l.length ∧ zs.length = l.length ∧ wr.ownsRow wq.heap.size 5 1 (.slice A4 l.length c4) l.length (u8s zs) ∧ Below wq.heap.size wq wr) (fun i _ => l.length - (intOf i).toNat)
      case atStart =>
        obtain ⟨zs, h1, h2⟩ := hz4.out
        exact ⟨0, zs, rfl, by omega, h1, h2, hb4.out⟩
      case round =>
        obtain ⟨k2, zs, rfl, hk2, hzl, hoz, hbl2⟩ := hrel
        replace hoz := Lib.hid hoz
        replace hbl2 := Lib.hid hbl2
        by_cases hlt2 : k2 < l.length
        · have hd3 : decide (k2 < l.length) = true := by simpa using hlt2
          obtain ⟨g4, rfl, hg4a, hg4b⟩ := hg4.out (by omega)
          have hkz : k2 < zs.length := by omega
          have x0 : wr.cell? ⟨g4, k2, none⟩ = some (.int .u8 zs[k2]) := own_get hoz.out (u8s_get zs k2 hkz)
          have z0 : wr.frozen? ⟨g4, k2, none⟩ = false := (own_put hoz.out k2 hlt2 undef).2.1
          go_wp2_with fail
          have hp := own_put hoz.out k2 hlt2 (.int .u8 ((zs[k2] + b) % 256))
          rw [u8s_set] at hp
          refine ⟨⟨k2 + 1, zs.set k2 ((zs[k2] + b) % 256), by go_num, by omega, by simpa using hzl, ?_, ?_⟩, by simp [intOf]; omega⟩
          · exact hp.1
          · exact hp.2.2 _ _ hbl2.out (Nat.le_refl _)
        · have hd3 : decide (k2 < l.length) = false := by simpa using hlt2
          have hbw5 := Lib.hid (bl_then hbl.out hbsz hbl2.out)
          have hbs5 := hbw5.out.size
          clear hoz hz4
          go_wp2_with (go_at_call 24; refine (join_cut 1 0 l g3 cap3 wr (hat.out.below hbl2.out) h8'.out hca.out hrn hcap3).mono ?_; rintro e w6 ⟨v6, rfl, ho6, hb6⟩; obtain ⟨A6, c6, rfl, hn6, hc6, hr6, hA6, -⟩ := own_shape ho6; have hb6w := Lib.hid (bl_then hbw5.out hbs5 hb6); have s1 := str_any A6 l.length c6 l w6 rfl hr6 hA6; have s2 := str_any A l.length c l w6 rfl (hr'.out.below hb6w.out) hA'.out; clear ho6 hr6 hA6 hb6)
          go_ret
          exact ⟨ret_bool (by first | exact hz1 | simp), hb6w.out⟩
/-- the same, its parameters as the row has them -/
theorem sectOwn_any (w : World) (A : Option Addr) (c : Nat) (l : List Nat) (hr : Rd w A (bs l)) (h8 : Bytes8 l) (hn : l.length ≤ c) (hc : c ≤ 9223372036854775807) (hA : A = none → l.length = 0 ∧ c = 0) (b : Int) (hb : (Lit.int .u8 b).wf = true) :
    Calls Try.prog 10 #[.slice A l.length c, .int .u8 b] w fun e w' => e = .returned (.bool true) ∧ Below w.heap.size w w' := own_walk w A c l hr h8 hn hc hA b hb
end Go.Proofs.Ytjlhajnficneoaa
