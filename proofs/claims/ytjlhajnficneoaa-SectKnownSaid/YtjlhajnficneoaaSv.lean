/- The walks: sect.Join. -/
import Derived.Test.YtjlhajnficneoaaSu
import Derived.Deep.RegionHeld3
namespace Go.Proofs.Ytjlhajnficneoaa
set_option linter.unusedVariables false
set_option linter.unusedSimpArgs false
open Go.RowKit

/-- Parts that lie from a block's beginning on, and can be read -/
def PartsAt (w : World) (g : Nat) (ps : List PartD) : Prop := ∀ i, ∀ h : i < ps.length, ∃ v, SlB w v ps[i].data ∧
  w.cell? ⟨g, i * 5, none⟩ = some (.int .i64 ps[i].gen) ∧ w.cell? ⟨g, i * 5 + 1, none⟩ = some (.int .i64 ps[i].rc) ∧ w.cell? ⟨g, i * 5 + 2, none⟩ = some (.int .i64 ps[i].n) ∧ w.cell? ⟨g, i * 5 + 3, none⟩ = some (.int .i64 ps[i].ofn) ∧ w.cell? ⟨g, i * 5 + 4, none⟩ = some v
theorem PartsAt.below {w w' : World} {g : Nat} {ps : List PartD} (h : PartsAt w g ps) (hb : Below w.heap.size w w') : PartsAt w' g ps := by
  intro i hi
  obtain ⟨v, h0, h1, h2, h3, h4, h5⟩ := h i hi
  exact ⟨v, h0.below hb, bl_cell hb h1, bl_cell hb h2, bl_cell hb h3, bl_cell hb h4, bl_cell hb h5⟩
theorem PartsIn.at_ {w : World} {base n : Nat} {e : TypeId} {g cap : Nat} {cells : List Value} {ps : List PartD} {R : Value → List Nat → Prop} (h : w.ownsRow base e 5 (.slice (some ⟨g, 0, none⟩) n cap) n cells) (hp : PartsIn R cells ps) (hR : ∀ v l, R v l → SlB w v l) : PartsAt w g ps := by
  intro i hi
  obtain ⟨v, h0, h1, h2, h3, h4, h5⟩ := hp i hi
  rw [Nat.mul_comm] at h1 h2 h3 h4 h5
  exact ⟨v, hR _ _ h0, own_get h h1, own_get h h2, own_get h h3, own_get h h4, own_get h h5⟩

def joinAll (ps : List PartD) : List Nat := ps.flatMap (·.data)
def joinN (ps : List PartD) : Nat := num ((joinAll ps).take 4)
def joinB (ps : List PartD) : List Nat := ((joinAll ps).drop 4).take (joinN ps)
def JoinOk (p0 : PartD) (ps : List PartD) : Prop := 4 ≤ p0.data.length ∧ joinN ps + 4 ≤ (joinAll ps).length ∧ cutArg p0.gen p0.rc ∧ recN (joinB ps) ≤ 255 ∧ cutOf p0.gen p0.rc (joinB ps) = ps
theorem joinAll_snoc (ps : List PartD) (k : Nat) (h : k < ps.length) : joinAll (ps.take (k + 1)) = joinAll (ps.take k) ++ ps[k].data := by
  unfold joinAll
  rw [List.take_succ_eq_append_getElem h, List.flatMap_append]
  simp
theorem joinAll_le (ps : List PartD) (k : Nat) : (joinAll (ps.take k)).length ≤ (joinAll ps).length := by
  have : joinAll ps = joinAll (ps.take k) ++ joinAll (ps.drop k) := by
    unfold joinAll
    rw [← List.flatMap_append, List.take_append_drop]
  rw [this, List.length_append]
  omega
theorem joinAll_8 (ps : List PartD) (h : ∀ p ∈ ps, Bytes8 p.data) : Bytes8 (joinAll ps) := by
  intro x hx
  obtain ⟨p, hp, hx⟩ := List.mem_flatMap.1 hx
  exact h p hp x hx

theorem part_eq {p q : PartD} (h1 : p.gen = q.gen) (h2 : p.rc = q.rc) (h3 : p.n = q.n) (h4 : p.ofn = q.ofn) (h5 : p.data = q.data) : p = q := by
  cases p; cases q; simp_all

set_option maxHeartbeats 4000000 in
set_option maxRecDepth 100000 in
theorem join_walk (ps : List PartD) (p0 : PartD) (g c : Nat) (w : World) (hat : PartsAt w g ps) (h8 : ∀ p ∈ ps, Bytes8 p.data) (h0 : ps[0]? = some p0) (hsz : (joinAll ps).length ≤ 100000) (hcl : ps.length ≤ c) (hps : ps.length ≤ 100000) :
    Calls Try.prog 24 #[.slice (some ⟨g, 0, none⟩) ps.length c] w fun e w' => ∃ v ok, e = .returned (.tuple #[v, .bool ok]) ∧ (ok = true ↔ JoinOk p0 ps) ∧ (ok = true → OwnB w' w.heap.size v (joinB ps)) ∧ (ok = false → v = .slice none 0 0) ∧ Below w.heap.size w w' := by
  obtain ⟨hpos, hp0⟩ := List.getElem?_eq_some_iff.1 h0
  have hat' := Lib.hid hat
  have h8' := Lib.hid h8
  have hp0' := Lib.hid hp0
  obtain ⟨v0, hs0, x0, x1, x2, x3, x4⟩ := hat 0 hpos
  rw [hp0] at hs0 x0 x1 x2 x3
  obtain ⟨A0, c0, rfl, -⟩ := hs0
  simp only [Nat.zero_mul, Nat.zero_add] at x0 x1 x2 x3 x4
  clear hat h8 hp0 h0
  have hne : ((ps.length : Int) == 0) = false := by rw [beq_eq_false_iff_ne]; omega
  by_cases hlt : p0.data.length < 4
  · have hd : decide (p0.data.length < 4) = true := by simpa using hlt
    have hd2 : decide ((p0.data.length : Int) < 4) = true := by simp; omega
    go_enter Try.func24, Try.ntmps24
    go_wp2_with fail
    go_ret2
    exact ⟨_, false, rfl, ⟨(fun h => by cases h), (fun h => absurd h.1 (by omega))⟩, (fun h => by cases h), (fun _ => rfl), Below.refl _ _⟩
  have hd : decide (p0.data.length < 4) = false := by simpa using hlt
  have hd2 : decide ((p0.data.length : Int) < 4) = false := by simp; omega
  go_enter Try.func24, Try.ntmps24
  go_wp2_with fail
  replace hsz := Lib.hid hsz
  have hkk := Lib.hid (fun k => joinAll_le ps k)
  go_loopw [4, 25] (fun v i wr => ∃ (k : Nat), i = .int .i64 k ∧ k ≤ ps.length ∧ OwnB wr w.heap.size v (joinAll (ps.take k)) ∧ Below w.heap.size w wr) (fun _ i _ => ps.length - (intOf i).toNat)
  case atStart => exact ⟨0, rfl, by omega, own_nil _ _ _ _, Below.refl _ _⟩
  case round =>
    obtain ⟨k, rfl, hk, hown, hbel⟩ := hrel
    have hown' := Lib.hid hown
    have hbel' := Lib.hid hbel
    have hbsz := hbel.size
    clear hown hbel
    by_cases hlt : k < ps.length
    · have hd3 : decide (k < ps.length) = true := by simpa using hlt
      obtain ⟨vk, hsk, y0, y1, y2, y3, y4⟩ := (hat'.out.below hbel'.out) k hlt
      obtain ⟨Ak, ck, rfl, hrk, hAk⟩ := hsk
      replace hrk := Lib.hid hrk
      replace hAk := Lib.hid hAk
      have hm : ((joinAll (ps.take k)).length + ps[k].data.length) * 1 ≤ 140737488355328 := by
        have h1 := hkk.out (k + 1)
        rw [joinAll_snoc ps k hlt, List.length_append] at h1
        have := hsz.out
        omega
      go_wp2_with (at_builtin; refine app_src (w0 := w) w.heap.size (by rfl) _ _ 22 5 (.int .u8 0) 1 1 rfl Try.underlying22 info5 rfl (by decide) (by decide) _ _ _ rfl (hown'.out.below (bl_alloc (Below.refl _ _) _)) (bl_alloc hbel'.out _) (by simp; omega) Ak ps[k].data.length ck (bs ps[k].data) rfl (by rw [bs_length, Nat.mul_one]) (hrk.out.below (bl_alloc (Below.refl _ _) _)) hAk.out (bs_one _) hm ?_; rintro v6 w6 hown6 hb6 - -)
      refine ⟨⟨k + 1, by go_num, by omega, ?_, hb6⟩, by simp [intOf]; omega⟩
      rw [joinAll_snoc ps k hlt]
      unfold OwnB
      rw [List.length_append, bs_append]
      exact hown6
    · have hd3 : decide (k < ps.length) = false := by simpa using hlt
      have hks : k = ps.length := by omega
      subst hks
      have hall : joinAll (ps.take ps.length) = joinAll ps := by rw [List.take_length]
      rw [hall] at hown'
      have hpre : p0.data.length ≤ (joinAll ps).length := by
        have h1 := hkk.out 1
        have h2 := joinAll_snoc ps 0 hpos
        rw [hp0'.out] at h2
        rw [h2, List.length_append] at h1
        omega
      have hNb : joinN ps < 4294967296 := by
        have h1 := num_lt ((joinAll ps).take 4) ((joinAll_8 ps h8'.out).take 4)
        have h2 : ((joinAll ps).take 4).length = 4 := by rw [List.length_take]; omega
        rw [h2] at h1
        exact h1
      have hLb := hsz.out
      obtain ⟨g4, cap4, rfl, hcap4, hg4⟩ := own_some hown'.out (by omega)
      have hr4 : Hid (Rd wr (some ⟨g4, 0, none⟩) (bs (joinAll ps))) := Lib.hid (by obtain ⟨A', c', e, -, -, h, -⟩ := Rd.own hown'.out; cases e; exact h)
      have hcm4 : cap4 ≤ 9223372036854775807 := by obtain ⟨A', c', e, -, h, -⟩ := Rd.own hown'.out; cases e; exact h
      have h4l : Hid (((joinAll ps).take 4).length = 4) := Lib.hid (by rw [List.length_take]; omega)
      have hN' : Hid (num ((joinAll ps).take 4) = joinN ps) := Lib.hid rfl
      obtain ⟨L, hL⟩ : ∃ L, L = (joinAll ps).length := ⟨_, rfl⟩
      rw [← hL] at hpre hLb hcap4 ⊢
      have hL' := Lib.hid hL
      clear hL hall hown' hkk
      generalize hN : joinN ps = N at hNb hN'
      replace hN := Lib.hid hN
      have c4 : (4 : Int) ≤ (cap4 : Int) := by omega
      go_upto_region 10 with (go_at_call 29; refine (told_any (some ⟨g4, 0, none⟩) 4 cap4 ((joinAll ps).take 4) _ h4l.out (by have := hr4.out.take 4; simpa [bs, enc, List.map_take] using this) ((joinAll_8 ps h8'.out).take 4) (by decide)).mono ?_; rintro e w' ⟨rfl, rfl⟩; rw [hN'.out])
      by_cases hj : N + 4 ≤ L
      · skip
        have hd4 : decide (L - 4 < N) = false := by simp; omega
        have hd5 : decide ((L : Int) - 4 < (N : Int)) = false := by simp; omega
        go_upto_region 12 with fail
        go_cut [8] (fun v wx => OwnB wx w.heap.size v (joinB ps) ∧ Below w.heap.size w wx)
        case first =>
          have hNL : (4 : Int) + (N : Int) ≤ (cap4 : Int) := by omega
          by_cases hc4 : cap4 = 4
          · have hN0 : N = 0 := by omega
            subst hN0 hc4
            have hB : joinB ps = [] := by unfold joinB; rw [hN.out]; rfl
            go_wp2_with (go_at_call 30; refine (clone_any (some ⟨g4, 0, none⟩) 0 0 [] wr rfl (Rd.nil _ _) (fun e => by cases e) (by decide)).mono ?_; rintro e w5 ⟨v5, rfl, hown5, hb5⟩)
            go_meet
            rw [hB]
            exact ⟨own_weaken hown5 hbsz, bl_then hbel'.out hbsz hb5⟩
          · have hBl : Hid ((joinB ps).length = N) := Lib.hid (by unfold joinB; rw [hN.out, List.length_take, List.length_drop, ← hL'.out]; omega)
            have hrB : Hid (Rd wr (some ⟨g4, 4, none⟩) (bs (joinB ps))) := Lib.hid (by
              have := (hr4.out.drop 4).take N
              unfold joinB
              rw [hN.out]
              simpa [bs, enc, List.map_take, List.map_drop] using this)
            go_wp2_with (go_at_call 30; refine (clone_any (some ⟨g4, 4, none⟩) N (cap4 - 4) (joinB ps) wr hBl.out hrB.out (fun e => by cases e) (by omega)).mono ?_; rintro e w5 ⟨v5, rfl, hown5, hb5⟩)
            go_meet
            exact ⟨by unfold OwnB; rw [hBl.out]; exact own_weaken hown5 hbsz, bl_then hbel'.out hbsz hb5⟩
        case rest =>
          obtain ⟨hown8, hbel8⟩ := hcut
          have hBn : (joinB ps).length ≤ 100000 := by unfold joinB; rw [List.length_take, List.length_drop, ← hL'.out]; omega
          have hB8 : Hid (Bytes8 (joinB ps)) := Lib.hid (((joinAll_8 ps h8'.out).drop 4).take _)
          obtain ⟨A8, c8, rfl, hlc8, hcm8, hr8, hA8⟩ := Rd.own hown8
          have hown8' := Lib.hid hown8
          have hbel8' := Lib.hid hbel8
          have hsz8 := hbel8.size
          have hr8' := Lib.hid hr8
          have hA8' := Lib.hid hA8
          clear hown8 hbel8 hr8 hA8 hd4 hd5
          have hS : Hid (∀ w1, Below w.heap.size w w1 → w1.cell? ⟨g, 0, none⟩ = some (.int .i64 p0.gen) ∧ w1.cell? ⟨g, 1, none⟩ = some (.int .i64 p0.rc)) := Lib.hid (fun w1 hb => ⟨bl_cell hb x0, bl_cell hb x1⟩)
          have hSd := hS.out _ hbel8'.out.drew
          go_upto_region 13 with fail
          by_cases hca : cutArg p0.gen p0.rc
          · by_cases hlg : 255 < recN (joinB ps)
            · replace hca := Lib.hid hca
              go_region_held3 (fun w' => w'.cell? ⟨g, 0, none⟩ = some (.int .i64 p0.gen) ∧ w'.cell? ⟨g, 1, none⟩ = some (.int .i64 p0.rc)) (first | with_reducible exact hSd)
                (first | (go_at_call 22; refine (cut_long p0.gen p0.rc A8 c8 (joinB ps) _ hca.out hlg hBn).mono ?_; rintro e w' ⟨rfl, rfl⟩))
              all_goals (go_wp2_with fail)
              all_goals go_ret2
              all_goals exact ⟨_, false, rfl, ⟨(fun h => by cases h), (fun h => absurd h.2.2.2.1 (by omega))⟩, (fun h => by cases h), (fun _ => rfl), hbel8'.out.drew⟩
            · have hlg' : recN (joinB ps) ≤ 255 := by omega
              have hrp : 0 < recN (joinB ps) := by unfold recN; omega
              replace hca := Lib.hid hca
              go_region_held3 (fun w' => w'.cell? ⟨g, 0, none⟩ = some (.int .i64 p0.gen) ∧ w'.cell? ⟨g, 1, none⟩ = some (.int .i64 p0.rc)) (first | with_reducible exact hSd | exact hS.out _ hb9.out)
                (first | (go_at_call 22; refine (cut_ok p0.gen p0.rc A8 c8 (joinB ps) _ hca.out hlg' (hr8'.out.below (Below.refl _ _).drew) hB8.out hlc8).mono ?_; rintro e w9 ⟨v9, cells, rfl, hown9, hin9, hb9⟩; have hb9c := Lib.hid ((Below.refl wc.heap.size wc).drew.trans hb9); replace hb9 := Lib.hid (bl_then hbel8'.out.drew hsz8 hb9); obtain ⟨g9, cap9, rfl, hcap9, hg9⟩ := own_some hown9 hrp; replace hown9 := Lib.hid hown9; replace hin9 := Lib.hid hin9))
              clear hSd
              replace hN := Lib.hid (show joinN ps + 4 ≤ (joinAll ps).length by rw [hN.out, ← hL'.out]; exact hj)
              by_cases hln : recN (joinB ps) = ps.length
              · rw [hln] at hown9 hcap9 ⊢
                have hm1 : ((ps.length : Int) == (ps.length : Int)) = true := by simp
                have hat9 := Lib.hid (PartsIn.at_ hown9.out hin9.out (fun v l h => OwnB.slB h))
                have hcl : Hid ((cutOf p0.gen p0.rc (joinB ps)).length = ps.length) := Lib.hid (by rw [cutOf_len]; exact hln)
                have hq8 : Hid (∀ q ∈ cutOf p0.gen p0.rc (joinB ps), Bytes8 q.data) := Lib.hid (fun q hq => by
                  unfold cutOf at hq
                  simp only [List.mem_map] at hq
                  obtain ⟨i, -, rfl⟩ := hq
                  exact ((full_8 hB8.out).drop _).take _)
                replace hln := Lib.hid hln
                replace hlg := Lib.hid hlg'
                have hs9 := hb9.out.size
                go_wp2_with fail
                go_loopw [71] (fun i wr2 => ∃ (k : Nat), i = .int .i64 k ∧ k ≤ ps.length ∧ (cutOf p0.gen p0.rc (joinB ps)).take k = ps.take k ∧ Below w9.heap.size w9 wr2) (fun i _ => ps.length - (intOf i).toNat)
                case atStart => exact ⟨0, rfl, by omega, by simp, Below.refl _ _⟩
                case round =>
                  obtain ⟨k, rfl, hk, hpre2, hbl2⟩ := hrel
                  replace hpre2 := Lib.hid hpre2
                  have hbsz2 := hbl2.size
                  have hb2w := Lib.hid (bl_then hb9.out hs9 hbl2)
                  replace hbl2 := Lib.hid hbl2
                  by_cases hlt2 : k < ps.length
                  · have hd3 : decide (k < ps.length) = true := by simpa using hlt2
                    have hkc : k < (cutOf p0.gen p0.rc (joinB ps)).length := by rw [hcl.out]; exact hlt2
                    obtain ⟨v1, hs1, y0, y1, y2, y3, y4⟩ := (hat'.out.below hb2w.out.drew) k hlt2
                    obtain ⟨v2, hs2, z0, z1, z2, z3, z4⟩ := (hat9.out.below hbl2.out.drew) k hkc
                    have hp8 := Lib.hid (h8'.out ps[k] (List.getElem_mem _))
                    have hq8k := Lib.hid (hq8.out _ (List.getElem_mem hkc))
                    generalize hq : (cutOf p0.gen p0.rc (joinB ps))[k] = q at hs2 z0 z1 z2 z3 hq8k
                    replace hq := Lib.hid hq
                    have hs1' := Lib.hid hs1
                    have hs2' := Lib.hid hs2
                    obtain ⟨A1, c1, rfl, -⟩ := hs1
                    obtain ⟨A2, c2, rfl, -⟩ := hs2
                    have hSS : wr.drew.cell? ⟨g, k * 5, none⟩ = some (.int .i64 ps[k].gen) ∧ wr.drew.cell? ⟨g, k * 5 + 1, none⟩ = some (.int .i64 ps[k].rc) ∧ wr.drew.cell? ⟨g, k * 5 + 2, none⟩ = some (.int .i64 ps[k].n) ∧ wr.drew.cell? ⟨g, k * 5 + 3, none⟩ = some (.int .i64 ps[k].ofn) ∧ wr.drew.cell? ⟨g, k * 5 + 4, none⟩ = some (.slice A1 ps[k].data.length c1) ∧ wr.drew.cell? ⟨g9, k * 5, none⟩ = some (.int .i64 q.gen) ∧ wr.drew.cell? ⟨g9, k * 5 + 1, none⟩ = some (.int .i64 q.rc) ∧ wr.drew.cell? ⟨g9, k * 5 + 2, none⟩ = some (.int .i64 q.n) ∧ wr.drew.cell? ⟨g9, k * 5 + 3, none⟩ = some (.int .i64 q.ofn) ∧ wr.drew.cell? ⟨g9, k * 5 + 4, none⟩ = some (.slice A2 q.data.length c2) := ⟨y0, y1, y2, y3, y4, z0, z1, z2, z3, z4⟩
                    have hSk : Hid (∀ w', Below wr.drew.heap.size wr.drew w' → (w'.cell? ⟨g, k * 5, none⟩ = some (.int .i64 ps[k].gen) ∧ w'.cell? ⟨g, k * 5 + 1, none⟩ = some (.int .i64 ps[k].rc) ∧ w'.cell? ⟨g, k * 5 + 2, none⟩ = some (.int .i64 ps[k].n) ∧ w'.cell? ⟨g, k * 5 + 3, none⟩ = some (.int .i64 ps[k].ofn) ∧ w'.cell? ⟨g, k * 5 + 4, none⟩ = some (.slice A1 ps[k].data.length c1) ∧ w'.cell? ⟨g9, k * 5, none⟩ = some (.int .i64 q.gen) ∧ w'.cell? ⟨g9, k * 5 + 1, none⟩ = some (.int .i64 q.rc) ∧ w'.cell? ⟨g9, k * 5 + 2, none⟩ = some (.int .i64 q.n) ∧ w'.cell? ⟨g9, k * 5 + 3, none⟩ = some (.int .i64 q.ofn) ∧ w'.cell? ⟨g9, k * 5 + 4, none⟩ = some (.slice A2 q.data.length c2))) := Lib.hid (fun w' hb => ⟨bl_cell hb y0, bl_cell hb y1, bl_cell hb y2, bl_cell hb y3, bl_cell hb y4, bl_cell hb z0, bl_cell hb z1, bl_cell hb z2, bl_cell hb z3, bl_cell hb z4⟩)
                    clear y0 y1 y2 y3 y4 z0 z1 z2 z3 z4
                    go_upto_region 19 with fail
                    by_cases hsm : ps[k].gen = q.gen ∧ ps[k].rc = q.rc ∧ ps[k].n = q.n ∧ ps[k].ofn = q.ofn ∧ ps[k].data = q.data
                    · have hdec := decide_eq_true hsm
                      have hqp : Hid (ps[k] = q) := Lib.hid (part_eq hsm.1 hsm.2.1 hsm.2.2.1 hsm.2.2.2.1 hsm.2.2.2.2)
                      replace hdec := hdec
                      clear hsm
                      go_region_held3 (fun w' => w'.cell? ⟨g, k * 5, none⟩ = some (.int .i64 ps[k].gen) ∧ w'.cell? ⟨g, k * 5 + 1, none⟩ = some (.int .i64 ps[k].rc) ∧ w'.cell? ⟨g, k * 5 + 2, none⟩ = some (.int .i64 ps[k].n) ∧ w'.cell? ⟨g, k * 5 + 3, none⟩ = some (.int .i64 ps[k].ofn) ∧ w'.cell? ⟨g, k * 5 + 4, none⟩ = some (.slice A1 ps[k].data.length c1) ∧ w'.cell? ⟨g9, k * 5, none⟩ = some (.int .i64 q.gen) ∧ w'.cell? ⟨g9, k * 5 + 1, none⟩ = some (.int .i64 q.rc) ∧ w'.cell? ⟨g9, k * 5 + 2, none⟩ = some (.int .i64 q.n) ∧ w'.cell? ⟨g9, k * 5 + 3, none⟩ = some (.int .i64 q.ofn) ∧ w'.cell? ⟨g9, k * 5 + 4, none⟩ = some (.slice A2 q.data.length c2)) (first | with_reducible exact hSS | exact hSk.out _ hb10.out)
                        (first | (go_at_call 34; have hh := same34_any ps[k] q (.slice A1 ps[k].data.length c1) (.slice A2 q.data.length c2) wr.drew hs1'.out hs2'.out hp8.out hq8k.out; simp only [PartD.val] at hh; rw [hdec] at hh; refine hh.mono ?_; clear hh; rintro e w10 ⟨rfl, hb10⟩; replace hb10 := Lib.hid hb10))
                      go_wp2_with fail
                      refine ⟨⟨k + 1, by go_num, by omega, ?_, bl_then hbl2.out.drew hbsz2 hb10.out⟩, by simp [intOf]; omega⟩
                      rw [List.take_succ_eq_append_getElem hkc, List.take_succ_eq_append_getElem hlt2, hpre2.out, hq.out, hqp.out]
                    · have hdec := decide_eq_false hsm
                      replace hsm := Lib.hid hsm
                      go_region_held3 (fun w' => w'.cell? ⟨g, k * 5, none⟩ = some (.int .i64 ps[k].gen) ∧ w'.cell? ⟨g, k * 5 + 1, none⟩ = some (.int .i64 ps[k].rc) ∧ w'.cell? ⟨g, k * 5 + 2, none⟩ = some (.int .i64 ps[k].n) ∧ w'.cell? ⟨g, k * 5 + 3, none⟩ = some (.int .i64 ps[k].ofn) ∧ w'.cell? ⟨g, k * 5 + 4, none⟩ = some (.slice A1 ps[k].data.length c1) ∧ w'.cell? ⟨g9, k * 5, none⟩ = some (.int .i64 q.gen) ∧ w'.cell? ⟨g9, k * 5 + 1, none⟩ = some (.int .i64 q.rc) ∧ w'.cell? ⟨g9, k * 5 + 2, none⟩ = some (.int .i64 q.n) ∧ w'.cell? ⟨g9, k * 5 + 3, none⟩ = some (.int .i64 q.ofn) ∧ w'.cell? ⟨g9, k * 5 + 4, none⟩ = some (.slice A2 q.data.length c2)) (first | with_reducible exact hSS | exact hSk.out _ hb10.out)
                        (first | (go_at_call 34; have hh := same34_any ps[k] q (.slice A1 ps[k].data.length c1) (.slice A2 q.data.length c2) wr.drew hs1'.out hs2'.out hp8.out hq8k.out; simp only [PartD.val] at hh; rw [hdec] at hh; refine hh.mono ?_; clear hh; rintro e w10 ⟨rfl, hb10⟩; replace hb10 := Lib.hid hb10))
                      go_wp2_with fail
                      go_ret2
                      refine ⟨_, false, rfl, ⟨(fun h => by cases h), (fun h => absurd ?_ hsm.out)⟩, (fun h => by cases h), (fun _ => rfl), bl_then hb2w.out.drew (by have := hb2w.out.size; exact this) hb10.out⟩
                      have h1 := h.2.2.2.2
                      have h2 : ps[k] = q := by rw [← hq.out]; simp only [h1]
                      rw [h2]
                      exact ⟨rfl, rfl, rfl, rfl, rfl⟩
                  · have hd3 : decide (k < ps.length) = false := by simpa using hlt2
                    have hke : k = ps.length := by omega
                    subst hke
                    go_wp2_with fail
                    go_ret2
                    refine ⟨_, true, rfl, ⟨(fun _ => ⟨by omega, hN.out, hca.out, hlg.out, ?_⟩), (fun _ => rfl)⟩, (fun _ => hown8'.out.below (bl_then hb9c.out hb9c.out.size hbl2.out)), (fun h => by cases h), hb2w.out⟩
                    have h1 := hpre2.out
                    rwa [List.take_length, List.take_of_length_le (by rw [hcl.out]; exact Nat.le_refl _)] at h1
              · have hm1 : ((recN (joinB ps) : Int) == (ps.length : Int)) = false := by rw [beq_eq_false_iff_ne]; omega
                have hm2 : ((recN (joinB ps) : Int) != (ps.length : Int)) = true := by simp only [bne, hm1, Bool.not_false]
                go_wp2_with fail
                go_ret2
                exact ⟨_, false, rfl, ⟨(fun h => by cases h), (fun h => absurd (by have := congrArg List.length h.2.2.2.2; rwa [cutOf_len] at this) hln)⟩, (fun h => by cases h), (fun _ => rfl), hb9.out⟩
          · replace hca := Lib.hid hca
            go_region_held3 (fun w' => w'.cell? ⟨g, 0, none⟩ = some (.int .i64 p0.gen) ∧ w'.cell? ⟨g, 1, none⟩ = some (.int .i64 p0.rc)) (first | with_reducible exact hSd)
              (first | (go_at_call 22; refine (cut_arg p0.gen p0.rc A8 c8 (joinB ps).length _ hca.out hBn).mono ?_; rintro e w' ⟨rfl, rfl⟩))
            all_goals (go_wp2_with fail)
            all_goals go_ret2
            all_goals exact ⟨_, false, rfl, ⟨(fun h => by cases h), (fun h => absurd h.2.2.1 hca.out)⟩, (fun h => by cases h), (fun _ => rfl), hbel8'.out.drew⟩
      · have hd4 : decide (L - 4 < N) = true := by simp; omega
        have hd5 : decide ((L : Int) - 4 < (N : Int)) = true := by simp; omega
        go_wp2_with fail
        go_ret2
        exact ⟨_, false, rfl, ⟨(fun h => by cases h), (fun h => absurd h.2.1 (by rw [hN.out, ← hL'.out]; omega))⟩, (fun h => by cases h), (fun _ => rfl), hbel'.out⟩
end Go.Proofs.Ytjlhajnficneoaa
