/- The walks: SectCuts. -/
import Derived.Test.YtjlhajnficneoaaTe
import Derived.Deep.RegionHeld3
namespace Go.Proofs.Ytjlhajnficneoaa
set_option linter.unusedVariables false
set_option linter.unusedSimpArgs false
open Go.RowKit

/-- a slice of these bytes, in a world behind w -/
def InB (w : World) (l : List Nat) (v : Value) (wx : World) : Prop := ∃ A c, v = .slice A l.length c ∧ l.length ≤ c ∧ c ≤ 9223372036854775807 ∧ Rd wx A (bs l) ∧ (A = none → l.length = 0 ∧ c = 0) ∧ Below w.heap.size w wx
theorem in_own {w wx : World} {v : Value} {n base : Nat} {l : List Nat} (h : wx.ownsRow base 5 1 v n (bs l)) (hl : l.length = n) (hb : Below w.heap.size w wx) : InB w l v wx := by
  subst hl
  obtain ⟨A, c, e, h1, h2, h3, h4⟩ := Rd.own h
  exact ⟨A, c, e, h1, h2, h3, h4, hb⟩

/-- what a cut says: 0 it is one, 1 numbers that may not be, 2 too long -/
def codeN (gen rc : Int) (l : List Nat) : Int := if 1 ≤ gen ∧ gen ≤ 4294967295 ∧ 0 ≤ rc ∧ rc ≤ 65535 then (if recN l ≤ 255 then 0 else 2) else 1
def cutL (gen rc : Int) (l : List Nat) : List PartD := if codeN gen rc l = 0 then cutOf gen rc l else []
def PartsOf (w : World) (A : Option Addr) (ps : List PartD) : Prop := ps = [] ∨ ∃ g, A = some ⟨g, 0, none⟩ ∧ PartsAt w g ps
theorem PartsOf.below {w w' : World} {A : Option Addr} {ps : List PartD} (h : PartsOf w A ps) (hb : Below w.heap.size w w') : PartsOf w' A ps := by
  rcases h with h | ⟨g, h1, h2⟩
  · exact .inl h
  · exact .inr ⟨g, h1, h2.below hb⟩
theorem code_ok {gen rc : Int} {l : List Nat} (h : cutArg gen rc) : codeN gen rc l = if recN l ≤ 255 then 0 else 2 := if_pos h
theorem code_no {gen rc : Int} {l : List Nat} (h : ¬ cutArg gen rc) : codeN gen rc l = 1 := if_neg h
theorem code_zero {gen rc : Int} {l : List Nat} (h : codeN gen rc l = 0) : cutArg gen rc ∧ recN l ≤ 255 := by
  by_cases hc : cutArg gen rc
  · refine ⟨hc, ?_⟩
    rw [code_ok hc] at h
    split at h
    · assumption
    · cases h
  · rw [code_no hc] at h; cases h
theorem cutL_8 (gen rc : Int) (l : List Nat) (h8 : Bytes8 l) : ∀ q ∈ cutL gen rc l, Bytes8 q.data := by
  unfold cutL
  split
  · exact cut_8 gen rc l h8
  · intro q hq; simp at hq
theorem cutL_len (gen rc : Int) (l : List Nat) (h : l.length ≤ 100000) : (cutL gen rc l).length ≤ 100000 := by
  unfold cutL
  split
  · rw [cutOf_len]; unfold recN; omega
  · simp

theorem cut_all (gen rc : Int) (A : Option Addr) (c : Nat) (l : List Nat) (w : World) (hl : l.length ≤ 100000) (hr : Rd w A (bs l)) (h8 : Bytes8 l) (hc : l.length ≤ c) :
    Calls Try.prog 22 #[.int .i64 gen, .int .i64 rc, .slice A l.length c] w fun e w' => ∃ B cap, e = .returned (.tuple #[.slice B (cutL gen rc l).length cap, .int .i64 (codeN gen rc l)]) ∧ (cutL gen rc l).length ≤ cap ∧ cap ≤ 9223372036854775807 ∧ PartsOf w' B (cutL gen rc l) ∧ Below w.heap.size w w' := by
  by_cases ha : cutArg gen rc
  · by_cases hn : recN l ≤ 255
    · have e0 : codeN gen rc l = 0 := by rw [code_ok ha, if_pos hn]
      have e1 : cutL gen rc l = cutOf gen rc l := by unfold cutL; rw [if_pos e0]
      rw [e0, e1, cutOf_len]
      refine (cut_ok gen rc A c l w ha hn hr h8 hc).mono ?_
      rintro e w' ⟨v, cells, rfl, ho, hp, hb⟩
      have hp0 : 0 < recN l := by unfold recN; omega
      obtain ⟨A', cap', he, -, h63, -, -⟩ := Rd.own ho
      obtain ⟨g, cap, rfl, hcap, hg⟩ := own_some ho hp0
      cases he
      exact ⟨_, cap', rfl, hcap, h63, .inr ⟨g, rfl, PartsIn.at_ ho hp (fun v l h => OwnB.slB h)⟩, hb⟩
    · have e0 : codeN gen rc l = 2 := by rw [code_ok ha, if_neg hn]
      have e1 : cutL gen rc l = [] := by unfold cutL; rw [if_neg (by rw [e0]; decide)]
      rw [e0, e1]
      refine (cut_long gen rc A c l w ha (by omega) hl).mono ?_
      rintro e w' ⟨rfl, rfl⟩
      exact ⟨none, 0, rfl, Nat.le_refl _, by omega, .inl rfl, Below.refl _ _⟩
  · have e0 : codeN gen rc l = 1 := code_no ha
    have e1 : cutL gen rc l = [] := by unfold cutL; rw [if_neg (by rw [e0]; decide)]
    rw [e0, e1]
    refine (cut_arg gen rc A c l.length w ha hl).mono ?_
    rintro e w' ⟨rfl, rfl⟩
    exact ⟨none, 0, rfl, Nat.le_refl _, by omega, .inl rfl, Below.refl _ _⟩
theorem refcut_all (gen rc : Int) (A : Option Addr) (c : Nat) (l : List Nat) (w : World) (hl : l.length ≤ 100000) (hr : Rd w A (bs l)) (hA : A = none → l.length = 0 ∧ c = 0) :
    Calls Try.prog 23 #[.int .i64 gen, .int .i64 rc, .slice A l.length c] w fun e w' => ∃ B cap, e = .returned (.tuple #[.slice B (cutL gen rc l).length cap, .int .i64 (codeN gen rc l)]) ∧ (cutL gen rc l).length ≤ cap ∧ cap ≤ 9223372036854775807 ∧ PartsOf w' B (cutL gen rc l) ∧ Below w.heap.size w w' := by
  by_cases ha : cutArg gen rc
  · have h := refcut_walk gen rc A c l w ha hl hr hA
    rw [← code_ok ha] at h
    refine h.mono ?_
    rintro e w' ⟨v, cells, rfl, h1, h2, hb⟩
    by_cases hn : recN l ≤ 255
    · have e0 : codeN gen rc l = 0 := by rw [code_ok ha, if_pos hn]
      have e1 : cutL gen rc l = cutOf gen rc l := by unfold cutL; rw [if_pos e0]
      obtain ⟨ho, hp⟩ := h1 hn
      rw [e1, cutOf_len]
      have hp0 : 0 < recN l := by unfold recN; omega
      obtain ⟨A', cap', he, -, h63, -, -⟩ := Rd.own ho
      obtain ⟨g, cap, rfl, hcap, hg⟩ := own_some ho hp0
      cases he
      exact ⟨_, cap', rfl, hcap, h63, .inr ⟨g, rfl, PartsIn.at_ ho hp (fun v l h => OwnB.slB h)⟩, hb⟩
    · have e0 : codeN gen rc l = 2 := by rw [code_ok ha, if_neg hn]
      have e1 : cutL gen rc l = [] := by unfold cutL; rw [if_neg (by rw [e0]; decide)]
      have h3 := h2 hn
      subst h3
      rw [e1]
      exact ⟨none, 0, rfl, Nat.le_refl _, by omega, .inl rfl, hb⟩
  · have e0 : codeN gen rc l = 1 := code_no ha
    have e1 : cutL gen rc l = [] := by unfold cutL; rw [if_neg (by rw [e0]; decide)]
    rw [e0, e1]
    refine (refcut_arg gen rc A c l.length w ha).mono ?_
    rintro e w' ⟨rfl, rfl⟩
    exact ⟨none, 0, rfl, Nat.le_refl _, by omega, .inl rfl, Below.refl _ _⟩

theorem two_cells {w wx : World} {b : Nat} {u v : Int} (h : w.heap[b]? = some (.cells #[.int .i64 u, .int .i64 v] 3 (0, 0))) (hb : Below w.heap.size w wx) (k : Nat) (hk : k < 2) : ∃ y, wx.cell? ⟨b, k, none⟩ = some (.int .i64 y) := by
  have hrow := bl_row hb h
  match k, hk with
  | 0, _ => exact ⟨u, (cell_of_row _ b 0 _ 3 (0, 0) hrow).trans rfl⟩
  | 1, _ => exact ⟨v, (cell_of_row _ b 1 _ 3 (0, 0) hrow).trans rfl⟩
/-- what a cut hands back -/
def CutOut (w : World) (ps : List PartD) (cd : Int) (v e : Value) (wx : World) : Prop := ∃ B cap, v = .slice B ps.length cap ∧ e = .int .i64 cd ∧ ps.length ≤ cap ∧ cap ≤ 9223372036854775807 ∧ PartsOf wx B ps ∧ Below w.heap.size w wx
/-- ten cells -/
theorem parts_k {w : World} {B : Option Addr} {ps : List PartD} (h : PartsOf w B ps) (k : Nat) (hk : k < ps.length) : ∃ g, B = some ⟨g, 0, none⟩ ∧ PartsAt w g ps := by
  rcases h with h | h
  · subst h; simp at hk
  · exact h

set_option maxHeartbeats 8000000 in
set_option maxRecDepth 100000 in
theorem cuts_walk (w : World) (gen rc : Int) (A : Option Addr) (c : Nat) (l : List Nat) (hr : Rd w A (bs l)) (h8 : Bytes8 l) (hn : l.length ≤ c) (hc : c ≤ 9223372036854775807) (hA : A = none → l.length = 0 ∧ c = 0) (size raw : Int) :
    Calls Try.prog 6 #[.int .i64 gen, .int .i64 rc, .slice A l.length c, .int .i64 size, .int .i64 raw] w fun e w' => e = .returned (.bool true) ∧ Below w.heap.size w w' := by
  have hr' := Lib.hid hr
  have h8' := Lib.hid h8
  have hA' := Lib.hid hA
  clear hr h8 hA
  by_cases h3 : 500 < l.length
  · have hd : decide (500 < l.length) = true := by simpa using h3
    have hd2 : decide ((l.length : Int) > 500) = true := by simp; omega
    go_enter Try.func6, Try.ntmps6
    go_wp2_with (go_at_call 12; refine (known_any _).mono ?_; rintro e w1 ⟨rfl, hb1⟩)
    go_ret
    exact ⟨rfl, hb1⟩
  have hd : decide (500 < l.length) = false := by simpa using h3
  have hd2 : decide ((l.length : Int) > 500) = false := by simp; omega
  obtain ⟨Z, hZ, hZe⟩ : ∃ Z : Nat, Z ≤ 13257 ∧ Hid (size % 6 = 0 ∧ Z = 0 ∨ size % 6 = 1 ∧ Z = 48 ∨ size % 6 = 2 ∧ Z = 100 ∨ size % 6 = 3 ∧ Z = 13255 ∨ size % 6 = 4 ∧ Z = 13256 ∨ size % 6 = 5 ∧ Z = 13257) := by
    have : size % 6 = 0 ∨ size % 6 = 1 ∨ size % 6 = 2 ∨ size % 6 = 3 ∨ size % 6 = 4 ∨ size % 6 = 5 := by omega
    rcases this with e | e | e | e | e | e
    · exact ⟨0, by omega, Lib.hid (by omega)⟩
    · exact ⟨48, by omega, Lib.hid (by omega)⟩
    · exact ⟨100, by omega, Lib.hid (by omega)⟩
    · exact ⟨13255, by omega, Lib.hid (by omega)⟩
    · exact ⟨13256, by omega, Lib.hid (by omega)⟩
    · exact ⟨13257, by omega, Lib.hid (by omega)⟩
  obtain ⟨L, hL⟩ : ∃ L, l ++ List.replicate Z 0 = L := ⟨_, rfl⟩
  have hLl : L.length = l.length + Z := by rw [← hL, List.length_append, List.length_replicate]
  have hL8 : Hid (Bytes8 L) := Lib.hid (by rw [← hL]; exact h8'.out.append (fun x hx => by have := List.eq_of_mem_replicate hx; omega))
  have hLn : L.length ≤ 13757 := by omega
  replace hL := Lib.hid hL
  replace hLl := Lib.hid hLl
  go_enter Try.func6, Try.ntmps6
  go_upto_region 5 with (first
    | (go_at_call 12; refine (known_any _).mono ?_; rintro e w1 ⟨rfl, hb1⟩; replace hb1 := Lib.hid hb1; have hrw1 := Lib.hid (hr'.out.below hb1.out)))
  have hs1 := hb1.out.size
  go_cut [11] (fun v wx => InB w L v wx)
  case first =>
    have fin : ∀ Z, Hid (l ++ List.replicate Z 0 = L) → ∀ (w2 w3 : World) v3, Below w1.heap.size w1 w3 → w3.ownsRow w1.heap.size 5 1 v3 (l.length + Z) (bs l ++ zer (.int .u8 0) Z) → InB w L v3 w3 := by
      intro Z hL w2 w3 v3 hb3 ho3
      refine in_own (by rw [← hL.out, bs_append, ← zer_bs]; exact ho3) (by rw [← hL.out, List.length_append, List.length_replicate]) (bl_then hb1.out hs1 hb3)
    replace fin := Lib.hid fin
    rcases hZe.out with ⟨e, hZv⟩ | ⟨e, hZv⟩ | ⟨e, hZv⟩ | ⟨e, hZv⟩ | ⟨e, hZv⟩ | ⟨e, hZv⟩
    all_goals
      replace e := Lib.hid e
      replace hZv := Lib.hid hZv
      clear hZe
      go_wp2_with (first
        | (at_builtin; refine app_src (w0 := w1) w1.heap.size (by rfl) _ _ 22 5 (.int .u8 0) 1 1 rfl Try.underlying22 info5 rfl (by decide) (by decide) _ 0 [] rfl (own_lit w1 w1.heap.size 5 1 0 [] (Nat.le_refl _) rfl (by omega)) ((Below.refl _ _).alloc (Nat.le_refl _) _) (by simp) A l.length c (bs l) rfl (by rw [bs_length, Nat.mul_one]) (hrw1.out.below (bl_alloc (Below.refl _ _) _)) hA'.out (bs_one _) (by omega) ?_; rintro v2 w2 ho2 hb2 - -; rw [Nat.zero_add, List.nil_append] at ho2; replace ho2 := Lib.hid ho2; replace hb2 := Lib.hid hb2; have hs2 := hb2.out.size)
        | (go_at_call_of 20 (Value.int .i64 size); refine (within_any size 6 _ (by decide) (by decide)).mono ?_; rintro e' w' ⟨rfl, rfl⟩; rw [e.out])
        | (at_builtin; refine app_zeros (w0 := w1) w1.heap.size (by rfl) _ _ 22 3 5 (.int .u8 0) .i64 .i64 rfl Try.underlying22 Try.underlying3 info5 rfl rfl v2 l.length (bs l) rfl (own_below ho2.out (bl_alloc (Below.refl _ _) _)) (bl_alloc hb2.out _) (by simp <;> omega) Z (by rw [hZv.out]; rfl) (by omega) ?_; rintro v3 w3 ho3 hb3 - -; have hin := fin.out _ hL w2 w3 v3 hb3 ho3))
      go_meet
      exact hin
  case rest =>
    obtain ⟨A2, c2, rfl, hn2, hc2, hr2, hA2, hbw⟩ := hcut
    replace hr2 := Lib.hid hr2
    replace hA2 := Lib.hid hA2
    replace hbw := Lib.hid hbw
    clear hrw1 hb1 hs1 hZe hr' hA' h8' hd hd2 hL hLl
    obtain ⟨G, hG0, hG1, hGe⟩ : ∃ G : Int, 0 ≤ G ∧ G < 4294967295 ∧ gen % 4294967295 = G := ⟨gen % 4294967295, by omega, by omega, rfl⟩
    replace hGe := Lib.hid hGe
    obtain ⟨R, hR0, hR1, hRe⟩ : ∃ R : Int, 0 ≤ R ∧ R < 65538 ∧ rc % 65538 = R := ⟨rc % 65538, by omega, by omega, rfl⟩
    replace hRe := Lib.hid hRe
    have hRw : IntKind.i64.wrap (R - 1) = R - 1 := by rw [IntKind.wrap_i64]; omega
    go_upto_block 0 with (go_at_call_of 20 (Value.int .i64 gen); refine (within_any gen 4294967295 _ (by decide) (by decide)).mono ?_; rintro e w' ⟨rfl, rfl⟩; rw [hGe.out])
    have hrow := Lib.hid (heap_alloc_new wc (.cells #[.int .i64 (1 + G), .int .i64 raw] 3))
    have hBg := Lib.hid (bl_alloc hbw.out (.cells #[.int .i64 (1 + G), .int .i64 raw] 3))
    have hr2g := Lib.hid (hr2.out.below (bl_alloc (Below.refl _ _) (.cells #[.int .i64 (1 + G), .int .i64 raw] 3)))
    clear hbw hr2
    generalize hgb : wc.heap.size = gb at *
    replace hgb := Lib.hid hgb
    generalize wc.alloc (.cells #[.int .i64 (1 + G), .int .i64 raw] 3) = wg at *
    have hBgs := Lib.hid hBg.out.size
    go_wp2_with fail
    go_loopw [13] (fun i wr => ∃ k : Nat, i = .int .i64 k ∧ k ≤ 2 ∧ Below wg.heap.size wg wr) (fun i _ => 2 - (intOf i).toNat)
    case atStart => exact ⟨0, rfl, by omega, Below.refl _ _⟩
    case round =>
      obtain ⟨k2, rfl, hk, hbl⟩ := hrel
      replace hbl := Lib.hid hbl
      by_cases hlt : k2 < 2
      · have hd : decide (k2 < 2) = true := by simpa using hlt
        have hd2 : decide ((k2 : Int) < 2) = true := by simp; omega
        have i1 : (0 : Int) ≤ (k2 : Int) := by omega
        have i2 : (k2 : Int) < 2 := by omega
        obtain ⟨gk, hgk⟩ := two_cells hrow.out hbl.out k2 hlt
        have hSk : Hid (∀ w', Below wr.heap.size wr w' → w'.cell? ⟨gb, k2, none⟩ = some (.int .i64 gk)) := Lib.hid (fun w' hb => bl_cell hb hgk)
        clear hgk
        have hrL := Lib.hid (hr2g.out.below hbl.out)
        obtain ⟨ps, hps⟩ : ∃ p, cutL gk (R - 1) L = p := ⟨_, rfl⟩
        obtain ⟨cd, hcd⟩ : ∃ p, codeN gk (R - 1) L = p := ⟨_, rfl⟩
        have hps8 := Lib.hid (hps ▸ cutL_8 gk (R - 1) L hL8.out)
        have hpl : ps.length ≤ 100000 := hps ▸ cutL_len gk (R - 1) L (by omega)
        replace hps := Lib.hid hps
        replace hcd := Lib.hid hcd
        obtain ⟨wo, hwo⟩ : ∃ x, x = wr := ⟨_, rfl⟩
        subst hwo
        go_upto_region 10 with fail
        go_cut [14, 15] (fun v e wx => CutOut wo ps cd v e wx)
        case first =>
          go_region_held3 (fun w' => w'.cell? ⟨gb, k2, none⟩ = some (.int .i64 gk)) (first | exact hSk.out _ (Below.refl _ _).drew | exact hSk.out _ (bl_alloc (Below.refl _ _) _).drew | exact hSk.out _ hB5.out | exact hSk.out _ hB6.out) (first
            | (go_at_call 20; refine (within_any rc 65538 _ (by decide) (by decide)).mono ?_; rintro e' w' ⟨rfl, rfl⟩; rw [hRe.out])
            | (refine step_app wo.heap.size rfl _ _ 22 5 (.int .u8 0) 1 1 rfl Try.underlying22 info5 rfl (by decide) (by decide) (.slice (some ⟨wo.heap.size, 0, none⟩) 0 0) 0 [] rfl (own_below (own_lit wo wo.heap.size 5 1 0 [] (Nat.le_refl _) rfl (by omega)) (Below.refl _ _).drew) (by simp) A2 L.length c2 (bs L) rfl (by rw [bs_length, Nat.mul_one]) (hrL.out.below (bl_alloc (Below.refl _ _) _).drew) hA2.out (bs_one _) (by omega) ?_; rintro v5 w5 ho5 hb5 - -; rw [Nat.zero_add, List.nil_append] at ho5; obtain ⟨A5, c5, rfl, hn5, hc5, hr5, -, -⟩ := own_shape ho5; replace hr5 := Lib.hid hr5; have hB5 := Lib.hid ((bl_alloc (Below.refl _ _) _).drew.trans hb5); clear ho5 hb5)
            | (go_at_call 22; have hh := cut_all gk (R - 1) A5 c5 L w5 (by omega) hr5.out hL8.out hn5; rw [hps.out, hcd.out] at hh; refine hh.mono ?_; clear hh; rintro e w6 ⟨B6, cap6, rfl, hcap6, h636, hp6, hb6⟩; replace hp6 := Lib.hid hp6; have hB6 := Lib.hid (bl_then hB5.out hB5.out.size hb6); clear hb6))
          all_goals (go_wp2_with fail)
          all_goals go_meet
          all_goals exact ⟨B6, cap6, rfl, rfl, hcap6, h636, hp6.out, hB6.out⟩
        case rest =>
          obtain ⟨B6, cap6, rfl, rfl, hcap6, h636, hp6, hB6⟩ := hcut
          replace hp6 := Lib.hid hp6
          replace hB6 := Lib.hid hB6
          have hrLc := Lib.hid (hrL.out.below hB6.out)
          have hSk2 : Hid (∀ w', Below wc.heap.size wc w' → w'.cell? ⟨gb, k2, none⟩ = some (.int .i64 gk)) := Lib.hid (fun w' hb => bl_cell hb (hSk.out _ hB6.out))
          obtain ⟨w2, hw2⟩ : ∃ x, x = wc := ⟨_, rfl⟩
          subst hw2
          go_upto_region 11 with fail
          go_cut [16, 17] (fun v e wx => CutOut w2 ps cd v e wx)
          case first =>
            go_region_held3 (fun w' => w'.cell? ⟨gb, k2, none⟩ = some (.int .i64 gk)) (first | exact hSk2.out _ (Below.refl _ _).drew | exact hSk2.out _ hB7.out) (first
              | (go_at_call 20; refine (within_any rc 65538 _ (by decide) (by decide)).mono ?_; rintro e' w' ⟨rfl, rfl⟩; rw [hRe.out])
              | (go_at_call 23; have hh := refcut_all gk (R - 1) A2 c2 L w2.drew (by omega) (hrLc.out.below (Below.refl _ _).drew) hA2.out; rw [hps.out, hcd.out] at hh; refine hh.mono ?_; clear hh; rintro e w7 ⟨B7, cap7, rfl, hcap7, h637, hp7, hb7⟩; replace hp7 := Lib.hid hp7; have hB7 := Lib.hid (Below.trans (Below.refl _ _).drew hb7); clear hb7))
            all_goals (go_wp2_with fail)
            all_goals go_meet
            all_goals exact ⟨B7, cap7, rfl, rfl, hcap7, h637, hp7.out, hB7.out⟩
          case rest =>
            obtain ⟨B7, cap7, rfl, rfl, hcap7, h637, hp7, hB7⟩ := hcut
            have hp6c := Lib.hid (hp6.out.below hB7)
            replace hp7 := Lib.hid hp7
            have hBc := Lib.hid (bl_then hB6.out hB6.out.size hB7)
            have hrc := Lib.hid (hrLc.out.below hB7)
            clear hp6 hB6 hB7 hrLc hrL hSk hSk2
            have hBcs := Lib.hid hBc.out.size
            obtain ⟨w3, hw3⟩ : ∃ x, x = wc := ⟨_, rfl⟩
            subst hw3
            go_wp2_with fail
            go_loopw [18] (fun i wr => ∃ k : Nat, i = .int .i64 k ∧ k ≤ ps.length ∧ Below w3.heap.size w3 wr) (fun i _ => ps.length - (intOf i).toNat)
            case atStart => exact ⟨0, rfl, by omega, Below.refl _ _⟩
            case round =>
              obtain ⟨k, rfl, hkk, hbr⟩ := hrel
              replace hbr := Lib.hid hbr
              by_cases hlt3 : k < ps.length
              · have hd5 : decide (k < ps.length) = true := by simpa using hlt3
                obtain ⟨g, hBe, hP6⟩ := parts_k (hp6c.out.below hbr.out.drew) k hlt3
                obtain ⟨g9, hBe9, hP7⟩ := parts_k (hp7.out.below hbr.out.drew) k hlt3
                subst hBe hBe9
                obtain ⟨v3, hs3, y0, y1, y2, y3, y4⟩ := hP6 k hlt3
                obtain ⟨v4, hs4, z0, z1, z2, z3, z4⟩ := hP7 k hlt3
                have hq8 := Lib.hid (hps8.out ps[k] (List.getElem_mem _))
                generalize ps[k]'hlt3 = q at hs3 hs4 y0 y1 y2 y3 z0 z1 z2 z3 hq8
                have hs3' := Lib.hid hs3
                have hs4' := Lib.hid hs4
                obtain ⟨A3, c3, rfl, -⟩ := hs3
                obtain ⟨A4, c4, rfl, -⟩ := hs4
                have hSS : wr.drew.cell? ⟨g, k * 5, none⟩ = some (.int .i64 q.gen) ∧ wr.drew.cell? ⟨g, k * 5 + 1, none⟩ = some (.int .i64 q.rc) ∧ wr.drew.cell? ⟨g, k * 5 + 2, none⟩ = some (.int .i64 q.n) ∧ wr.drew.cell? ⟨g, k * 5 + 3, none⟩ = some (.int .i64 q.ofn) ∧ wr.drew.cell? ⟨g, k * 5 + 4, none⟩ = some (.slice A3 q.data.length c3) ∧ wr.drew.cell? ⟨g9, k * 5, none⟩ = some (.int .i64 q.gen) ∧ wr.drew.cell? ⟨g9, k * 5 + 1, none⟩ = some (.int .i64 q.rc) ∧ wr.drew.cell? ⟨g9, k * 5 + 2, none⟩ = some (.int .i64 q.n) ∧ wr.drew.cell? ⟨g9, k * 5 + 3, none⟩ = some (.int .i64 q.ofn) ∧ wr.drew.cell? ⟨g9, k * 5 + 4, none⟩ = some (.slice A4 q.data.length c4) := ⟨y0, y1, y2, y3, y4, z0, z1, z2, z3, z4⟩
                have hSk3 : Hid (∀ w', Below wr.drew.heap.size wr.drew w' → (w'.cell? ⟨g, k * 5, none⟩ = some (.int .i64 q.gen) ∧ w'.cell? ⟨g, k * 5 + 1, none⟩ = some (.int .i64 q.rc) ∧ w'.cell? ⟨g, k * 5 + 2, none⟩ = some (.int .i64 q.n) ∧ w'.cell? ⟨g, k * 5 + 3, none⟩ = some (.int .i64 q.ofn) ∧ w'.cell? ⟨g, k * 5 + 4, none⟩ = some (.slice A3 q.data.length c3) ∧ w'.cell? ⟨g9, k * 5, none⟩ = some (.int .i64 q.gen) ∧ w'.cell? ⟨g9, k * 5 + 1, none⟩ = some (.int .i64 q.rc) ∧ w'.cell? ⟨g9, k * 5 + 2, none⟩ = some (.int .i64 q.n) ∧ w'.cell? ⟨g9, k * 5 + 3, none⟩ = some (.int .i64 q.ofn) ∧ w'.cell? ⟨g9, k * 5 + 4, none⟩ = some (.slice A4 q.data.length c4))) := Lib.hid (fun w' hb => ⟨bl_cell hb y0, bl_cell hb y1, bl_cell hb y2, bl_cell hb y3, bl_cell hb y4, bl_cell hb z0, bl_cell hb z1, bl_cell hb z2, bl_cell hb z3, bl_cell hb z4⟩)
                clear y0 y1 y2 y3 y4 z0 z1 z2 z3 z4 hP6 hP7
                go_upto_region 17 with fail
                go_region_held3 (fun w' => w'.cell? ⟨g, k * 5, none⟩ = some (.int .i64 q.gen) ∧ w'.cell? ⟨g, k * 5 + 1, none⟩ = some (.int .i64 q.rc) ∧ w'.cell? ⟨g, k * 5 + 2, none⟩ = some (.int .i64 q.n) ∧ w'.cell? ⟨g, k * 5 + 3, none⟩ = some (.int .i64 q.ofn) ∧ w'.cell? ⟨g, k * 5 + 4, none⟩ = some (.slice A3 q.data.length c3) ∧ w'.cell? ⟨g9, k * 5, none⟩ = some (.int .i64 q.gen) ∧ w'.cell? ⟨g9, k * 5 + 1, none⟩ = some (.int .i64 q.rc) ∧ w'.cell? ⟨g9, k * 5 + 2, none⟩ = some (.int .i64 q.n) ∧ w'.cell? ⟨g9, k * 5 + 3, none⟩ = some (.int .i64 q.ofn) ∧ w'.cell? ⟨g9, k * 5 + 4, none⟩ = some (.slice A4 q.data.length c4)) (first | with_reducible exact hSS | exact hSk3.out _ hb10.out)
                  (first | (go_at_call 19; have hh := same_any q q (.slice A3 q.data.length c3) (.slice A4 q.data.length c4) wr.drew hs3'.out hs4'.out hq8.out hq8.out; simp only [PartD.val, and_self, decide_true] at hh; refine hh.mono ?_; clear hh; rintro e w10 ⟨rfl, hb10⟩; replace hb10 := Lib.hid hb10))
                go_wp2_with fail
                exact ⟨⟨k + 1, by go_num, by omega, bl_then hbr.out.drew hbr.out.size hb10.out⟩, by simp [intOf]; omega⟩
              · have hd5 : decide (k < ps.length) = false := by simpa using hlt3
                have hBr := Lib.hid (bl_then hbl.out hbl.out.size (bl_then hBc.out hBcs.out hbr.out))
                by_cases hz : cd = 0
                · have q1 : (cd == 0) = true := by simpa using hz
                  obtain ⟨hca, hrn⟩ := code_zero (hcd.out.trans hz)
                  have hcut : cutOf gk (R - 1) L = ps := by
                    have := hps.out
                    unfold cutL at this
                    rw [if_pos (hcd.out.trans hz)] at this
                    exact this
                  have hlen : recN L = ps.length := by rw [← hcut, cutOf_len]
                  have hrp : 0 < recN L := by unfold recN; omega
                  obtain ⟨g, hBe, hP6⟩ := parts_k (hp6c.out.below hbr.out) 0 (by omega)
                  subst hBe
                  have hj := join_cut gk (R - 1) L g cap6 wr (by rw [hcut]; exact hP6) hL8.out hca hrn (by omega)
                  rw [hlen] at hj
                  replace hj := Lib.hid hj
                  have hrr := Lib.hid (hrc.out.below hbr.out)
                  have hz1 := (strB_beq hL8.out hL8.out).2 rfl
                  have hz2 : ((strB L).toList != (strB L).toList) = false := by simp only [bne, hz1, Bool.not_true]
                  clear hcut hlen hrp hP6 hca hrn
                  subst hz
                  go_wp2_with (go_at_call 24; refine hj.out.mono ?_; rintro e w5 ⟨v5, rfl, ho5, hb5⟩; obtain ⟨A5, c5, rfl, hn5, hc5, hr5, hA5, -⟩ := own_shape ho5; have hb5w := Lib.hid (bl_then hBr.out hBr.out.size hb5); have s1 := str_any A5 L.length c5 L w5 rfl hr5 hA5; have s2 := str_any A2 L.length c2 L w5 rfl (hrr.out.below hb5) hA2.out; clear ho5 hr5 hA5 hb5)
                  exact ⟨⟨k2 + 1, by go_num, by omega, hb5w.out⟩, by simp [intOf]; omega⟩
                · have q1 : (cd == 0) = false := by simpa using hz
                  have q2 : (cd != 0) = true := by simp only [bne, q1, Bool.not_false]
                  replace hz := Lib.hid hz
                  go_wp2_with fail
                  exact ⟨⟨k2 + 1, by go_num, by omega, hBr.out⟩, by simp [intOf]; omega⟩
      · have hd : decide (k2 < 2) = false := by simpa using hlt
        have hd2 : decide ((k2 : Int) < 2) = false := by simp; omega
        go_wp2_with fail
        go_ret
        exact ⟨rfl, bl_then hBg.out hBgs.out hbl.out⟩
/-- the same, its parameters as the row has them -/
theorem sectCuts_any (w : World) (gen : Int) (h0 : (Lit.int .i64 gen).wf = true) (rc : Int) (h1 : (Lit.int .i64 rc).wf = true)
    (A : Option Addr) (c : Nat) (l : List Nat) (hr : Rd w A (bs l)) (h8 : Bytes8 l) (hn : l.length ≤ c) (hc : c ≤ 9223372036854775807) (hA : A = none → l.length = 0 ∧ c = 0)
    (size : Int) (h3 : (Lit.int .i64 size).wf = true) (raw : Int) (h4 : (Lit.int .i64 raw).wf = true) :
    Calls Try.prog 6 #[.int .i64 gen, .int .i64 rc, .slice A l.length c, .int .i64 size, .int .i64 raw] w fun e w' => e = .returned (.bool true) ∧ Below w.heap.size w w' :=
  cuts_walk w gen rc A c l hr h8 hn hc hA size raw
end Go.Proofs.Ytjlhajnficneoaa
