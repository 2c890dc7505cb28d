/-
  The walk of slices' merge in place.
-/
import Derived.Test.YtdhklfbelplbcaaZ35
namespace Go.Proofs.Ytdhklfbelplbcaa
set_option linter.unusedVariables false
set_option linter.unusedSimpArgs false
open Go.RowKit

theorem rotR_same {f : Nat → Nat} {s m e : Nat} (h : s = m ∨ m = e) : rotR f s m e = f := by
  funext p
  unfold rotR
  rcases h with h | h
  · subst h
    by_cases c : s ≤ p ∧ p < s + (e - s)
    · rw [if_pos c, Nat.sub_self]; rfl
    · rw [if_neg c]
      by_cases c2 : s + (e - s) ≤ p ∧ p < e
      · omega
      · rw [if_neg c2]
  · subst h
    rw [if_neg (by omega)]
    by_cases c2 : s + (m - m) ≤ p ∧ p < m
    · rw [if_pos c2, Nat.sub_self]; rfl
    · rw [if_neg c2]

/-- the ends of the search -/
def MgEnds (a m b mid s0 r0 : Nat) : Prop := mid = (a + b) / 2 ∧ a + 1 < m ∧ m + 1 < b ∧ ((mid < m ∧ s0 = mid + m - b ∧ r0 = mid) ∨ (m ≤ mid ∧ s0 = a ∧ r0 = m))
theorem MgEnds.range {a m b mid s0 r0 c : Nat} (h : MgEnds a m b mid s0 r0) (h1 : s0 ≤ c) (h2 : c < r0) : a ≤ c ∧ c < m ∧ m ≤ mid + m - 1 - c ∧ mid + m - 1 - c < b ∧ c < mid + m := by
  unfold MgEnds at h; omega
theorem MgEnds.found {K : Nat → Int} {T n : Nat} {f : Nat → Nat} {a m b mid s0 r0 s : Nat} (h : MgIn K T n f a m b) (k : MgEnds a m b mid s0 r0) (h1 : s0 ≤ s) (h2 : s ≤ r0) (y1 : s0 < s → LtK K (f (s - 1)) (f (mid + m - s))) (y2 : s < r0 → LtK K (f (mid + m - 1 - s)) (f s))
    (hp : PermN n (rotR f s m (mid + m - s))) : MgMid K T n f (rotR f s m (mid + m - s)) a s mid (mid + m - s) b := by
  unfold MgEnds at k
  refine h.split (by omega) (by omega) (by omega) (by omega) rfl (by omega) (by omega) (fun z1 z2 => ?_) (fun z1 z2 => ?_) hp
  · exact y1 (by omega)
  · rw [show mid + m - s - 1 = mid + m - 1 - s by omega]; exact y2 (by omega)

variable {w0 : World} {gd hb gh n : Nat} {hs : List Nat}
set_option maxHeartbeats 16000000 in
set_option maxRecDepth 100000 in
theorem symm_any (E : Env w0 gd hb gh n hs) (T : Nat) : ∀ (L a m b : Nat) (f : Nat → Nat) (W : World), b - a ≤ L → SortSt w0 gd n f W → MgIn (keyL hs) T n f a m b →
    Calls Try.prog 70 #[.slice (some ⟨gd, 0, none⟩) n n, .int .i64 (a : Nat), .int .i64 (m : Nat), .int .i64 (b : Nat), FNG hb] W fun e w' => e = .returned (.tuple #[]) ∧ ∃ f', SortSt w0 gd n f' w' ∧ MgOut (keyL hs) n f f' a b := by
  intro L
  induction L with
  | zero => intro a m b f W hL hst hin; exact absurd hin.am (by have := hin.mb; omega)
  | succ L ih =>
    intro a m b f W hL hst hin
    by_cases q1 : m = a + 1
    · subst q1
      have e : ((a + 1 : Nat) : Int) = (a : Int) + 1 := by omega
      rw [e]
      exact symm_left E T a b f W hst hin
    by_cases q2 : b = m + 1
    · subst q2
      have e : ((m + 1 : Nat) : Int) = (m : Int) + 1 := by omega
      rw [e]
      exact symm_right E T a m f W hst hin q1
    have hnb := E.nb
    unfold FNG
    have ham := hin.am
    have hmb := hin.mb
    have hbn := hin.bn
    have d1 : ((m : Int) - (a : Int) == 1) = false := by simp; omega
    have d2 : ((b : Int) - (m : Int) == 1) = false := by simp; omega
    have d3 : ¬ ((m : Int) - (a : Int) = 1) := by omega
    have d4 : ¬ ((b : Int) - (m : Int) = 1) := by omega
    obtain ⟨mid, hmid, hmi⟩ : ∃ mid : Nat, mid = (a + b) / 2 ∧ ((a : Int) + (b : Int)) / 2 = (mid : Int) := ⟨(a + b) / 2, rfl, by omega⟩
    obtain ⟨N, hN, hNi⟩ : ∃ N : Nat, N = mid + m ∧ (mid : Int) + (m : Int) = (N : Int) := ⟨mid + m, rfl, by omega⟩
    obtain ⟨p, hp, hpi⟩ : ∃ p : Nat, p = N - 1 ∧ (N : Int) - 1 = (p : Int) := ⟨N - 1, rfl, by omega⟩
    have hNn : N ≤ 2000 := by omega
    have hmb2 : a < mid ∧ mid < b := by omega
    have hpn : p ≤ 2000 := by omega
    have hst' := Lib.hid hst
    have hin' := Lib.hid hin
    have ih' := Lib.hid ih
    clear hst hin ih
    obtain ⟨s0, r0, hE, hgt⟩ : ∃ s0 r0 : Nat, MgEnds a m b mid s0 r0 ∧ ((mid < m ∧ (N : Int) - (b : Int) = (s0 : Int) ∧ r0 = mid) ∨ (¬ mid < m ∧ s0 = a ∧ r0 = m)) := by
      by_cases c : mid < m
      · exact ⟨mid + m - b, mid, ⟨hmid, by omega, by omega, .inl ⟨c, rfl, rfl⟩⟩, .inl ⟨c, by omega, rfl⟩⟩
      · exact ⟨a, m, ⟨hmid, by omega, by omega, .inr ⟨by omega, rfl, rfl⟩⟩, .inr ⟨c, rfl, rfl⟩⟩
    have hsr : s0 ≤ r0 ∧ r0 ≤ mid ∧ r0 ≤ m ∧ a ≤ s0 := by unfold MgEnds at hE; omega
    have hE' := Lib.hid hE
    replace hmid := Lib.hid hmid
    replace hN := Lib.hid hN
    replace hp := Lib.hid hp
    clear hE
    rcases hgt with ⟨c1, c2, c3⟩ | ⟨c1, c2, c3⟩
    · subst c3
      have c4 : decide (r0 < m) = true := by simpa using c1
      have c5 : decide ((r0 : Int) < (m : Int)) = true := by simp; omega
      have c6 : decide ((m : Int) > (r0 : Int)) = true := by simp; omega
      go_enter Try.func70, Try.ntmps70
      go_wp2_with fail
      go_loopw [20, 21] (fun i j wr => ∃ (i' j' : Nat), i = .int .i64 (i' : Nat) ∧ j = .int .i64 (j' : Nat) ∧ s0 ≤ i' ∧ i' ≤ j' ∧ j' ≤ r0 ∧ SortSt w0 gd n f wr ∧ Hid (s0 < i' → LtK (keyL hs) (f (i' - 1)) (f (r0 + m - i'))) ∧ Hid (j' < r0 → LtK (keyL hs) (f (r0 + m - 1 - j')) (f j'))) (fun i j _ => (intOf j).toNat - (intOf i).toNat)
      case atStart => exact ⟨s0, r0, rfl, rfl, by omega, by omega, by omega, hst'.out, Lib.hid (fun h => absurd h (Nat.lt_irrefl _)), Lib.hid (fun h => absurd h (Nat.lt_irrefl _))⟩
      case round =>
        obtain ⟨i, j, rfl, rfl, hi1, hij, hjb, hs1, hlo, hhi⟩ := hrel
        by_cases hlt : i < j
        · have hd : decide (i < j) = true := by simpa using hlt
          have hd2 : decide ((i : Int) < (j : Int)) = true := by simp; omega
          obtain ⟨h, hh, hmid2⟩ : ∃ h : Nat, (i + j) / 2 = h ∧ ((i : Int) + (j : Int)) / 2 = (h : Int) := ⟨(i + j) / 2, rfl, by omega⟩
          have hb1 : i ≤ h ∧ h < j := by omega
          have hrg := hE'.out.range (c := h) (by omega) (by omega)
          obtain ⟨q, hq, hqi⟩ : ∃ q : Nat, q = r0 + m - 1 - h ∧ (p : Int) - (h : Int) = (q : Int) := ⟨_, rfl, by have := hN.out; have := hp.out; omega⟩
          rw [← hq] at hrg
          replace hh := Lib.hid hh
          obtain ⟨x0, -⟩ := hs1.cell h (by omega)
          obtain ⟨y0, -⟩ := hs1.cell q (by omega)
          obtain ⟨c, hc⟩ : ∃ c, cmpK (keyL hs) (f q) (f h) = c := ⟨_, rfl⟩
          have hcb := cmpK_bd (keyL hs) (f q) (f h)
          rw [hc] at hcb
          have hsg : Hid (c < 0 ↔ LtK (keyL hs) (f q) (f h)) := Lib.hid (by rw [← hc]; exact hin'.out.cmp_rl (by omega) (by omega))
          have hv := Lib.hid (E.at_ hs1)
          have f1 : f h < n := hin'.out.perm.1 h (by omega)
          have f2 : f q < n := hin'.out.perm.1 q (by omega)
          replace hc := Lib.hid hc
          replace hs1 := Lib.hid hs1
          replace hq := Lib.hid hq
          have k1 : (0 : Int) ≤ (h : Int) := by omega
          have k2 : (h : Int) < (n : Int) := by omega
          have k3 : (0 : Int) ≤ (q : Int) := by omega
          have k4 : (q : Int) < (n : Int) := by omega
          go_upto_region 35 with fail
          go_quiet ((go_at_call 47; exact cmp_quiet hv.out (f q) (f h) f2 f1 hnb hc))
          by_cases hl : c < 0
          · have hl1 : decide (c < 0) = true := by simpa using hl
            have hl3 : (!decide (c < 0)) = false := by rw [hl1]; rfl
            have hlt2 := hsg.out.1 hl
            have hhi2 : Hid (h < r0 → LtK (keyL hs) (f (r0 + m - 1 - h)) (f h)) := Lib.hid (fun _ => by rw [← hq.out]; exact hlt2)
            replace hlt2 := Lib.hid hlt2
            rw [hl3]
            go_wp2_with fail
            exact ⟨⟨i, h, rfl, rfl, by omega, by omega, by omega, hs1.out.drewN _, hlo, hhi2⟩, by simp [intOf]; omega⟩
          · have hl1 : decide (c < 0) = false := by simpa using hl
            have hl3 : (!decide (c < 0)) = true := by rw [hl1]; rfl
            have hlt2 : LtK (keyL hs) (f h) (f q) := hin'.out.or_ (by omega) (by omega) (fun e => hl (hsg.out.2 e))
            have hlo2 : Hid (s0 < h + 1 → LtK (keyL hs) (f (h + 1 - 1)) (f (r0 + m - (h + 1)))) := Lib.hid (fun _ => by
              rw [show r0 + m - (h + 1) = q by have := hq.out; omega]; exact hlt2)
            replace hlt2 := Lib.hid hlt2
            rw [hl3]
            go_wp2_with fail
            exact ⟨⟨h + 1, j, by go_num, rfl, by omega, by omega, hjb, hs1.out.drewN _, hlo2, hhi⟩, by simp [intOf]; omega⟩
        · have hd : decide (i < j) = false := by simpa using hlt
          have hd2 : decide ((i : Int) < (j : Int)) = false := by simp; omega
          have hij2 : i = j := by omega
          subst hij2
          obtain ⟨e, he, hei⟩ : ∃ e : Nat, e = r0 + m - i ∧ (N : Int) - (i : Int) = (e : Int) := ⟨_, rfl, by have := hN.out; omega⟩
          have hmm : Hid (PermN n (rotR f i m e) → MgMid (keyL hs) T n f (rotR f i m e) a i r0 e b) := Lib.hid (by rw [he]; exact hE'.out.found hin'.out hi1 hjb hlo.out hhi.out)
          have heb : e ≤ b ∧ m ≤ e ∧ r0 ≤ e := by have := hE'.out; unfold MgEnds at this; omega
          replace hs1 := Lib.hid hs1
          replace he := Lib.hid he
          by_cases z1 : i < m
          · have z3 : decide (i < m) = true := by simpa using z1
            have z4 : decide ((i : Int) < (m : Int)) = true := by simp; omega
            by_cases zb1 : m < e
            · have zb3 : decide (m < e) = true := by simpa using zb1
              have zb4 : decide ((m : Int) < (e : Int)) = true := by simp; omega
              go_upto_region 41 with (go_at_call 71; refine (rotate_any E i m e f _ hs1.out hin'.out.perm z1 zb1 (by omega)).mono ?_; rintro ex w' ⟨rfl, h1, h2⟩; have hmd := Lib.hid (hmm.out h2); replace hs1 := Lib.hid h1; clear h1 h2)
              by_cases x1 : a < i
              · have x3 : decide (a < i) = true := by simpa using x1
                have x4 : decide ((a : Int) < (i : Int)) = true := by simp; omega
                by_cases xb1 : i < r0
                · have xb3 : decide (i < r0) = true := by simpa using xb1
                  have xb4 : decide ((i : Int) < (r0 : Int)) = true := by simp; omega
                  go_upto_region 43 with (go_at_call 70; refine (ih'.out a i r0 _ _ (by omega) hs1.out (hmd.out.goL x1 xb1)).mono ?_; rintro ex w' ⟨rfl, f2, h1, h2⟩; have hLr := Lib.hid h2; replace hs1 := Lib.hid h1; clear h1 h2)
                  by_cases y1 : r0 < e
                  · have y3 : decide (r0 < e) = true := by simpa using y1
                    have y4 : decide ((r0 : Int) < (e : Int)) = true := by simp; omega
                    by_cases yb1 : e < b
                    · have yb3 : decide (e < b) = true := by simpa using yb1
                      have yb4 : decide ((e : Int) < (b : Int)) = true := by simp; omega
                      go_wp2_with (go_at_call 70; refine (ih'.out r0 e b _ _ (by omega) hs1.out (hmd.out.goR hLr.out y1 yb1)).mono ?_; rintro ex w' ⟨rfl, f3, h1, h2⟩; replace hmd := Lib.hid (hmd.out.all hLr.out h2); replace hs1 := Lib.hid h1; clear h1 h2)
                      first | go_end0 | go_ret
                      exact ⟨rfl, _, hs1.out, hmd.out⟩
                    · have yb3 : decide (e < b) = false := by simpa using yb1
                      have yb4 : decide ((e : Int) < (b : Int)) = false := by simp; omega
                      have hfin := Lib.hid (hmd.out.all hLr.out (hmd.out.noR hLr.out (fun h => yb1 h.2)))
                      go_wp2_with fail
                      first | go_end0 | go_ret
                      exact ⟨rfl, _, hs1.out, hfin.out⟩
                  · have y3 : decide (r0 < e) = false := by simpa using y1
                    have y4 : decide ((r0 : Int) < (e : Int)) = false := by simp; omega
                    have hfin := Lib.hid (hmd.out.all hLr.out (hmd.out.noR hLr.out (fun h => y1 h.1)))
                    go_wp2_with fail
                    first | go_end0 | go_ret
                    exact ⟨rfl, _, hs1.out, hfin.out⟩
                · have xb3 : decide (i < r0) = false := by simpa using xb1
                  have xb4 : decide ((i : Int) < (r0 : Int)) = false := by simp; omega
                  have hLr := Lib.hid (hmd.out.noL (fun h => xb1 h.2))
                  go_upto_region 43 with fail
                  by_cases y1 : r0 < e
                  · have y3 : decide (r0 < e) = true := by simpa using y1
                    have y4 : decide ((r0 : Int) < (e : Int)) = true := by simp; omega
                    by_cases yb1 : e < b
                    · have yb3 : decide (e < b) = true := by simpa using yb1
                      have yb4 : decide ((e : Int) < (b : Int)) = true := by simp; omega
                      go_wp2_with (go_at_call 70; refine (ih'.out r0 e b _ _ (by omega) hs1.out (hmd.out.goR hLr.out y1 yb1)).mono ?_; rintro ex w' ⟨rfl, f3, h1, h2⟩; replace hmd := Lib.hid (hmd.out.all hLr.out h2); replace hs1 := Lib.hid h1; clear h1 h2)
                      first | go_end0 | go_ret
                      exact ⟨rfl, _, hs1.out, hmd.out⟩
                    · have yb3 : decide (e < b) = false := by simpa using yb1
                      have yb4 : decide ((e : Int) < (b : Int)) = false := by simp; omega
                      have hfin := Lib.hid (hmd.out.all hLr.out (hmd.out.noR hLr.out (fun h => yb1 h.2)))
                      go_wp2_with fail
                      first | go_end0 | go_ret
                      exact ⟨rfl, _, hs1.out, hfin.out⟩
                  · have y3 : decide (r0 < e) = false := by simpa using y1
                    have y4 : decide ((r0 : Int) < (e : Int)) = false := by simp; omega
                    have hfin := Lib.hid (hmd.out.all hLr.out (hmd.out.noR hLr.out (fun h => y1 h.1)))
                    go_wp2_with fail
                    first | go_end0 | go_ret
                    exact ⟨rfl, _, hs1.out, hfin.out⟩
              · have x3 : decide (a < i) = false := by simpa using x1
                have x4 : decide ((a : Int) < (i : Int)) = false := by simp; omega
                have hLr := Lib.hid (hmd.out.noL (fun h => x1 h.1))
                go_upto_region 43 with fail
                by_cases y1 : r0 < e
                · have y3 : decide (r0 < e) = true := by simpa using y1
                  have y4 : decide ((r0 : Int) < (e : Int)) = true := by simp; omega
                  by_cases yb1 : e < b
                  · have yb3 : decide (e < b) = true := by simpa using yb1
                    have yb4 : decide ((e : Int) < (b : Int)) = true := by simp; omega
                    go_wp2_with (go_at_call 70; refine (ih'.out r0 e b _ _ (by omega) hs1.out (hmd.out.goR hLr.out y1 yb1)).mono ?_; rintro ex w' ⟨rfl, f3, h1, h2⟩; replace hmd := Lib.hid (hmd.out.all hLr.out h2); replace hs1 := Lib.hid h1; clear h1 h2)
                    first | go_end0 | go_ret
                    exact ⟨rfl, _, hs1.out, hmd.out⟩
                  · have yb3 : decide (e < b) = false := by simpa using yb1
                    have yb4 : decide ((e : Int) < (b : Int)) = false := by simp; omega
                    have hfin := Lib.hid (hmd.out.all hLr.out (hmd.out.noR hLr.out (fun h => yb1 h.2)))
                    go_wp2_with fail
                    first | go_end0 | go_ret
                    exact ⟨rfl, _, hs1.out, hfin.out⟩
                · have y3 : decide (r0 < e) = false := by simpa using y1
                  have y4 : decide ((r0 : Int) < (e : Int)) = false := by simp; omega
                  have hfin := Lib.hid (hmd.out.all hLr.out (hmd.out.noR hLr.out (fun h => y1 h.1)))
                  go_wp2_with fail
                  first | go_end0 | go_ret
                  exact ⟨rfl, _, hs1.out, hfin.out⟩
            · have zb3 : decide (m < e) = false := by simpa using zb1
              have zb4 : decide ((m : Int) < (e : Int)) = false := by simp; omega
              have hrs : rotR f i m e = f := rotR_same (by omega)
              have hmd := hmm.out (by rw [hrs]; exact hin'.out.perm)
              rw [hrs] at hmd
              replace hmd := Lib.hid hmd
              replace hrs := Lib.hid hrs
              go_upto_region 41 with fail
              by_cases x1 : a < i
              · have x3 : decide (a < i) = true := by simpa using x1
                have x4 : decide ((a : Int) < (i : Int)) = true := by simp; omega
                by_cases xb1 : i < r0
                · have xb3 : decide (i < r0) = true := by simpa using xb1
                  have xb4 : decide ((i : Int) < (r0 : Int)) = true := by simp; omega
                  go_upto_region 43 with (go_at_call 70; refine (ih'.out a i r0 _ _ (by omega) hs1.out (hmd.out.goL x1 xb1)).mono ?_; rintro ex w' ⟨rfl, f2, h1, h2⟩; have hLr := Lib.hid h2; replace hs1 := Lib.hid h1; clear h1 h2)
                  by_cases y1 : r0 < e
                  · have y3 : decide (r0 < e) = true := by simpa using y1
                    have y4 : decide ((r0 : Int) < (e : Int)) = true := by simp; omega
                    by_cases yb1 : e < b
                    · have yb3 : decide (e < b) = true := by simpa using yb1
                      have yb4 : decide ((e : Int) < (b : Int)) = true := by simp; omega
                      go_wp2_with (go_at_call 70; refine (ih'.out r0 e b _ _ (by omega) hs1.out (hmd.out.goR hLr.out y1 yb1)).mono ?_; rintro ex w' ⟨rfl, f3, h1, h2⟩; replace hmd := Lib.hid (hmd.out.all hLr.out h2); replace hs1 := Lib.hid h1; clear h1 h2)
                      first | go_end0 | go_ret
                      exact ⟨rfl, _, hs1.out, hmd.out⟩
                    · have yb3 : decide (e < b) = false := by simpa using yb1
                      have yb4 : decide ((e : Int) < (b : Int)) = false := by simp; omega
                      have hfin := Lib.hid (hmd.out.all hLr.out (hmd.out.noR hLr.out (fun h => yb1 h.2)))
                      go_wp2_with fail
                      first | go_end0 | go_ret
                      exact ⟨rfl, _, hs1.out, hfin.out⟩
                  · have y3 : decide (r0 < e) = false := by simpa using y1
                    have y4 : decide ((r0 : Int) < (e : Int)) = false := by simp; omega
                    have hfin := Lib.hid (hmd.out.all hLr.out (hmd.out.noR hLr.out (fun h => y1 h.1)))
                    go_wp2_with fail
                    first | go_end0 | go_ret
                    exact ⟨rfl, _, hs1.out, hfin.out⟩
                · have xb3 : decide (i < r0) = false := by simpa using xb1
                  have xb4 : decide ((i : Int) < (r0 : Int)) = false := by simp; omega
                  have hLr := Lib.hid (hmd.out.noL (fun h => xb1 h.2))
                  go_upto_region 43 with fail
                  by_cases y1 : r0 < e
                  · have y3 : decide (r0 < e) = true := by simpa using y1
                    have y4 : decide ((r0 : Int) < (e : Int)) = true := by simp; omega
                    by_cases yb1 : e < b
                    · have yb3 : decide (e < b) = true := by simpa using yb1
                      have yb4 : decide ((e : Int) < (b : Int)) = true := by simp; omega
                      go_wp2_with (go_at_call 70; refine (ih'.out r0 e b _ _ (by omega) hs1.out (hmd.out.goR hLr.out y1 yb1)).mono ?_; rintro ex w' ⟨rfl, f3, h1, h2⟩; replace hmd := Lib.hid (hmd.out.all hLr.out h2); replace hs1 := Lib.hid h1; clear h1 h2)
                      first | go_end0 | go_ret
                      exact ⟨rfl, _, hs1.out, hmd.out⟩
                    · have yb3 : decide (e < b) = false := by simpa using yb1
                      have yb4 : decide ((e : Int) < (b : Int)) = false := by simp; omega
                      have hfin := Lib.hid (hmd.out.all hLr.out (hmd.out.noR hLr.out (fun h => yb1 h.2)))
                      go_wp2_with fail
                      first | go_end0 | go_ret
                      exact ⟨rfl, _, hs1.out, hfin.out⟩
                  · have y3 : decide (r0 < e) = false := by simpa using y1
                    have y4 : decide ((r0 : Int) < (e : Int)) = false := by simp; omega
                    have hfin := Lib.hid (hmd.out.all hLr.out (hmd.out.noR hLr.out (fun h => y1 h.1)))
                    go_wp2_with fail
                    first | go_end0 | go_ret
                    exact ⟨rfl, _, hs1.out, hfin.out⟩
              · have x3 : decide (a < i) = false := by simpa using x1
                have x4 : decide ((a : Int) < (i : Int)) = false := by simp; omega
                have hLr := Lib.hid (hmd.out.noL (fun h => x1 h.1))
                go_upto_region 43 with fail
                by_cases y1 : r0 < e
                · have y3 : decide (r0 < e) = true := by simpa using y1
                  have y4 : decide ((r0 : Int) < (e : Int)) = true := by simp; omega
                  by_cases yb1 : e < b
                  · have yb3 : decide (e < b) = true := by simpa using yb1
                    have yb4 : decide ((e : Int) < (b : Int)) = true := by simp; omega
                    go_wp2_with (go_at_call 70; refine (ih'.out r0 e b _ _ (by omega) hs1.out (hmd.out.goR hLr.out y1 yb1)).mono ?_; rintro ex w' ⟨rfl, f3, h1, h2⟩; replace hmd := Lib.hid (hmd.out.all hLr.out h2); replace hs1 := Lib.hid h1; clear h1 h2)
                    first | go_end0 | go_ret
                    exact ⟨rfl, _, hs1.out, hmd.out⟩
                  · have yb3 : decide (e < b) = false := by simpa using yb1
                    have yb4 : decide ((e : Int) < (b : Int)) = false := by simp; omega
                    have hfin := Lib.hid (hmd.out.all hLr.out (hmd.out.noR hLr.out (fun h => yb1 h.2)))
                    go_wp2_with fail
                    first | go_end0 | go_ret
                    exact ⟨rfl, _, hs1.out, hfin.out⟩
                · have y3 : decide (r0 < e) = false := by simpa using y1
                  have y4 : decide ((r0 : Int) < (e : Int)) = false := by simp; omega
                  have hfin := Lib.hid (hmd.out.all hLr.out (hmd.out.noR hLr.out (fun h => y1 h.1)))
                  go_wp2_with fail
                  first | go_end0 | go_ret
                  exact ⟨rfl, _, hs1.out, hfin.out⟩
          · have z3 : decide (i < m) = false := by simpa using z1
            have z4 : decide ((i : Int) < (m : Int)) = false := by simp; omega
            have hrs : rotR f i m e = f := rotR_same (by omega)
            have hmd := hmm.out (by rw [hrs]; exact hin'.out.perm)
            rw [hrs] at hmd
            replace hmd := Lib.hid hmd
            replace hrs := Lib.hid hrs
            go_upto_region 41 with fail
            by_cases x1 : a < i
            · have x3 : decide (a < i) = true := by simpa using x1
              have x4 : decide ((a : Int) < (i : Int)) = true := by simp; omega
              by_cases xb1 : i < r0
              · have xb3 : decide (i < r0) = true := by simpa using xb1
                have xb4 : decide ((i : Int) < (r0 : Int)) = true := by simp; omega
                go_upto_region 43 with (go_at_call 70; refine (ih'.out a i r0 _ _ (by omega) hs1.out (hmd.out.goL x1 xb1)).mono ?_; rintro ex w' ⟨rfl, f2, h1, h2⟩; have hLr := Lib.hid h2; replace hs1 := Lib.hid h1; clear h1 h2)
                by_cases y1 : r0 < e
                · have y3 : decide (r0 < e) = true := by simpa using y1
                  have y4 : decide ((r0 : Int) < (e : Int)) = true := by simp; omega
                  by_cases yb1 : e < b
                  · have yb3 : decide (e < b) = true := by simpa using yb1
                    have yb4 : decide ((e : Int) < (b : Int)) = true := by simp; omega
                    go_wp2_with (go_at_call 70; refine (ih'.out r0 e b _ _ (by omega) hs1.out (hmd.out.goR hLr.out y1 yb1)).mono ?_; rintro ex w' ⟨rfl, f3, h1, h2⟩; replace hmd := Lib.hid (hmd.out.all hLr.out h2); replace hs1 := Lib.hid h1; clear h1 h2)
                    first | go_end0 | go_ret
                    exact ⟨rfl, _, hs1.out, hmd.out⟩
                  · have yb3 : decide (e < b) = false := by simpa using yb1
                    have yb4 : decide ((e : Int) < (b : Int)) = false := by simp; omega
                    have hfin := Lib.hid (hmd.out.all hLr.out (hmd.out.noR hLr.out (fun h => yb1 h.2)))
                    go_wp2_with fail
                    first | go_end0 | go_ret
                    exact ⟨rfl, _, hs1.out, hfin.out⟩
                · have y3 : decide (r0 < e) = false := by simpa using y1
                  have y4 : decide ((r0 : Int) < (e : Int)) = false := by simp; omega
                  have hfin := Lib.hid (hmd.out.all hLr.out (hmd.out.noR hLr.out (fun h => y1 h.1)))
                  go_wp2_with fail
                  first | go_end0 | go_ret
                  exact ⟨rfl, _, hs1.out, hfin.out⟩
              · have xb3 : decide (i < r0) = false := by simpa using xb1
                have xb4 : decide ((i : Int) < (r0 : Int)) = false := by simp; omega
                have hLr := Lib.hid (hmd.out.noL (fun h => xb1 h.2))
                go_upto_region 43 with fail
                by_cases y1 : r0 < e
                · have y3 : decide (r0 < e) = true := by simpa using y1
                  have y4 : decide ((r0 : Int) < (e : Int)) = true := by simp; omega
                  by_cases yb1 : e < b
                  · have yb3 : decide (e < b) = true := by simpa using yb1
                    have yb4 : decide ((e : Int) < (b : Int)) = true := by simp; omega
                    go_wp2_with (go_at_call 70; refine (ih'.out r0 e b _ _ (by omega) hs1.out (hmd.out.goR hLr.out y1 yb1)).mono ?_; rintro ex w' ⟨rfl, f3, h1, h2⟩; replace hmd := Lib.hid (hmd.out.all hLr.out h2); replace hs1 := Lib.hid h1; clear h1 h2)
                    first | go_end0 | go_ret
                    exact ⟨rfl, _, hs1.out, hmd.out⟩
                  · have yb3 : decide (e < b) = false := by simpa using yb1
                    have yb4 : decide ((e : Int) < (b : Int)) = false := by simp; omega
                    have hfin := Lib.hid (hmd.out.all hLr.out (hmd.out.noR hLr.out (fun h => yb1 h.2)))
                    go_wp2_with fail
                    first | go_end0 | go_ret
                    exact ⟨rfl, _, hs1.out, hfin.out⟩
                · have y3 : decide (r0 < e) = false := by simpa using y1
                  have y4 : decide ((r0 : Int) < (e : Int)) = false := by simp; omega
                  have hfin := Lib.hid (hmd.out.all hLr.out (hmd.out.noR hLr.out (fun h => y1 h.1)))
                  go_wp2_with fail
                  first | go_end0 | go_ret
                  exact ⟨rfl, _, hs1.out, hfin.out⟩
            · have x3 : decide (a < i) = false := by simpa using x1
              have x4 : decide ((a : Int) < (i : Int)) = false := by simp; omega
              have hLr := Lib.hid (hmd.out.noL (fun h => x1 h.1))
              go_upto_region 43 with fail
              by_cases y1 : r0 < e
              · have y3 : decide (r0 < e) = true := by simpa using y1
                have y4 : decide ((r0 : Int) < (e : Int)) = true := by simp; omega
                by_cases yb1 : e < b
                · have yb3 : decide (e < b) = true := by simpa using yb1
                  have yb4 : decide ((e : Int) < (b : Int)) = true := by simp; omega
                  go_wp2_with (go_at_call 70; refine (ih'.out r0 e b _ _ (by omega) hs1.out (hmd.out.goR hLr.out y1 yb1)).mono ?_; rintro ex w' ⟨rfl, f3, h1, h2⟩; replace hmd := Lib.hid (hmd.out.all hLr.out h2); replace hs1 := Lib.hid h1; clear h1 h2)
                  first | go_end0 | go_ret
                  exact ⟨rfl, _, hs1.out, hmd.out⟩
                · have yb3 : decide (e < b) = false := by simpa using yb1
                  have yb4 : decide ((e : Int) < (b : Int)) = false := by simp; omega
                  have hfin := Lib.hid (hmd.out.all hLr.out (hmd.out.noR hLr.out (fun h => yb1 h.2)))
                  go_wp2_with fail
                  first | go_end0 | go_ret
                  exact ⟨rfl, _, hs1.out, hfin.out⟩
              · have y3 : decide (r0 < e) = false := by simpa using y1
                have y4 : decide ((r0 : Int) < (e : Int)) = false := by simp; omega
                have hfin := Lib.hid (hmd.out.all hLr.out (hmd.out.noR hLr.out (fun h => y1 h.1)))
                go_wp2_with fail
                first | go_end0 | go_ret
                exact ⟨rfl, _, hs1.out, hfin.out⟩
    · subst c2 c3
      have c4 : decide (mid < r0) = false := by simpa using c1
      have c5 : decide ((mid : Int) < (r0 : Int)) = false := by simp; omega
      have c6 : decide ((r0 : Int) > (mid : Int)) = false := by simp; omega
      go_enter Try.func70, Try.ntmps70
      go_wp2_with fail
      go_loopw [20, 21] (fun i j wr => ∃ (i' j' : Nat), i = .int .i64 (i' : Nat) ∧ j = .int .i64 (j' : Nat) ∧ s0 ≤ i' ∧ i' ≤ j' ∧ j' ≤ r0 ∧ SortSt w0 gd n f wr ∧ Hid (s0 < i' → LtK (keyL hs) (f (i' - 1)) (f (mid + r0 - i'))) ∧ Hid (j' < r0 → LtK (keyL hs) (f (mid + r0 - 1 - j')) (f j'))) (fun i j _ => (intOf j).toNat - (intOf i).toNat)
      case atStart => exact ⟨s0, r0, rfl, rfl, by omega, by omega, by omega, hst'.out, Lib.hid (fun h => absurd h (Nat.lt_irrefl _)), Lib.hid (fun h => absurd h (Nat.lt_irrefl _))⟩
      case round =>
        obtain ⟨i, j, rfl, rfl, hi1, hij, hjb, hs1, hlo, hhi⟩ := hrel
        by_cases hlt : i < j
        · have hd : decide (i < j) = true := by simpa using hlt
          have hd2 : decide ((i : Int) < (j : Int)) = true := by simp; omega
          obtain ⟨h, hh, hmid2⟩ : ∃ h : Nat, (i + j) / 2 = h ∧ ((i : Int) + (j : Int)) / 2 = (h : Int) := ⟨(i + j) / 2, rfl, by omega⟩
          have hb1 : i ≤ h ∧ h < j := by omega
          have hrg := hE'.out.range (c := h) (by omega) (by omega)
          obtain ⟨q, hq, hqi⟩ : ∃ q : Nat, q = mid + r0 - 1 - h ∧ (p : Int) - (h : Int) = (q : Int) := ⟨_, rfl, by have := hN.out; have := hp.out; omega⟩
          rw [← hq] at hrg
          replace hh := Lib.hid hh
          obtain ⟨x0, -⟩ := hs1.cell h (by omega)
          obtain ⟨y0, -⟩ := hs1.cell q (by omega)
          obtain ⟨c, hc⟩ : ∃ c, cmpK (keyL hs) (f q) (f h) = c := ⟨_, rfl⟩
          have hcb := cmpK_bd (keyL hs) (f q) (f h)
          rw [hc] at hcb
          have hsg : Hid (c < 0 ↔ LtK (keyL hs) (f q) (f h)) := Lib.hid (by rw [← hc]; exact hin'.out.cmp_rl (by omega) (by omega))
          have hv := Lib.hid (E.at_ hs1)
          have f1 : f h < n := hin'.out.perm.1 h (by omega)
          have f2 : f q < n := hin'.out.perm.1 q (by omega)
          replace hc := Lib.hid hc
          replace hs1 := Lib.hid hs1
          replace hq := Lib.hid hq
          have k1 : (0 : Int) ≤ (h : Int) := by omega
          have k2 : (h : Int) < (n : Int) := by omega
          have k3 : (0 : Int) ≤ (q : Int) := by omega
          have k4 : (q : Int) < (n : Int) := by omega
          go_upto_region 35 with fail
          go_quiet ((go_at_call 47; exact cmp_quiet hv.out (f q) (f h) f2 f1 hnb hc))
          by_cases hl : c < 0
          · have hl1 : decide (c < 0) = true := by simpa using hl
            have hl3 : (!decide (c < 0)) = false := by rw [hl1]; rfl
            have hlt2 := hsg.out.1 hl
            have hhi2 : Hid (h < r0 → LtK (keyL hs) (f (mid + r0 - 1 - h)) (f h)) := Lib.hid (fun _ => by rw [← hq.out]; exact hlt2)
            replace hlt2 := Lib.hid hlt2
            rw [hl3]
            go_wp2_with fail
            exact ⟨⟨i, h, rfl, rfl, by omega, by omega, by omega, hs1.out.drewN _, hlo, hhi2⟩, by simp [intOf]; omega⟩
          · have hl1 : decide (c < 0) = false := by simpa using hl
            have hl3 : (!decide (c < 0)) = true := by rw [hl1]; rfl
            have hlt2 : LtK (keyL hs) (f h) (f q) := hin'.out.or_ (by omega) (by omega) (fun e => hl (hsg.out.2 e))
            have hlo2 : Hid (s0 < h + 1 → LtK (keyL hs) (f (h + 1 - 1)) (f (mid + r0 - (h + 1)))) := Lib.hid (fun _ => by
              rw [show mid + r0 - (h + 1) = q by have := hq.out; omega]; exact hlt2)
            replace hlt2 := Lib.hid hlt2
            rw [hl3]
            go_wp2_with fail
            exact ⟨⟨h + 1, j, by go_num, rfl, by omega, by omega, hjb, hs1.out.drewN _, hlo2, hhi⟩, by simp [intOf]; omega⟩
        · have hd : decide (i < j) = false := by simpa using hlt
          have hd2 : decide ((i : Int) < (j : Int)) = false := by simp; omega
          have hij2 : i = j := by omega
          subst hij2
          obtain ⟨e, he, hei⟩ : ∃ e : Nat, e = mid + r0 - i ∧ (N : Int) - (i : Int) = (e : Int) := ⟨_, rfl, by have := hN.out; omega⟩
          have hmm : Hid (PermN n (rotR f i r0 e) → MgMid (keyL hs) T n f (rotR f i r0 e) s0 i mid e b) := Lib.hid (by rw [he]; exact hE'.out.found hin'.out hi1 hjb hlo.out hhi.out)
          have heb : e ≤ b ∧ r0 ≤ e ∧ mid ≤ e := by have := hE'.out; unfold MgEnds at this; omega
          replace hs1 := Lib.hid hs1
          replace he := Lib.hid he
          by_cases z1 : i < r0
          · have z3 : decide (i < r0) = true := by simpa using z1
            have z4 : decide ((i : Int) < (r0 : Int)) = true := by simp; omega
            by_cases zb1 : r0 < e
            · have zb3 : decide (r0 < e) = true := by simpa using zb1
              have zb4 : decide ((r0 : Int) < (e : Int)) = true := by simp; omega
              go_upto_region 41 with (go_at_call 71; refine (rotate_any E i r0 e f _ hs1.out hin'.out.perm z1 zb1 (by omega)).mono ?_; rintro ex w' ⟨rfl, h1, h2⟩; have hmd := Lib.hid (hmm.out h2); replace hs1 := Lib.hid h1; clear h1 h2)
              by_cases x1 : s0 < i
              · have x3 : decide (s0 < i) = true := by simpa using x1
                have x4 : decide ((s0 : Int) < (i : Int)) = true := by simp; omega
                by_cases xb1 : i < mid
                · have xb3 : decide (i < mid) = true := by simpa using xb1
                  have xb4 : decide ((i : Int) < (mid : Int)) = true := by simp; omega
                  go_upto_region 43 with (go_at_call 70; refine (ih'.out s0 i mid _ _ (by omega) hs1.out (hmd.out.goL x1 xb1)).mono ?_; rintro ex w' ⟨rfl, f2, h1, h2⟩; have hLr := Lib.hid h2; replace hs1 := Lib.hid h1; clear h1 h2)
                  by_cases y1 : mid < e
                  · have y3 : decide (mid < e) = true := by simpa using y1
                    have y4 : decide ((mid : Int) < (e : Int)) = true := by simp; omega
                    by_cases yb1 : e < b
                    · have yb3 : decide (e < b) = true := by simpa using yb1
                      have yb4 : decide ((e : Int) < (b : Int)) = true := by simp; omega
                      go_wp2_with (go_at_call 70; refine (ih'.out mid e b _ _ (by omega) hs1.out (hmd.out.goR hLr.out y1 yb1)).mono ?_; rintro ex w' ⟨rfl, f3, h1, h2⟩; replace hmd := Lib.hid (hmd.out.all hLr.out h2); replace hs1 := Lib.hid h1; clear h1 h2)
                      first | go_end0 | go_ret
                      exact ⟨rfl, _, hs1.out, hmd.out⟩
                    · have yb3 : decide (e < b) = false := by simpa using yb1
                      have yb4 : decide ((e : Int) < (b : Int)) = false := by simp; omega
                      have hfin := Lib.hid (hmd.out.all hLr.out (hmd.out.noR hLr.out (fun h => yb1 h.2)))
                      go_wp2_with fail
                      first | go_end0 | go_ret
                      exact ⟨rfl, _, hs1.out, hfin.out⟩
                  · have y3 : decide (mid < e) = false := by simpa using y1
                    have y4 : decide ((mid : Int) < (e : Int)) = false := by simp; omega
                    have hfin := Lib.hid (hmd.out.all hLr.out (hmd.out.noR hLr.out (fun h => y1 h.1)))
                    go_wp2_with fail
                    first | go_end0 | go_ret
                    exact ⟨rfl, _, hs1.out, hfin.out⟩
                · have xb3 : decide (i < mid) = false := by simpa using xb1
                  have xb4 : decide ((i : Int) < (mid : Int)) = false := by simp; omega
                  have hLr := Lib.hid (hmd.out.noL (fun h => xb1 h.2))
                  go_upto_region 43 with fail
                  by_cases y1 : mid < e
                  · have y3 : decide (mid < e) = true := by simpa using y1
                    have y4 : decide ((mid : Int) < (e : Int)) = true := by simp; omega
                    by_cases yb1 : e < b
                    · have yb3 : decide (e < b) = true := by simpa using yb1
                      have yb4 : decide ((e : Int) < (b : Int)) = true := by simp; omega
                      go_wp2_with (go_at_call 70; refine (ih'.out mid e b _ _ (by omega) hs1.out (hmd.out.goR hLr.out y1 yb1)).mono ?_; rintro ex w' ⟨rfl, f3, h1, h2⟩; replace hmd := Lib.hid (hmd.out.all hLr.out h2); replace hs1 := Lib.hid h1; clear h1 h2)
                      first | go_end0 | go_ret
                      exact ⟨rfl, _, hs1.out, hmd.out⟩
                    · have yb3 : decide (e < b) = false := by simpa using yb1
                      have yb4 : decide ((e : Int) < (b : Int)) = false := by simp; omega
                      have hfin := Lib.hid (hmd.out.all hLr.out (hmd.out.noR hLr.out (fun h => yb1 h.2)))
                      go_wp2_with fail
                      first | go_end0 | go_ret
                      exact ⟨rfl, _, hs1.out, hfin.out⟩
                  · have y3 : decide (mid < e) = false := by simpa using y1
                    have y4 : decide ((mid : Int) < (e : Int)) = false := by simp; omega
                    have hfin := Lib.hid (hmd.out.all hLr.out (hmd.out.noR hLr.out (fun h => y1 h.1)))
                    go_wp2_with fail
                    first | go_end0 | go_ret
                    exact ⟨rfl, _, hs1.out, hfin.out⟩
              · have x3 : decide (s0 < i) = false := by simpa using x1
                have x4 : decide ((s0 : Int) < (i : Int)) = false := by simp; omega
                have hLr := Lib.hid (hmd.out.noL (fun h => x1 h.1))
                go_upto_region 43 with fail
                by_cases y1 : mid < e
                · have y3 : decide (mid < e) = true := by simpa using y1
                  have y4 : decide ((mid : Int) < (e : Int)) = true := by simp; omega
                  by_cases yb1 : e < b
                  · have yb3 : decide (e < b) = true := by simpa using yb1
                    have yb4 : decide ((e : Int) < (b : Int)) = true := by simp; omega
                    go_wp2_with (go_at_call 70; refine (ih'.out mid e b _ _ (by omega) hs1.out (hmd.out.goR hLr.out y1 yb1)).mono ?_; rintro ex w' ⟨rfl, f3, h1, h2⟩; replace hmd := Lib.hid (hmd.out.all hLr.out h2); replace hs1 := Lib.hid h1; clear h1 h2)
                    first | go_end0 | go_ret
                    exact ⟨rfl, _, hs1.out, hmd.out⟩
                  · have yb3 : decide (e < b) = false := by simpa using yb1
                    have yb4 : decide ((e : Int) < (b : Int)) = false := by simp; omega
                    have hfin := Lib.hid (hmd.out.all hLr.out (hmd.out.noR hLr.out (fun h => yb1 h.2)))
                    go_wp2_with fail
                    first | go_end0 | go_ret
                    exact ⟨rfl, _, hs1.out, hfin.out⟩
                · have y3 : decide (mid < e) = false := by simpa using y1
                  have y4 : decide ((mid : Int) < (e : Int)) = false := by simp; omega
                  have hfin := Lib.hid (hmd.out.all hLr.out (hmd.out.noR hLr.out (fun h => y1 h.1)))
                  go_wp2_with fail
                  first | go_end0 | go_ret
                  exact ⟨rfl, _, hs1.out, hfin.out⟩
            · have zb3 : decide (r0 < e) = false := by simpa using zb1
              have zb4 : decide ((r0 : Int) < (e : Int)) = false := by simp; omega
              have hrs : rotR f i r0 e = f := rotR_same (by omega)
              have hmd := hmm.out (by rw [hrs]; exact hin'.out.perm)
              rw [hrs] at hmd
              replace hmd := Lib.hid hmd
              replace hrs := Lib.hid hrs
              go_upto_region 41 with fail
              by_cases x1 : s0 < i
              · have x3 : decide (s0 < i) = true := by simpa using x1
                have x4 : decide ((s0 : Int) < (i : Int)) = true := by simp; omega
                by_cases xb1 : i < mid
                · have xb3 : decide (i < mid) = true := by simpa using xb1
                  have xb4 : decide ((i : Int) < (mid : Int)) = true := by simp; omega
                  go_upto_region 43 with (go_at_call 70; refine (ih'.out s0 i mid _ _ (by omega) hs1.out (hmd.out.goL x1 xb1)).mono ?_; rintro ex w' ⟨rfl, f2, h1, h2⟩; have hLr := Lib.hid h2; replace hs1 := Lib.hid h1; clear h1 h2)
                  by_cases y1 : mid < e
                  · have y3 : decide (mid < e) = true := by simpa using y1
                    have y4 : decide ((mid : Int) < (e : Int)) = true := by simp; omega
                    by_cases yb1 : e < b
                    · have yb3 : decide (e < b) = true := by simpa using yb1
                      have yb4 : decide ((e : Int) < (b : Int)) = true := by simp; omega
                      go_wp2_with (go_at_call 70; refine (ih'.out mid e b _ _ (by omega) hs1.out (hmd.out.goR hLr.out y1 yb1)).mono ?_; rintro ex w' ⟨rfl, f3, h1, h2⟩; replace hmd := Lib.hid (hmd.out.all hLr.out h2); replace hs1 := Lib.hid h1; clear h1 h2)
                      first | go_end0 | go_ret
                      exact ⟨rfl, _, hs1.out, hmd.out⟩
                    · have yb3 : decide (e < b) = false := by simpa using yb1
                      have yb4 : decide ((e : Int) < (b : Int)) = false := by simp; omega
                      have hfin := Lib.hid (hmd.out.all hLr.out (hmd.out.noR hLr.out (fun h => yb1 h.2)))
                      go_wp2_with fail
                      first | go_end0 | go_ret
                      exact ⟨rfl, _, hs1.out, hfin.out⟩
                  · have y3 : decide (mid < e) = false := by simpa using y1
                    have y4 : decide ((mid : Int) < (e : Int)) = false := by simp; omega
                    have hfin := Lib.hid (hmd.out.all hLr.out (hmd.out.noR hLr.out (fun h => y1 h.1)))
                    go_wp2_with fail
                    first | go_end0 | go_ret
                    exact ⟨rfl, _, hs1.out, hfin.out⟩
                · have xb3 : decide (i < mid) = false := by simpa using xb1
                  have xb4 : decide ((i : Int) < (mid : Int)) = false := by simp; omega
                  have hLr := Lib.hid (hmd.out.noL (fun h => xb1 h.2))
                  go_upto_region 43 with fail
                  by_cases y1 : mid < e
                  · have y3 : decide (mid < e) = true := by simpa using y1
                    have y4 : decide ((mid : Int) < (e : Int)) = true := by simp; omega
                    by_cases yb1 : e < b
                    · have yb3 : decide (e < b) = true := by simpa using yb1
                      have yb4 : decide ((e : Int) < (b : Int)) = true := by simp; omega
                      go_wp2_with (go_at_call 70; refine (ih'.out mid e b _ _ (by omega) hs1.out (hmd.out.goR hLr.out y1 yb1)).mono ?_; rintro ex w' ⟨rfl, f3, h1, h2⟩; replace hmd := Lib.hid (hmd.out.all hLr.out h2); replace hs1 := Lib.hid h1; clear h1 h2)
                      first | go_end0 | go_ret
                      exact ⟨rfl, _, hs1.out, hmd.out⟩
                    · have yb3 : decide (e < b) = false := by simpa using yb1
                      have yb4 : decide ((e : Int) < (b : Int)) = false := by simp; omega
                      have hfin := Lib.hid (hmd.out.all hLr.out (hmd.out.noR hLr.out (fun h => yb1 h.2)))
                      go_wp2_with fail
                      first | go_end0 | go_ret
                      exact ⟨rfl, _, hs1.out, hfin.out⟩
                  · have y3 : decide (mid < e) = false := by simpa using y1
                    have y4 : decide ((mid : Int) < (e : Int)) = false := by simp; omega
                    have hfin := Lib.hid (hmd.out.all hLr.out (hmd.out.noR hLr.out (fun h => y1 h.1)))
                    go_wp2_with fail
                    first | go_end0 | go_ret
                    exact ⟨rfl, _, hs1.out, hfin.out⟩
              · have x3 : decide (s0 < i) = false := by simpa using x1
                have x4 : decide ((s0 : Int) < (i : Int)) = false := by simp; omega
                have hLr := Lib.hid (hmd.out.noL (fun h => x1 h.1))
                go_upto_region 43 with fail
                by_cases y1 : mid < e
                · have y3 : decide (mid < e) = true := by simpa using y1
                  have y4 : decide ((mid : Int) < (e : Int)) = true := by simp; omega
                  by_cases yb1 : e < b
                  · have yb3 : decide (e < b) = true := by simpa using yb1
                    have yb4 : decide ((e : Int) < (b : Int)) = true := by simp; omega
                    go_wp2_with (go_at_call 70; refine (ih'.out mid e b _ _ (by omega) hs1.out (hmd.out.goR hLr.out y1 yb1)).mono ?_; rintro ex w' ⟨rfl, f3, h1, h2⟩; replace hmd := Lib.hid (hmd.out.all hLr.out h2); replace hs1 := Lib.hid h1; clear h1 h2)
                    first | go_end0 | go_ret
                    exact ⟨rfl, _, hs1.out, hmd.out⟩
                  · have yb3 : decide (e < b) = false := by simpa using yb1
                    have yb4 : decide ((e : Int) < (b : Int)) = false := by simp; omega
                    have hfin := Lib.hid (hmd.out.all hLr.out (hmd.out.noR hLr.out (fun h => yb1 h.2)))
                    go_wp2_with fail
                    first | go_end0 | go_ret
                    exact ⟨rfl, _, hs1.out, hfin.out⟩
                · have y3 : decide (mid < e) = false := by simpa using y1
                  have y4 : decide ((mid : Int) < (e : Int)) = false := by simp; omega
                  have hfin := Lib.hid (hmd.out.all hLr.out (hmd.out.noR hLr.out (fun h => y1 h.1)))
                  go_wp2_with fail
                  first | go_end0 | go_ret
                  exact ⟨rfl, _, hs1.out, hfin.out⟩
          · have z3 : decide (i < r0) = false := by simpa using z1
            have z4 : decide ((i : Int) < (r0 : Int)) = false := by simp; omega
            have hrs : rotR f i r0 e = f := rotR_same (by omega)
            have hmd := hmm.out (by rw [hrs]; exact hin'.out.perm)
            rw [hrs] at hmd
            replace hmd := Lib.hid hmd
            replace hrs := Lib.hid hrs
            go_upto_region 41 with fail
            by_cases x1 : s0 < i
            · have x3 : decide (s0 < i) = true := by simpa using x1
              have x4 : decide ((s0 : Int) < (i : Int)) = true := by simp; omega
              by_cases xb1 : i < mid
              · have xb3 : decide (i < mid) = true := by simpa using xb1
                have xb4 : decide ((i : Int) < (mid : Int)) = true := by simp; omega
                go_upto_region 43 with (go_at_call 70; refine (ih'.out s0 i mid _ _ (by omega) hs1.out (hmd.out.goL x1 xb1)).mono ?_; rintro ex w' ⟨rfl, f2, h1, h2⟩; have hLr := Lib.hid h2; replace hs1 := Lib.hid h1; clear h1 h2)
                by_cases y1 : mid < e
                · have y3 : decide (mid < e) = true := by simpa using y1
                  have y4 : decide ((mid : Int) < (e : Int)) = true := by simp; omega
                  by_cases yb1 : e < b
                  · have yb3 : decide (e < b) = true := by simpa using yb1
                    have yb4 : decide ((e : Int) < (b : Int)) = true := by simp; omega
                    go_wp2_with (go_at_call 70; refine (ih'.out mid e b _ _ (by omega) hs1.out (hmd.out.goR hLr.out y1 yb1)).mono ?_; rintro ex w' ⟨rfl, f3, h1, h2⟩; replace hmd := Lib.hid (hmd.out.all hLr.out h2); replace hs1 := Lib.hid h1; clear h1 h2)
                    first | go_end0 | go_ret
                    exact ⟨rfl, _, hs1.out, hmd.out⟩
                  · have yb3 : decide (e < b) = false := by simpa using yb1
                    have yb4 : decide ((e : Int) < (b : Int)) = false := by simp; omega
                    have hfin := Lib.hid (hmd.out.all hLr.out (hmd.out.noR hLr.out (fun h => yb1 h.2)))
                    go_wp2_with fail
                    first | go_end0 | go_ret
                    exact ⟨rfl, _, hs1.out, hfin.out⟩
                · have y3 : decide (mid < e) = false := by simpa using y1
                  have y4 : decide ((mid : Int) < (e : Int)) = false := by simp; omega
                  have hfin := Lib.hid (hmd.out.all hLr.out (hmd.out.noR hLr.out (fun h => y1 h.1)))
                  go_wp2_with fail
                  first | go_end0 | go_ret
                  exact ⟨rfl, _, hs1.out, hfin.out⟩
              · have xb3 : decide (i < mid) = false := by simpa using xb1
                have xb4 : decide ((i : Int) < (mid : Int)) = false := by simp; omega
                have hLr := Lib.hid (hmd.out.noL (fun h => xb1 h.2))
                go_upto_region 43 with fail
                by_cases y1 : mid < e
                · have y3 : decide (mid < e) = true := by simpa using y1
                  have y4 : decide ((mid : Int) < (e : Int)) = true := by simp; omega
                  by_cases yb1 : e < b
                  · have yb3 : decide (e < b) = true := by simpa using yb1
                    have yb4 : decide ((e : Int) < (b : Int)) = true := by simp; omega
                    go_wp2_with (go_at_call 70; refine (ih'.out mid e b _ _ (by omega) hs1.out (hmd.out.goR hLr.out y1 yb1)).mono ?_; rintro ex w' ⟨rfl, f3, h1, h2⟩; replace hmd := Lib.hid (hmd.out.all hLr.out h2); replace hs1 := Lib.hid h1; clear h1 h2)
                    first | go_end0 | go_ret
                    exact ⟨rfl, _, hs1.out, hmd.out⟩
                  · have yb3 : decide (e < b) = false := by simpa using yb1
                    have yb4 : decide ((e : Int) < (b : Int)) = false := by simp; omega
                    have hfin := Lib.hid (hmd.out.all hLr.out (hmd.out.noR hLr.out (fun h => yb1 h.2)))
                    go_wp2_with fail
                    first | go_end0 | go_ret
                    exact ⟨rfl, _, hs1.out, hfin.out⟩
                · have y3 : decide (mid < e) = false := by simpa using y1
                  have y4 : decide ((mid : Int) < (e : Int)) = false := by simp; omega
                  have hfin := Lib.hid (hmd.out.all hLr.out (hmd.out.noR hLr.out (fun h => y1 h.1)))
                  go_wp2_with fail
                  first | go_end0 | go_ret
                  exact ⟨rfl, _, hs1.out, hfin.out⟩
            · have x3 : decide (s0 < i) = false := by simpa using x1
              have x4 : decide ((s0 : Int) < (i : Int)) = false := by simp; omega
              have hLr := Lib.hid (hmd.out.noL (fun h => x1 h.1))
              go_upto_region 43 with fail
              by_cases y1 : mid < e
              · have y3 : decide (mid < e) = true := by simpa using y1
                have y4 : decide ((mid : Int) < (e : Int)) = true := by simp; omega
                by_cases yb1 : e < b
                · have yb3 : decide (e < b) = true := by simpa using yb1
                  have yb4 : decide ((e : Int) < (b : Int)) = true := by simp; omega
                  go_wp2_with (go_at_call 70; refine (ih'.out mid e b _ _ (by omega) hs1.out (hmd.out.goR hLr.out y1 yb1)).mono ?_; rintro ex w' ⟨rfl, f3, h1, h2⟩; replace hmd := Lib.hid (hmd.out.all hLr.out h2); replace hs1 := Lib.hid h1; clear h1 h2)
                  first | go_end0 | go_ret
                  exact ⟨rfl, _, hs1.out, hmd.out⟩
                · have yb3 : decide (e < b) = false := by simpa using yb1
                  have yb4 : decide ((e : Int) < (b : Int)) = false := by simp; omega
                  have hfin := Lib.hid (hmd.out.all hLr.out (hmd.out.noR hLr.out (fun h => yb1 h.2)))
                  go_wp2_with fail
                  first | go_end0 | go_ret
                  exact ⟨rfl, _, hs1.out, hfin.out⟩
              · have y3 : decide (mid < e) = false := by simpa using y1
                have y4 : decide ((mid : Int) < (e : Int)) = false := by simp; omega
                have hfin := Lib.hid (hmd.out.all hLr.out (hmd.out.noR hLr.out (fun h => y1 h.1)))
                go_wp2_with fail
                first | go_end0 | go_ret
                exact ⟨rfl, _, hs1.out, hfin.out⟩
end Go.Proofs.Ytdhklfbelplbcaa
