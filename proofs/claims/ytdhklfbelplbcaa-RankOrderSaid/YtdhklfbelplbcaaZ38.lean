/-
  The walk of slices' stable sort of up to a thousand places.
  The walk of rank.Order, of up to a thousand races.
  An order has one way to be laid.
-/
import Derived.Test.YtdhklfbelplbcaaZ37
import Derived.Test.YtdhklfbelplbcaaZ34
namespace Go.Proofs.Ytdhklfbelplbcaa
set_option linter.unusedVariables false
set_option linter.unusedSimpArgs false
open Go.RowKit

/-- a stretch in order that holds its own places -/
def Seg1 (K : Nat → Int) (f : Nat → Nat) (a b : Nat) : Prop := SegS K f a b ∧ ∀ p, a ≤ p → p < b → a ≤ f p ∧ f p < b
theorem Seg1.congr {K : Nat → Int} {f f' : Nat → Nat} {a b : Nat} (h : Seg1 K f a b) (he : ∀ p, a ≤ p → p < b → f' p = f p) : Seg1 K f' a b :=
  ⟨fun p q h1 h2 h3 => by rw [he p h1 (by omega), he q (by omega) h3]; exact h.1 p q h1 h2 h3, fun p h1 h2 => by rw [he p h1 h2]; exact h.2 p h1 h2⟩
/-- from A on: stretches of s -/
def BlkS (K : Nat → Int) (f : Nat → Nat) (n A s : Nat) : Prop := ∀ j, A + j * s < n → Seg1 K f (A + j * s) (min (A + j * s + s) n)
/-- the first J stretches of s -/
def DnS (K : Nat → Int) (f : Nat → Nat) (J s : Nat) : Prop := ∀ j, j < J → Seg1 K f (j * s) (j * s + s)
theorem mul_up {j J s : Nat} (h : j < J) : j * s + s ≤ J * s := by
  have := Nat.mul_le_mul_right s (show j + 1 ≤ J by omega)
  rw [Nat.add_mul, Nat.one_mul] at this
  exact this
theorem DnS.step {K : Nat → Int} {f f' : Nat → Nat} {J s : Nat} (h : DnS K f J s) (hs : Seg1 K f' (J * s) (J * s + s)) (he : ∀ p, p < J * s → f' p = f p) : DnS K f' (J + 1) s := by
  intro j hj
  by_cases e : j = J
  · subst e; exact hs
  · exact (h j (by omega)).congr fun p _ h2 => he p (by have := mul_up (s := s) (show j < J by omega); omega)
/-- all stretches: the first J, and one that ends the row -/
theorem DnS.all {K : Nat → Int} {f : Nat → Nat} {n J s : Nat} (h : DnS K f J s) (hJ : J * s ≤ n) (hend : n < J * s + s) (hs : J * s < n → Seg1 K f (J * s) n) : BlkS K f n 0 s := by
  intro j hj
  rw [Nat.zero_add] at hj ⊢
  rcases Nat.lt_trichotomy j J with e | e | e
  · have := mul_up (s := s) e
    rw [Nat.min_eq_left (by omega)]
    exact h j e
  · subst e
    rw [Nat.min_eq_right (by omega)]
    exact hs hj
  · have := mul_up (s := s) e
    omega

variable {w0 : World} {gd hb gh n : Nat} {hs : List Nat}
/-- while stretches of twenty are laid -/
structure InsSt (w0 : World) (gd n : Nat) (K : Nat → Int) (W : World) (J A : Nat) (f : Nat → Nat) : Prop where
  st : SortSt w0 gd n f W
  pm : PermN n f
  hA : A = J * 20
  le : A ≤ n
  dn : DnS K f J 20
  id : ∀ p, A ≤ p → f p = p
/-- while stretches of s are merged, two at a time -/
structure MrgSt (w0 : World) (gd n : Nat) (K : Nat → Int) (W : World) (s J A : Nat) (f : Nat → Nat) : Prop where
  st : SortSt w0 gd n f W
  pm : PermN n f
  hA : A = J * (2 * s)
  le : A ≤ n
  dn : DnS K f J (2 * s)
  bl : BlkS K f n A s
theorem MrgSt.inn {w0 W : World} {gd n s J A : Nat} {K : Nat → Int} {f : Nat → Nat} (h : MrgSt w0 gd n K W s J A f) (hs : 0 < s) (e : Nat) (he : e ≤ n) (h1 : A + s < e) (h2 : e = min (A + 2 * s) n) : MgIn K (A + s) n f A (A + s) e := by
  have b0 := h.bl 0 (by omega)
  have b1 := h.bl 1 (by omega)
  rw [Nat.zero_mul, Nat.add_zero, Nat.min_eq_left (by omega)] at b0
  rw [Nat.one_mul, show A + s + s = A + 2 * s by omega, ← h2] at b1
  exact ⟨by omega, h1, he, b0.1, b1.1, fun p k1 k2 => (b0.2 p k1 k2).2, fun p k1 k2 => (b1.2 p k1 k2).1, h.pm⟩
theorem MgOut.seg1 {K : Nat → Int} {n : Nat} {f f' : Nat → Nat} {a b : Nat} (h : MgOut K n f f' a b) (hv : ∀ p, a ≤ p → p < b → a ≤ f p ∧ f p < b) : Seg1 K f' a b :=
  ⟨h.seg, fun p k1 k2 => by obtain ⟨q, q1, q2, q3⟩ := h.from_ p k1 k2; rw [q3]; exact hv q q1 q2⟩
theorem MrgSt.vals {w0 W : World} {gd n s J A : Nat} {K : Nat → Int} {f : Nat → Nat} (h : MrgSt w0 gd n K W s J A f) (hs : 0 < s) (e : Nat) (h1 : A + s < e) (h2 : e = min (A + 2 * s) n) : ∀ p, A ≤ p → p < e → A ≤ f p ∧ f p < e := by
  intro p k1 k2
  have b0 := h.bl 0 (by omega)
  have b1 := h.bl 1 (by omega)
  rw [Nat.zero_mul, Nat.add_zero, Nat.min_eq_left (by omega)] at b0
  rw [Nat.one_mul, show A + s + s = A + 2 * s by omega, ← h2] at b1
  by_cases c : p < A + s
  · have := b0.2 p k1 c; omega
  · have := b1.2 p (by omega) k2; omega
theorem MrgSt.step {w0 W W' : World} {gd n s J A : Nat} {K : Nat → Int} {f f' : Nat → Nat} (h : MrgSt w0 gd n K W s J A f) (hs : 0 < s) (hb : A + 2 * s ≤ n) (hst : SortSt w0 gd n f' W') (ho : MgOut K n f f' A (A + 2 * s)) : MrgSt w0 gd n K W' s (J + 1) (A + 2 * s) f' := by
  have hv := h.vals hs (A + 2 * s) (by omega) (by omega)
  have h1 := ho.seg1 hv
  refine ⟨hst, ho.perm, by rw [h.hA, Nat.add_mul, Nat.one_mul], hb, ?_, fun j hj => ?_⟩
  · have := h.hA
    refine h.dn.step (by rw [← this]; exact h1) (fun p hp => ho.out p (by omega))
  · have e : A + 2 * s + j * s = A + (j + 2) * s := by rw [Nat.add_mul]; omega
    rw [e] at hj ⊢
    refine (h.bl (j + 2) hj).congr fun p k1 _ => ho.out p (by rw [Nat.add_mul] at k1; omega)
theorem MrgSt.last {w0 W : World} {gd n s J A : Nat} {K : Nat → Int} {f f' : Nat → Nat} (h : MrgSt w0 gd n K W s J A f) (hs : 0 < s) (hb : n < A + 2 * s) (hm : A + s < n) (ho : MgOut K n f f' A n) : BlkS K f' n 0 (2 * s) := by
  have hA := h.hA
  have hv := h.vals hs n hm (by omega)
  have d : DnS K f' J (2 * s) := fun j hj => (h.dn j hj).congr fun p _ k2 => ho.out p (by have := mul_up (s := 2 * s) hj; omega)
  exact d.all (by have := h.le; omega) (by omega) (fun _ => by rw [← hA]; exact ho.seg1 hv)
theorem MrgSt.lone {w0 W : World} {gd n s J A : Nat} {K : Nat → Int} {f : Nat → Nat} (h : MrgSt w0 gd n K W s J A f) (hs : 0 < s) (hm : n ≤ A + s) : BlkS K f n 0 (2 * s) := by
  have hA := h.hA
  refine h.dn.all (by have := h.le; omega) (by omega) (fun k => ?_)
  rw [← hA] at k ⊢
  have b0 := h.bl 0 (by omega)
  rw [Nat.zero_mul, Nat.add_zero, Nat.min_eq_right (by omega)] at b0
  exact b0
theorem InsSt.step {w0 W W' : World} {gd n J A : Nat} {K : Nat → Int} {f f' : Nat → Nat} (h : InsSt w0 gd n K W J A f) (hb : A + 20 ≤ n) (hst : SortSt w0 gd n f' W') (hp : PermN n f') (ho : ∀ p, ¬ (A ≤ p ∧ p < A + 20) → f' p = f p) (hs : SegS K f' A (A + 20)) (hv : ∀ p, A ≤ p → p < A + 20 → A ≤ f' p ∧ f' p < A + 20) :
    InsSt w0 gd n K W' (J + 1) (A + 20) f' := by
  have hA := h.hA
  refine ⟨hst, hp, by rw [hA, Nat.add_mul], hb, h.dn.step (by rw [← hA]; exact ⟨hs, hv⟩) (fun p k => ho p (by omega)), fun p k => by rw [ho p (by omega)]; exact h.id p (by omega)⟩
theorem InsSt.last {w0 W : World} {gd n J A : Nat} {K : Nat → Int} {f f' : Nat → Nat} (h : InsSt w0 gd n K W J A f) (hb : n < A + 20) (ho : ∀ p, ¬ (A ≤ p ∧ p < n) → f' p = f p) (hs : SegS K f' A n) (hv : ∀ p, A ≤ p → p < n → A ≤ f' p ∧ f' p < n) : BlkS K f' n 0 20 := by
  have hA := h.hA
  have d : DnS K f' J 20 := fun j hj => (h.dn j hj).congr fun p _ k2 => ho p (by have := mul_up (s := 20) hj; omega)
  exact d.all (by have := h.le; omega) (by omega) (fun _ => by rw [← hA]; exact ⟨hs, hv⟩)

set_option maxHeartbeats 16000000 in
set_option maxRecDepth 100000 in
theorem stable_big (E : Env w0 gd hb gh n hs) (W : World) (hst : SortSt w0 gd n (fun p => p) W) :
    Calls Try.prog 60 #[.slice (some ⟨gd, 0, none⟩) n n, .int .i64 (n : Nat), FNG hb] W fun e w' => e = .returned (.tuple #[]) ∧ ∃ f', SortSt w0 gd n f' w' ∧ PermN n f' ∧ SegS (keyL hs) f' 0 n := by
  unfold FNG
  have hnb := E.nb
  have hst' := Lib.hid hst
  clear hst
  go_enter Try.func60, Try.ntmps60
  go_wp2_with fail
  go_loopw [7, 8] (fun i j wr => ∃ (J A : Nat) (f : Nat → Nat), i = .int .i64 (A : Nat) ∧ j = .int .i64 ((A : Int) + 20) ∧ InsSt w0 gd n (keyL hs) wr J A f) (fun i _ _ => n + 20 - (intOf i).toNat)
  case atStart => exact ⟨0, 0, fun p => p, rfl, rfl, hst'.out, PermN.id n, rfl, Nat.zero_le _, fun j hj => by omega, fun p _ => rfl⟩
  case round =>
    obtain ⟨J, A, f, rfl, rfl, hI⟩ := hrel
    have hle := hI.le
    by_cases c : A + 20 ≤ n
    · have c2 : decide ((A : Int) + 20 ≤ (n : Int)) = true := by simp; omega
      replace hI := Lib.hid hI
      have hcl : Hid (Calls Try.prog 69 #[.slice (some ⟨gd, 0, none⟩) n n, .int .i64 (A : Nat), .int .i64 ((A : Int) + 20), FNG hb] wr fun e w' => e = .returned (.tuple #[]) ∧ ∃ f', SortSt w0 gd n f' w' ∧ PermN n f' ∧ (∀ p, ¬ (A ≤ p ∧ p < A + 20) → f' p = f p) ∧ SegS (keyL hs) f' A (A + 20) ∧ (∀ p, A ≤ p → p < A + 20 → A ≤ f' p ∧ f' p < A + 20)) := Lib.hid (insert_any E A (A + 20) f _ hI.out.st hI.out.pm (fun p h _ => hI.out.id p h) c (by omega))
      unfold FNG at hcl
      go_wp2_with (go_at_call 69; refine hcl.out.mono ?_; rintro ex w' ⟨rfl, f1, h1, h2, h3, h4, h5⟩; have hI2 := Lib.hid (hI.out.step c h1 h2 h3 h4 h5); clear h1 h2 h3 h4 h5)
      exact ⟨⟨J + 1, A + 20, f1, by go_num, by go_num, hI2.out⟩, by simp [intOf]; omega⟩
    · have c2 : decide ((A : Int) + 20 ≤ (n : Int)) = false := by simp; omega
      replace hI := Lib.hid hI
      have hcl := Lib.hid (insert_any E A n f _ hI.out.st hI.out.pm (fun p h _ => hI.out.id p h) (Nat.le_refl _) hle)
      unfold FNG at hcl
      go_wp2_with (go_at_call 69; refine hcl.out.mono ?_; rintro ex w' ⟨rfl, f1, h1, h2, h3, h4, h5⟩; have hM := Lib.hid (hI.out.last (by omega) h3 h4 h5); replace h1 := Lib.hid h1; replace h2 := Lib.hid h2; clear h3 h4 h5)
      go_loopw [6] (fun i wr => ∃ (s : Nat) (f : Nat → Nat), i = .int .i64 (s : Nat) ∧ 0 < s ∧ s ≤ 2000 ∧ SortSt w0 gd n f wr ∧ PermN n f ∧ BlkS (keyL hs) f n 0 s) (fun i _ => n - (intOf i).toNat)
      case atStart => exact ⟨20, f1, rfl, by omega, by omega, h1.out, h2.out, hM.out⟩
      case round =>
        obtain ⟨s, f2, rfl, hs0, hs2, k1, k2, k3⟩ := hrel
        by_cases d : s < n
        · have d2 : decide ((s : Int) < (n : Int)) = true := by simp; omega
          have hM0 : Hid (MrgSt w0 gd n (keyL hs) wr s 0 0 f2) := Lib.hid ⟨k1, k2, by omega, Nat.zero_le _, fun j hj => by omega, k3⟩
          clear k1 k2 k3
          obtain ⟨wq, hwq⟩ : ∃ x, x = wr := ⟨_, rfl⟩
          subst hwq
          go_wp2_with fail
          go_loopw [7, 8] (fun i j ws => ∃ (J A : Nat) (f : Nat → Nat), i = .int .i64 (A : Nat) ∧ j = .int .i64 ((A : Int) + 2 * (s : Int)) ∧ MrgSt w0 gd n (keyL hs) ws s J A f) (fun i _ _ => n + 2 * s - (intOf i).toNat)
          case atStart => exact ⟨0, 0, f2, rfl, by simp, hM0.out⟩
          case round =>
            obtain ⟨J, A, f3, rfl, rfl, hM3⟩ := hrel
            have hle3 := hM3.le
            by_cases c3 : A + 2 * s ≤ n
            · have c4 : decide ((A : Int) + 2 * (s : Int) ≤ (n : Int)) = true := by simp; omega
              replace hM3 := Lib.hid hM3
              have hcl : Hid (Calls Try.prog 70 #[.slice (some ⟨gd, 0, none⟩) n n, .int .i64 (A : Nat), .int .i64 ((A : Int) + (s : Int)), .int .i64 ((A : Int) + 2 * (s : Int)), FNG hb] wr fun e w' => e = .returned (.tuple #[]) ∧ ∃ f', SortSt w0 gd n f' w' ∧ MgOut (keyL hs) n f3 f' A (A + 2 * s)) := Lib.hid (by
                have := symm_any E (A + s) (A + 2 * s) A (A + s) (A + 2 * s) f3 wr (by omega) hM3.out.st (hM3.out.inn hs0 _ c3 (by omega) (by omega))
                rw [show ((A + s : Nat) : Int) = (A : Int) + (s : Int) by omega, show ((A + 2 * s : Nat) : Int) = (A : Int) + 2 * (s : Int) by omega] at this
                exact this)
              unfold FNG at hcl
              go_wp2_with (go_at_call 70; refine hcl.out.mono ?_; rintro ex w' ⟨rfl, f4, e1, e2⟩; have hM4 := Lib.hid (hM3.out.step hs0 c3 e1 e2); clear e1 e2)
              exact ⟨⟨J + 1, A + 2 * s, f4, by go_num, by go_num, hM4.out⟩, by simp [intOf]; omega⟩
            · have c4 : decide ((A : Int) + 2 * (s : Int) ≤ (n : Int)) = false := by simp; omega
              replace hM3 := Lib.hid hM3
              by_cases c5 : A + s < n
              · have c6 : decide ((A : Int) + (s : Int) < (n : Int)) = true := by simp; omega
                have hcl : Hid (Calls Try.prog 70 #[.slice (some ⟨gd, 0, none⟩) n n, .int .i64 (A : Nat), .int .i64 ((A : Int) + (s : Int)), .int .i64 (n : Nat), FNG hb] wr fun e w' => e = .returned (.tuple #[]) ∧ ∃ f', SortSt w0 gd n f' w' ∧ MgOut (keyL hs) n f3 f' A n) := Lib.hid (by
                  have := symm_any E (A + s) n A (A + s) n f3 wr (by omega) hM3.out.st (hM3.out.inn hs0 n (Nat.le_refl _) c5 (by omega))
                  rw [show ((A + s : Nat) : Int) = (A : Int) + (s : Int) by omega] at this
                  exact this)
                unfold FNG at hcl
                go_wp2_with (go_at_call 70; refine hcl.out.mono ?_; rintro ex w' ⟨rfl, f4, e1, e2⟩; have hB4 := Lib.hid (hM3.out.last hs0 (by omega) c5 e2); replace e1 := Lib.hid e1; replace e2 := Lib.hid e2)
                exact ⟨⟨2 * s, f4, by go_num, by omega, by omega, e1.out, e2.out.perm, hB4.out⟩, by simp [intOf]; omega⟩
              · have c6 : decide ((A : Int) + (s : Int) < (n : Int)) = false := by simp; omega
                go_wp2_with fail
                exact ⟨⟨2 * s, f3, by go_num, by omega, by omega, hM3.out.st, hM3.out.pm, hM3.out.lone hs0 (by omega)⟩, by simp [intOf]; omega⟩
        · have d2 : decide ((s : Int) < (n : Int)) = false := by simp; omega
          replace k1 := Lib.hid k1
          replace k2 := Lib.hid k2
          replace k3 := Lib.hid k3
          go_wp2_with fail
          first | go_end0 | go_ret
          refine ⟨rfl, f2, k1.out, k2.out, ?_⟩
          by_cases z : n = 0
          · subst z; exact fun p q _ _ h => by omega
          · have := k3.out 0 (by omega)
            rw [Nat.zero_mul, Nat.add_zero, Nat.min_eq_right (by omega)] at this
            exact this.1

set_option maxHeartbeats 4000000 in
theorem sort_big (E : Env w0 gd hb gh n hs) (W : World) (hst : SortSt w0 gd n (fun p => p) W) :
    Calls Try.prog 46 #[.slice (some ⟨gd, 0, none⟩) n n, FNG hb] W fun e w' => e = .returned (.tuple #[]) ∧ ∃ f', SortSt w0 gd n f' w' ∧ PermN n f' ∧ SegS (keyL hs) f' 0 n := by
  unfold FNG
  have hst' := Lib.hid hst
  clear hst
  go_enter Try.func46, Try.ntmps46
  go_wp2_with (go_at_call 60; refine (stable_big E _ hst'.out).mono ?_; rintro ex w' ⟨rfl, f2, h1, h2, h3⟩; have hs2 := Lib.hid h1; have hp := Lib.hid h2; have hsg := Lib.hid h3; clear h1 h2 h3)
  first | go_end0 | go_ret
  exact ⟨rfl, f2, hs2.out, hp.out, hsg.out⟩
end Go.Proofs.Ytdhklfbelplbcaa
namespace Go.Proofs.Ytdhklfbelplbcaa
set_option linter.unusedVariables false
set_option linter.unusedSimpArgs false
open Go.RowKit Go.Maps

attribute [local go_sem] run_store_float
set_option maxHeartbeats 4000000 in
set_option maxRecDepth 100000 in
theorem order_big (w : World) (A A1 A2 B C : Option Addr) (c l1 c1 l2 c2 cb cc : Nat) (ns cs : List ByteArray) (hv : List Nat) (hr : RaceR w A ns) (hr1 : Rd w B (strsG cs)) (hr2 : Rd w C (fl hv))
    (hn : ns.length ≤ c) (hc : c ≤ 9223372036854775807) (h30 : ns.length ≤ 900) (hcb : cs.length ≤ cb) (hcb2 : cb ≤ 9223372036854775807) (hcc : hv.length ≤ cc) (hcc2 : cc ≤ 9223372036854775807) (hsz : ∀ x ∈ ns, x.size ≤ maxLen) :
    Calls Try.prog 23 #[.agg #[.slice A ns.length c, .slice A1 l1 c1, .slice A2 l2 c2], .slice B cs.length cb, .slice C hv.length cc] w fun e w' => ∃ gd f, e = .returned (.slice (some ⟨gd, 0, none⟩) ns.length ns.length) ∧ w'.heap[gd]? = some (.cells (rowF ns.length f).toArray 3 (0, 0)) ∧ PermN ns.length f ∧ SegS (keyR ns cs hv) f 0 ns.length ∧ Below w.heap.size w w' ∧ w.heap.size ≤ gd := by
  have hr' := Lib.hid hr
  have hr1' := Lib.hid hr1
  have hr2' := Lib.hid hr2
  have hsz' := Lib.hid hsz
  clear hr hr1 hr2 hsz
  have hmm := @run_makeMap Try.prog
  go_enter Try.func23, Try.ntmps23
  go_wp2_with fail
  go_loopw [18] (fun i wr => ∃ k : Nat, i = .int .i64 (k : Nat) ∧ k ≤ ns.length ∧ OrdA w wr #[.slice A ns.length c, .slice A1 l1 c1, .slice A2 l2 c2] ns k) (fun i _ => ns.length - (intOf i).toNat)
  case atStart => exact ⟨0, rfl, Nat.zero_le _, OrdA.start _ _ _⟩
  case round =>
    obtain ⟨k, rfl, hk, hO⟩ := hrel
    by_cases hlt : k < ns.length
    · have hd : decide (k < ns.length) = true := by simpa using hlt
      have hd2 : decide ((k : Int) < (ns.length : Int)) = true := by simp; omega
      obtain ⟨ad, s1, x1, s2, x2, rfl, hc0, hc1, hc2, hc3, hc4⟩ := (hr'.out.below hO.hB) k hlt
      obtain ⟨s0, hs0⟩ : ∃ s0, ns[k] = s0 := ⟨_, rfl⟩
      rw [hs0] at hc0
      obtain ⟨q, hq⟩ : ∃ q : Nat, cntP ns s0 k = q := ⟨_, rfl⟩
      have hqk : q ≤ k := by rw [← hq]; exact cntP_le _ _ _
      have hs0z : s0.size ≤ maxLen := hsz'.out s0 (by rw [← hs0]; exact List.getElem_mem _)
      have hmp := hO.mp.kept (World.grownBy_alloc wr (Obj.cells #[.string s0, .string s1, .int .i64 x1, .string s2, .int .i64 x2] 86) none) (by simp)
      have hlk := hmp.lookup s0 hs0z
      obtain ⟨W', hup, hm', hg'⟩ := hmp.update s0 (by rw [List.getElem?_eq_getElem hlt, hs0]) hs0z (by omega) (by omega)
      rw [hq] at hlk hup
      have hO' := Lib.hid (hO.step _ hm' hg')
      have k1 : (0 : Int) ≤ (k : Int) := by omega
      have k2 : (k : Int) < (ns.length : Int) := by omega
      replace hO := Lib.hid hO
      replace hs0 := Lib.hid hs0
      replace hq := Lib.hid hq
      clear hmp hm' hg'
      go_wp2_with fail
      exact ⟨⟨k + 1, by go_num, by omega, hO'.out⟩, by simp [intOf]; omega⟩
    · have hd : decide (k < ns.length) = false := by simpa using hlt
      have hd2 : decide ((k : Int) < (ns.length : Int)) = false := by simp; omega
      have hkn : k = ns.length := by omega
      subst hkn
      have hx := cell_of_row wr w.heap.size 0 _ 48 (0, 0) hO.bx
      simp only [List.getElem?_toArray, List.getElem?_cons_zero, List.getElem?_cons_succ] at hx
      have hx1 : (wr.alloc (.cells (zer (.int .i64 0) ns.length).toArray 3)).cell? ⟨w.heap.size, 0, none⟩ = some (.slice A ns.length c) := bl_cell (bl_alloc (Below.refl _ _) _) hx
      have hx2 : (((wr.alloc (.cells (zer (.int .i64 0) ns.length).toArray 3)).alloc (.cells (zer (.float .f64 0) ns.length).toArray 23)).alloc (.cells #[.slice (some ⟨wr.heap.size + 1, 0, none⟩) ns.length ns.length] 25)).cell? ⟨w.heap.size, 0, none⟩ = some (.slice A ns.length c) := bl_cell (bl_alloc (bl_alloc (bl_alloc (Below.refl _ _) _) _) _) hx
      have hmk1 : ∀ w, (Instr.makeSlice 22 (.int .i64 (ns.length : Nat)) (.int .i64 (ns.length : Nat))).run Try.prog w = .ok (.slice (some ⟨w.heap.size, 0, none⟩) ns.length ns.length) (w.alloc (.cells (zer (.int .i64 0) ns.length).toArray 3)) := fun w => mk_row 22 3 (.int .i64 0) 8 Try.underlying22 info3 rfl ns.length (by omega) (by omega) w
      have hmk2 : ∀ w, (Instr.makeSlice 25 (.int .i64 (ns.length : Nat)) (.int .i64 (ns.length : Nat))).run Try.prog w = .ok (.slice (some ⟨w.heap.size, 0, none⟩) ns.length ns.length) (w.alloc (.cells (zer (.float .f64 0) ns.length).toArray 23)) := fun w => mk_row 25 23 (.float .f64 0) 8 Try.underlying25 info23 rfl ns.length (by omega) (by omega) w
      replace hO := Lib.hid hO
      obtain ⟨wq, hwq⟩ : ∃ x, x = wr := ⟨_, rfl⟩
      subst hwq
      obtain ⟨P, hP⟩ : ∃ P : Nat → Option Nat, P = fun i => mulO (wtP cs hv (ns[i]?.getD ByteArray.empty) cs.length) (cntP ns (ns[i]?.getD ByteArray.empty) ns.length) := ⟨_, rfl⟩
      replace hP := Lib.hid hP
      go_wp2_with fail
      go_loopw [39] (fun i ws => ∃ (k : Nat) (hs : List Nat), i = .int .i64 (k : Nat) ∧ k ≤ ns.length ∧ OrdB wq ws ns.length P k k hs) (fun i _ => ns.length - (intOf i).toNat)
      case atStart => exact ⟨0, _, rfl, Nat.zero_le _, OrdB.start _ _ _⟩
      case round =>
        obtain ⟨k, hs, rfl, hk, hQ⟩ := hrel
        by_cases hlt : k < ns.length
        · have hd : decide (k < ns.length) = true := by simpa using hlt
          have hd2 : decide ((k : Int) < (ns.length : Int)) = true := by simp; omega
          obtain ⟨ad, s1, x1, s2, x2, rfl, hc0, hc1, hc2, hc3, hc4⟩ := ((hr'.out.below hO.out.hB).below hQ.hB) k hlt
          obtain ⟨s0, hs0⟩ : ∃ s0, ns[k] = s0 := ⟨_, rfl⟩
          rw [hs0] at hc0
          obtain ⟨q, hq⟩ : ∃ q : Nat, cntP ns s0 ns.length = q := ⟨_, rfl⟩
          have hqk : q ≤ ns.length := by rw [← hq]; exact cntP_le _ _ _
          have hs0z : s0.size ≤ maxLen := hsz'.out s0 (by rw [← hs0]; exact List.getElem_mem _)
          have k1 : (0 : Int) ≤ (k : Int) := by omega
          have k2 : (k : Int) < (ns.length : Int) := by omega
          replace hs0 := Lib.hid hs0
          replace hq := Lib.hid hq
          obtain ⟨hQ2, hrc⟩ := hQ.into hlt s0 s1 s2 x1 x2
          have hod := hQ.od
          have hfr : (wr.alloc (.cells #[.string s0, .string s1, .int .i64 x1, .string s2, .int .i64 x2] 86)).frozen? ⟨wq.heap.size, k, none⟩ = false := by
            have : (wr.alloc (.cells #[.string s0, .string s1, .int .i64 x1, .string s2, .int .i64 x2] 86)).heap[wq.heap.size]? = some (.cells (rowF ns.length (fun p => if p < k then p else 0)).toArray 3 (0, 0)) := by rw [Below.heap_alloc _ _ _ (by have := hQ.sz; omega)]; exact hod
            simp [World.frozen?, this]
          have hcl : (wr.alloc (.cells #[.string s0, .string s1, .int .i64 x1, .string s2, .int .i64 x2] 86)).cell? ⟨wq.heap.size, k, none⟩ = some (.int .i64 (0 : Nat)) := by
            have : (wr.alloc (.cells #[.string s0, .string s1, .int .i64 x1, .string s2, .int .i64 x2] 86)).heap[wq.heap.size]? = some (.cells (rowF ns.length (fun p => if p < k then p else 0)).toArray 3 (0, 0)) := by rw [Below.heap_alloc _ _ _ (by have := hQ.sz; omega)]; exact hod
            rw [cell_of_row _ wq.heap.size k _ 3 (0, 0) this]
            simp [rowF, hlt]
          replace hQ := Lib.hid hQ
          clear hod
          replace hQ2 := Lib.hid hQ2
          replace hrc := Lib.hid hrc
          go_upto_region 13 with fail
          generalize hW2 : (wr.alloc (.cells #[.string s0, .string s1, .int .i64 x1, .string s2, .int .i64 x2] 86)).setCell ⟨wq.heap.size, k, none⟩ (.int .i64 (k : Nat)) = W2 at hQ2 hrc ⊢
          generalize hZ : wr.heap.size = Z at hrc ⊢
          have y0 := hrc.out
          have y1 : W2.cell? ⟨wq.heap.size + 2, 0, none⟩ = some (.slice (some ⟨wq.heap.size + 1, 0, none⟩) ns.length ns.length) := by rw [cell_of_row _ _ 0 _ 25 (0, 0) hQ2.out.bx]; rfl
          have y2 : ∃ b, W2.cell? ⟨wq.heap.size + 1, k, none⟩ = some (.float .f64 b) := by
            have hl := hQ2.out.len
            exact ⟨hs[k], by rw [cell_of_row _ _ k _ 23 (0, 0) hQ2.out.hv]; simp [fl, enc, show k < hs.length by omega]⟩
          obtain ⟨b, y2⟩ := y2
          have y3 : W2.frozen? ⟨wq.heap.size + 1, k, none⟩ = false := by simp [World.frozen?, hQ2.out.hv]
          have hBd := hQ2.out.hB.drew
          have z0 : W2.drew.cell? ⟨Z, 0, none⟩ = some (.string s0) := y0
          have z1 : W2.drew.cell? ⟨wq.heap.size + 2, 0, none⟩ = some (.slice (some ⟨wq.heap.size + 1, 0, none⟩) ns.length ns.length) := y1
          have z2 : W2.drew.cell? ⟨wq.heap.size + 1, k, none⟩ = some (.float .f64 b) := y2
          have z3 : W2.drew.frozen? ⟨wq.heap.size + 1, k, none⟩ = false := y3
          have hg2 : wq.grownBy W2.drew none := ⟨hBd.os, hBd.tape, hBd.output, hBd.size, fun k hk _ => hBd.block k hk⟩
          have hlk := (hO.out.mp.kept hg2 (by simp)).lookup s0 hs0z
          rw [hq.out] at hlk
          have hbw : Below w.heap.size w W2.drew := bl_then hO.out.hB hO.out.hB.size hBd
          obtain ⟨wv, hwv⟩ : ∃ wv, wtP cs hv s0 cs.length = wv := ⟨_, rfl⟩
          have hwt : Hid (Calls Try.prog 45 #[.string s0, .slice B cs.length cb, .slice C hv.length cc] W2.drew fun e w' => e = .returned (.float .f64 wv) ∧ w' = W2.drew) := Lib.hid (by
            have := weight_any B C cb cc cs hv s0 W2.drew (hr1'.out.below hbw) (hr2'.out.below hbw) hcb hcb2 hcc hcc2
            rwa [hwv] at this)
          have hPk : Hid (P k = mulO wv q) := Lib.hid (by rw [hP.out]; simp only [List.getElem?_eq_getElem hlt, hs0.out, Option.getD_some, hwv, hq.out])
          clear hg2 hbw hBd hfr hcl hc0 hc1 hc2 hc3 hc4 hx hx1 hx2 hmk1 hmk2
          replace hwv := Lib.hid hwv
          replace hW2 := Lib.hid hW2
          replace hZ := Lib.hid hZ
          obtain ⟨r, mm, hmul, hro⟩ := run_mul (P := Try.prog) W2.drew 23 wv q
          have hlaid := Lib.hid (hQ2.out.laid hlt r (by rw [hPk.out]; exact hro))
          have v0 : (W2.drew.drewN mm).cell? ⟨Z, 0, none⟩ = some (.string s0) := y0
          have v1 : (W2.drew.drewN mm).cell? ⟨wq.heap.size + 2, 0, none⟩ = some (.slice (some ⟨wq.heap.size + 1, 0, none⟩) ns.length ns.length) := y1
          have v2 : (W2.drew.drewN mm).cell? ⟨wq.heap.size + 1, k, none⟩ = some (.float .f64 b) := y2
          have v3 : (W2.drew.drewN mm).frozen? ⟨wq.heap.size + 1, k, none⟩ = false := y3
          replace hro := Lib.hid hro
          go_region_with ((go_at_call 45; refine hwt.out.mono ?_; rintro e w' ⟨rfl, rfl⟩))
          all_goals (go_wp2_with fail; exact ⟨⟨k + 1, hs.set k r, by go_num, by omega, hlaid.out.of_eq rfl rfl rfl rfl⟩, by simp [intOf]; omega⟩)
        · have hd : decide (k < ns.length) = false := by simpa using hlt
          have hd2 : decide ((k : Int) < (ns.length : Int)) = false := by simp; omega
          have hkn : k = ns.length := by omega
          subst hkn
          obtain ⟨hE, hst⟩ := hQ.ready (by omega)
          have hE' := Lib.hid hE
          have hst' := Lib.hid hst
          replace hQ := Lib.hid hQ
          clear hE hst hx hx1 hx2 hmk1 hmk2
          go_wp2_with (go_at_call 46; refine (sort_big hE'.out _ hst'.out).mono ?_; rintro ex w' ⟨rfl, f2, h1, h2, h3⟩; have hs2 := Lib.hid h1; have hp := Lib.hid h2; have hsg := Lib.hid h3; clear h1 h2 h3)
          have hB3 : Below w.heap.size w wr := bl_then hO.out.hB hO.out.hB.size hQ.out.hB
          have hz := hO.out.hB.size
          refine bodyPost_ret (v := .slice (some ⟨wq.heap.size, 0, none⟩) ns.length ns.length) (by simp [results, Try.results23, go_sem]) rfl ⟨wq.heap.size, f2, rfl, hs2.out.2, hp.out, hsg.out.congr hp.out (fun i hi => ?_), hB3.grown hs2.out.1 hB3.size (fun j hj => by cases hj; exact hz), hz⟩
          have hl := hQ.out.len
          have := (hQ.out.ok i hi (by omega)).key
          unfold keyL keyR
          rw [List.getElem?_eq_getElem (by omega)]
          rw [hP.out] at this
          exact this
end Go.Proofs.Ytdhklfbelplbcaa
namespace Go.Proofs.Ytdhklfbelplbcaa
set_option linter.unusedVariables false
/-! ### an order has one way to be laid -/
theorem perm_onto : ∀ (n : Nat) (f : Nat → Nat), PermN n f → ∀ v, v < n → ∃ p, p < n ∧ f p = v := by
  intro n
  induction n with
  | zero => intro f _ v hv; omega
  | succ n ih =>
    intro f ⟨h1, h2⟩ v hv
    have hn := h1 n (by omega)
    have hp : PermN n (fun p => if f p = n then f n else f p) := by
      refine ⟨fun p hp => ?_, fun p q hp hq e => ?_⟩
      · have a := h1 p (by omega)
        have b : f p ≠ f n := fun e => by have := h2 p n (by omega) (by omega) e; omega
        show (if f p = n then f n else f p) < n
        split
        · omega
        · omega
      · have bp : f p ≠ f n := fun e => by have := h2 p n (by omega) (by omega) e; omega
        have bq : f q ≠ f n := fun e => by have := h2 q n (by omega) (by omega) e; omega
        dsimp only at e
        split at e <;> split at e
        · exact h2 p q (by omega) (by omega) (by omega)
        · exact absurd e.symm bq
        · exact absurd e bp
        · exact h2 p q (by omega) (by omega) e
    by_cases e1 : v = f n
    · exact ⟨n, by omega, e1.symm⟩
    · by_cases e2 : v = n
      · obtain ⟨p, p1, p2⟩ := ih _ hp (f n) (by omega)
        have b : f p ≠ f n := fun e => by have := h2 p n (by omega) (by omega) e; omega
        split at p2
        · exact ⟨p, by omega, by omega⟩
        · exact absurd p2 b
      · obtain ⟨p, p1, p2⟩ := ih _ hp v (by omega)
        split at p2
        · exact absurd p2.symm e1
        · exact ⟨p, by omega, p2⟩

theorem LtK.irrefl {K : Nat → Int} {x : Nat} : ¬ LtK K x x := by unfold LtK; omega
/-- two rows in the same order are the same -/
theorem sorted_same {n : Nat} {K : Nat → Int} {f g : Nat → Nat} (hf : PermN n f) (hg : PermN n g) (sf : SegS K f 0 n) (sg : SegS K g 0 n) : ∀ p, p < n → f p = g p := by
  intro p
  induction p using Nat.strongRecOn with
  | _ p ih =>
    intro hp
    -- what comes later in the one is not ahead in the other
    have key : ∀ (f g : Nat → Nat), PermN n f → PermN n g → SegS K f 0 n → (∀ q, q < p → f q = g q) → ¬ LtK K (g p) (f p) := by
      intro f g hf hg sf hq hl
      obtain ⟨r, hr, e⟩ := perm_onto n f hf (g p) (hg.1 p hp)
      rcases Nat.lt_trichotomy r p with h | h | h
      · have e2 := hq r h
        rw [e] at e2
        have := hg.2 p r hp hr e2
        omega
      · subst h; rw [e] at hl; exact LtK.irrefl hl
      · have := sf p r (Nat.zero_le _) h hr
        rw [e] at this
        exact hl.asymm this
    have h1 := key f g hf hg sf (fun q hq => ih q hq (by omega))
    have h2 := key g f hg hf sg (fun q hq => (ih q hq (by omega)).symm)
    by_cases e : f p = g p
    · exact e
    · exact absurd (LtK.of_not e h2) h1

end Go.Proofs.Ytdhklfbelplbcaa
