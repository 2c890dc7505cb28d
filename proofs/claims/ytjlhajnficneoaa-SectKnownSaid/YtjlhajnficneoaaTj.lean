/- The walks: Join of none; bounds of what is joined. -/
import Derived.Test.YtjlhajnficneoaaTi
namespace Go.Proofs.Ytjlhajnficneoaa
set_option linter.unusedVariables false
set_option linter.unusedSimpArgs false
open Go.RowKit

theorem join_none (A : Option Addr) (c : Nat) (w : World) : Calls Try.prog 24 #[.slice A 0 c] w fun e w' => e = .returned (.tuple #[.slice none 0 0, .bool false]) ∧ w = w' := by
  go_enter Try.func24, Try.ntmps24
  go_wp2_with fail
  go_ret2
  exact ⟨rfl, rfl⟩
theorem refjoin_none (A : Option Addr) (c : Nat) (w : World) : Calls Try.prog 25 #[.slice A 0 c] w fun e w' => e = .returned (.tuple #[.slice none 0 0, .bool false]) ∧ w = w' := by
  go_enter Try.func25, Try.ntmps25
  go_wp2_with fail
  go_ret2
  exact ⟨rfl, rfl⟩
theorem joinAll_bd (ps : List PartD) (h : ∀ p ∈ ps, p.data.length ≤ 52) : (joinAll ps).length ≤ 52 * ps.length := by
  induction ps with
  | nil => simp [joinAll]
  | cons p ps ih =>
    have h1 := h p (by simp)
    have h2 := ih (fun q hq => h q (by simp [hq]))
    have e : (joinAll (p :: ps)).length = p.data.length + (joinAll ps).length := by simp [joinAll]
    rw [e, List.length_cons]
    omega

/-- both joins at the same Parts -/
theorem both_joins (N : Nat) (ps : List PartD) (hN : ps.length = N) (hN9 : N ≤ 9) (A A' : Option Addr) (c c' : Nat) (w : World) (hP : PartsOf w A ps) (hP' : PartsOf w A' ps) (hg : ∀ p ∈ ps, Bytes8 p.data ∧ p.data.length ≤ 52) (hc : N ≤ c) (hc' : N ≤ c') :
    ∃ ok : Bool, (Calls Try.prog 24 #[.slice A N c] w fun e w' => ∃ B d l, e = .returned (.tuple #[.slice B l d, .bool ok]) ∧ (∃ bsx : List Nat, bsx.length = l ∧ Bytes8 bsx ∧ (ok = true → bsx = joinB ps) ∧ (ok = false → bsx = []) ∧ Rd w' B (bs bsx) ∧ (B = none → l = 0 ∧ d = 0)) ∧ Below w.heap.size w w') ∧
      (∀ w1, Below w.heap.size w w1 → Calls Try.prog 25 #[.slice A' N c'] w1 fun e w' => ∃ B d l, e = .returned (.tuple #[.slice B l d, .bool ok]) ∧ (∃ bsx : List Nat, bsx.length = l ∧ Bytes8 bsx ∧ (ok = true → bsx = joinB ps) ∧ (ok = false → bsx = []) ∧ Rd w' B (bs bsx) ∧ (B = none → l = 0 ∧ d = 0)) ∧ Below w1.heap.size w1 w') := by
  subst hN
  have hB8 : Bytes8 (joinB ps) := ((joinAll_8 ps (fun p hp => (hg p hp).1)).drop 4).take _
  have pack : ∀ (ok : Bool) (w0 w' : World) (v : Value), (ok = true → OwnB w' w0.heap.size v (joinB ps)) → (ok = false → v = .slice none 0 0) →
      ∃ B d l, v = .slice B l d ∧ (∃ bsx : List Nat, bsx.length = l ∧ Bytes8 bsx ∧ (ok = true → bsx = joinB ps) ∧ (ok = false → bsx = []) ∧ Rd w' B (bs bsx) ∧ (B = none → l = 0 ∧ d = 0)) := by
    intro ok w0 w' v h1 h2
    cases ok with
    | true =>
      obtain ⟨B, d, rfl, -, -, h3, h4, -⟩ := own_shape (h1 rfl)
      exact ⟨B, d, _, rfl, joinB ps, rfl, hB8, fun _ => rfl, (fun h => by cases h), h3, h4⟩
    | false =>
      rw [h2 rfl]
      exact ⟨none, 0, 0, rfl, [], rfl, Bytes8.nil, (fun h => by cases h), fun _ => rfl, Rd.nil _ _, fun _ => ⟨rfl, rfl⟩⟩
  by_cases h0 : ps.length = 0
  · refine ⟨false, ?_, fun w1 hb => ?_⟩
    · rw [h0]
      refine (join_none A c w).mono ?_
      rintro e w' ⟨rfl, rfl⟩
      obtain ⟨B, d, l, e1, e2⟩ := pack false w w (.slice none 0 0) (fun h => by cases h) (fun _ => rfl)
      exact ⟨B, d, l, by rw [e1], e2, Below.refl _ _⟩
    · rw [h0]
      refine (refjoin_none A' c' w1).mono ?_
      rintro e w' ⟨rfl, rfl⟩
      obtain ⟨B, d, l, e1, e2⟩ := pack false w1 w1 (.slice none 0 0) (fun h => by cases h) (fun _ => rfl)
      exact ⟨B, d, l, by rw [e1], e2, Below.refl _ _⟩
  · have hpos : 0 < ps.length := by omega
    obtain ⟨g, rfl, hat⟩ := parts_k hP 0 hpos
    obtain ⟨g', rfl, hat'⟩ := parts_k hP' 0 hpos
    have hp0 : ps[0]? = some ps[0] := List.getElem?_eq_getElem hpos
    have h8 : ∀ p ∈ ps, Bytes8 p.data := fun p hp => (hg p hp).1
    have hbd := joinAll_bd ps (fun p hp => (hg p hp).2)
    have hj := join_walk ps ps[0] g c w hat h8 hp0 (by omega) hc (by omega)
    have hr := fun w1 (hb : Below w.heap.size w w1) => refjoin_walk ps ps[0] g' c' w1 (hat'.below hb) h8 hp0 (by omega) hc'
    by_cases hJ : JoinOk ps[0] ps
    · refine ⟨true, hj.mono ?_, fun w1 hb => (hr w1 hb).mono ?_⟩
      · rintro e w' ⟨v, ok, rfl, h1, h2, h3, h4⟩
        have := h1.2 hJ
        subst this
        obtain ⟨B, d, l, rfl, e2⟩ := pack true w w' v h2 h3
        exact ⟨B, d, l, rfl, e2, h4⟩
      · rintro e w' ⟨v, ok, rfl, h1, h2, h3, h4⟩
        have := h1.2 hJ
        subst this
        obtain ⟨B, d, l, rfl, e2⟩ := pack true w1 w' v h2 h3
        exact ⟨B, d, l, rfl, e2, h4⟩
    · refine ⟨false, hj.mono ?_, fun w1 hb => (hr w1 hb).mono ?_⟩
      · rintro e w' ⟨v, ok, rfl, h1, h2, h3, h4⟩
        have : ok = false := by
          cases ok with
          | true => exact absurd (h1.1 rfl) hJ
          | false => rfl
        subst this
        obtain ⟨B, d, l, rfl, e2⟩ := pack false w w' v h2 h3
        exact ⟨B, d, l, rfl, e2, h4⟩
      · rintro e w' ⟨v, ok, rfl, h1, h2, h3, h4⟩
        have : ok = false := by
          cases ok with
          | true => exact absurd (h1.1 rfl) hJ
          | false => rfl
        subst this
        obtain ⟨B, d, l, rfl, e2⟩ := pack false w1 w' v h2 h3
        exact ⟨B, d, l, rfl, e2, h4⟩
end Go.Proofs.Ytjlhajnficneoaa
