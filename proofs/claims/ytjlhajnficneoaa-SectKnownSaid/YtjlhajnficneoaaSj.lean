/- The walks: ref.Bytes, where it refuses. -/
import Derived.Test.YtjlhajnficneoaaSi
namespace Go.Proofs.Ytjlhajnficneoaa
set_option linter.unusedVariables false
set_option linter.unusedSimpArgs false
open Go.RowKit

set_option maxHeartbeats 4000000 in
set_option maxRecDepth 100000 in
theorem refbytes_no (p : PartD) (A : Option Addr) (c : Nat) (w : World) (hno : ¬ p.ok) (hc : p.data.length ≤ 9223372036854775807) :
    Calls Try.prog 18 #[.agg #[.int .i64 p.gen, .int .i64 p.rc, .int .i64 p.n, .int .i64 p.ofn, .slice A p.data.length c]] w fun e w' => e = .returned (.tuple #[.slice none 0 0, .int .i64 1]) ∧ Below w.heap.size w w' := by
  by_cases h0 : p.gen < 1
  · have e0 := decide_eq_true h0
    clear h0 hno
    go_enter Try.func18, Try.ntmps18
    go_wp2_with fail
    go_ret2
    exact ⟨rfl, bl_alloc (Below.refl _ _) _⟩
  by_cases h1 : p.gen > 4294967295
  · have e1 := decide_eq_true h1
    have e0 := decide_eq_false h0
    clear h0 h1 hno
    go_enter Try.func18, Try.ntmps18
    go_wp2_with fail
    go_ret2
    exact ⟨rfl, bl_alloc (Below.refl _ _) _⟩
  by_cases h2 : p.rc < 0
  · have e2 := decide_eq_true h2
    have e0 := decide_eq_false h0
    have e1 := decide_eq_false h1
    clear h0 h1 h2 hno
    go_enter Try.func18, Try.ntmps18
    go_wp2_with fail
    go_ret2
    exact ⟨rfl, bl_alloc (Below.refl _ _) _⟩
  by_cases h3 : p.rc > 65535
  · have e3 := decide_eq_true h3
    have e0 := decide_eq_false h0
    have e1 := decide_eq_false h1
    have e2 := decide_eq_false h2
    clear h0 h1 h2 h3 hno
    go_enter Try.func18, Try.ntmps18
    go_wp2_with fail
    go_ret2
    exact ⟨rfl, bl_alloc (Below.refl _ _) _⟩
  by_cases h4 : p.ofn < 1
  · have e4 := decide_eq_true h4
    have e0 := decide_eq_false h0
    have e1 := decide_eq_false h1
    have e2 := decide_eq_false h2
    have e3 := decide_eq_false h3
    clear h0 h1 h2 h3 h4 hno
    go_enter Try.func18, Try.ntmps18
    go_wp2_with fail
    go_ret2
    exact ⟨rfl, bl_alloc (Below.refl _ _) _⟩
  by_cases h5 : p.ofn > 255
  · have e5 := decide_eq_true h5
    have e0 := decide_eq_false h0
    have e1 := decide_eq_false h1
    have e2 := decide_eq_false h2
    have e3 := decide_eq_false h3
    have e4 := decide_eq_false h4
    clear h0 h1 h2 h3 h4 h5 hno
    go_enter Try.func18, Try.ntmps18
    go_wp2_with fail
    go_ret2
    exact ⟨rfl, bl_alloc (Below.refl _ _) _⟩
  by_cases h6 : p.n < 0
  · have e6 := decide_eq_true h6
    have e0 := decide_eq_false h0
    have e1 := decide_eq_false h1
    have e2 := decide_eq_false h2
    have e3 := decide_eq_false h3
    have e4 := decide_eq_false h4
    have e5 := decide_eq_false h5
    clear h0 h1 h2 h3 h4 h5 h6 hno
    go_enter Try.func18, Try.ntmps18
    go_wp2_with fail
    go_ret2
    exact ⟨rfl, bl_alloc (Below.refl _ _) _⟩
  by_cases h7 : p.n ≥ p.ofn
  · have e7 := decide_eq_true h7
    have e0 := decide_eq_false h0
    have e1 := decide_eq_false h1
    have e2 := decide_eq_false h2
    have e3 := decide_eq_false h3
    have e4 := decide_eq_false h4
    have e5 := decide_eq_false h5
    have e6 := decide_eq_false h6
    clear h0 h1 h2 h3 h4 h5 h6 h7 hno
    go_enter Try.func18, Try.ntmps18
    go_wp2_with fail
    go_ret2
    exact ⟨rfl, bl_alloc (Below.refl _ _) _⟩
  have h8 : ¬ p.data.length = 52 := fun h => hno ⟨by omega, by omega, by omega, by omega, by omega, by omega, by omega, by omega, h⟩
  have e0 := decide_eq_false h0
  have e1 := decide_eq_false h1
  have e2 := decide_eq_false h2
  have e3 := decide_eq_false h3
  have e4 := decide_eq_false h4
  have e5 := decide_eq_false h5
  have e6 := decide_eq_false h6
  have e7 := decide_eq_false h7
  have e8 : ((p.data.length : Int) != 52) = true := by rw [bne_iff_ne]; omega
  have e9 : decide (¬ (p.data.length : Int) = 52) = true := by simp; omega
  clear h0 h1 h2 h3 h4 h5 h6 h7 h8 hno
  go_enter Try.func18, Try.ntmps18
  go_wp2_with fail
  go_ret2
  exact ⟨rfl, bl_alloc (Below.refl _ _) _⟩
end Go.Proofs.Ytjlhajnficneoaa
