/-
  THE ROW OF RankOrder: for every input the law returns true, and each argument reads behind the call as it read before. No condition.
-/
import Derived.Test.YtdhklfbelplbcaaZ42
import Derived.ProofKit
import Derived.OpenShut
import Derived.ShutString
import Derived.ChangeOld
import Derived.KernelRfl
namespace Go.Proofs.Ytdhklfbelplbcaa.rowRankOrder
open Go.ChangeShapes Go.WideShapes Go.ChangeAt Go.RowKit
open Go.ChangeMaps (open_string shut_string)
set_option linter.unusedVariables false

theorem own : ownKnob Try.prog.godebug = none := by kernel_rfl
theorem laidOut : laidOutB Try.prog = true := by kernel_rfl

set_option maxRecDepth 100000 in
theorem lifted (os : Os) (started : os.Started) (H : Type) (enc : TypeId × Value → H) :
    ReturnsInHanded {} Try.checked os 7 .any (Rows.rankOrderSpec.pre6 enc Try.prog Try.f7 Rows.rankOrderRow.domain false) (Rows.rankOrderSpec.post enc Try.prog Try.f7 false true false false) := by
  refine returnsInHanded_of_change (C := Try.checked) own started (by kernel_rfl) Try.func7
    (ChangeSpec.witness6 (enc := enc) (C := Try.checked) false ⟨#[], #[.slice none 0 0, .slice none 0 0, .slice none 0 0, .slice none 0 0, .float .f64 0], []⟩ 8 (by kernel_rfl) (by kernel_rfl) (by kernel_rfl) (by kernel_rfl)) ?_
  intro W base args ds gs before hval0 hW hcnd _
  have hval : ∀ (j : Nat) t v, Try.f7.params[j]? = some t → args[j]? = some v → Value.okWide Try.prog W .any base t v := hval0
  have hW' := hW
  obtain ⟨p, q, hA0, hV, rfl, hfz, hnd⟩ := hW
  have hA : DataW.TrodAll enc Try.prog W 0 (fun _ => true) true Try.f7.params.toList args.toList ds p := hA0
  rw [Try.params7] at hA hval
  obtain ⟨v0, vs0, d0, ds0, p0, q0, hargs, rfl, rfl, h0, r0⟩ := trodAll_cons hA
  obtain ⟨v1, vs1, d1, ds1, p1, q1, rfl, rfl, rfl, h1, r1⟩ := trodAll_cons r0
  obtain ⟨v2, vs2, d2, ds2, p2, q2, rfl, rfl, rfl, h2, r2⟩ := trodAll_cons r1
  obtain ⟨v3, vs3, d3, ds3, p3, q3, rfl, rfl, rfl, h3, r3⟩ := trodAll_cons r2
  obtain ⟨v4, vs4, d4, ds4, p4, q4, rfl, rfl, rfl, h4, r4⟩ := trodAll_cons r3
  obtain ⟨rfl, rfl, rfl⟩ := trodAll_nil r4
  obtain rfl : args = #[v0, v1, v2, v3, v4] := by cases args; simp_all
  obtain ⟨rfl, rfl⟩ := trodVars_none hV
  obtain ⟨A0, n0, c0, rfl⟩ := okWide_slice Try.underlying35 (hval 0 35 v0 rfl rfl)
  have k0 := h0
  have lt0 : ∀ x ∈ p0, x.block < W.heap.size := by obtain ⟨m, hm⟩ := k0; exact DataW.trod_lt m _ _ _ hm
  obtain ⟨t0, et0, le0, cm0, rd0, na0⟩ : ∃ t, n0 = RT.len t ∧ RT.len t ≤ c0 ∧ c0 ≤ 9223372036854775807 ∧ RdRT W.cell? t A0 0 ∧ (A0 = none → RT.len t = 0 ∧ c0 = 0) := by
    obtain ⟨fuel, hf⟩ := h0
    obtain ⟨A, t, c, he, q1, q2, q3, q4⟩ := raw_open fuel _ _ hf
    simp [Value.cells] at he
    obtain ⟨rfl, rfl, rfl⟩ := he
    exact ⟨t, rfl, q1, q2, q3, q4⟩
  subst et0
  obtain ⟨A1, n1, c1, rfl⟩ := okWide_slice Try.underlying35 (hval 1 35 v1 rfl rfl)
  have k1 := h1
  have lt1 : ∀ x ∈ p1, x.block < W.heap.size := by obtain ⟨m, hm⟩ := k1; exact DataW.trod_lt m _ _ _ hm
  obtain ⟨t1, et1, le1, cm1, rd1, na1⟩ : ∃ t, n1 = RT.len t ∧ RT.len t ≤ c1 ∧ c1 ≤ 9223372036854775807 ∧ RdRT W.cell? t A1 0 ∧ (A1 = none → RT.len t = 0 ∧ c1 = 0) := by
    obtain ⟨fuel, hf⟩ := h1
    obtain ⟨A, t, c, he, q1, q2, q3, q4⟩ := raw_open fuel _ _ hf
    simp [Value.cells] at he
    obtain ⟨rfl, rfl, rfl⟩ := he
    exact ⟨t, rfl, q1, q2, q3, q4⟩
  subst et1
  obtain ⟨A2, n2, c2, rfl⟩ := okWide_slice Try.underlying22 (hval 2 22 v2 rfl rfl)
  have k2 := h2
  have lt2 : ∀ x ∈ p2, x.block < W.heap.size := by obtain ⟨m, hm⟩ := k2; exact DataW.trod_lt m _ _ _ hm
  obtain ⟨z2, rd2, hl2, le2, cm2, wf2⟩ : ∃ zs : List Int, Rd W A2 (Go.Proofs.Ytdhklfbelplbcaa.enc (Value.int .i64) zs) ∧ zs.length = n2 ∧ n2 ≤ c2 ∧ c2 ≤ 9223372036854775807 ∧ ∀ x ∈ zs, (Lit.int .i64 x).wf = true := by
    obtain ⟨fuel, hf⟩ := h2
    rcases open_ints Try.underlying22 Try.underlying3 (by kernel_rfl) hf with ⟨hcs, _⟩ | ⟨x, l, c, zs, hcs, _, hl, hm, hz, _, hcell, hwz⟩
    · simp [Value.cells] at hcs
      obtain ⟨rfl, rfl, rfl⟩ := hcs
      exact ⟨[], Rd.nil _ _, rfl, Nat.le_refl _, by omega, by simp⟩
    · simp [Value.cells] at hcs
      obtain ⟨rfl, rfl, rfl⟩ := hcs
      have hz' : zs.length = c2 := by simpa using hz
      refine ⟨zs.take n2, ?_, by simp; omega, hl, by simpa [maxLen] using hm, fun y hy => hwz y (List.mem_of_mem_take hy)⟩
      intro i hi
      have hi' : i < zs.length ∧ i < n2 := by simp [Go.Proofs.Ytdhklfbelplbcaa.enc] at hi; omega
      exact ⟨x, rfl, by rw [hcell i hi'.1]; simp [Go.Proofs.Ytdhklfbelplbcaa.enc, List.getD_eq_getElem?_getD, hi'.1]⟩
  subst hl2
  obtain ⟨A3, n3, c3, rfl⟩ := okWide_slice Try.underlying22 (hval 3 22 v3 rfl rfl)
  have k3 := h3
  have lt3 : ∀ x ∈ p3, x.block < W.heap.size := by obtain ⟨m, hm⟩ := k3; exact DataW.trod_lt m _ _ _ hm
  obtain ⟨z3, rd3, hl3, le3, cm3, wf3⟩ : ∃ zs : List Int, Rd W A3 (Go.Proofs.Ytdhklfbelplbcaa.enc (Value.int .i64) zs) ∧ zs.length = n3 ∧ n3 ≤ c3 ∧ c3 ≤ 9223372036854775807 ∧ ∀ x ∈ zs, (Lit.int .i64 x).wf = true := by
    obtain ⟨fuel, hf⟩ := h3
    rcases open_ints Try.underlying22 Try.underlying3 (by kernel_rfl) hf with ⟨hcs, _⟩ | ⟨x, l, c, zs, hcs, _, hl, hm, hz, _, hcell, hwz⟩
    · simp [Value.cells] at hcs
      obtain ⟨rfl, rfl, rfl⟩ := hcs
      exact ⟨[], Rd.nil _ _, rfl, Nat.le_refl _, by omega, by simp⟩
    · simp [Value.cells] at hcs
      obtain ⟨rfl, rfl, rfl⟩ := hcs
      have hz' : zs.length = c3 := by simpa using hz
      refine ⟨zs.take n3, ?_, by simp; omega, hl, by simpa [maxLen] using hm, fun y hy => hwz y (List.mem_of_mem_take hy)⟩
      intro i hi
      have hi' : i < zs.length ∧ i < n3 := by simp [Go.Proofs.Ytdhklfbelplbcaa.enc] at hi; omega
      exact ⟨x, rfl, by rw [hcell i hi'.1]; simp [Go.Proofs.Ytdhklfbelplbcaa.enc, List.getD_eq_getElem?_getD, hi'.1]⟩
  subst hl3
  obtain ⟨a4, rfl, rfl, rfl, w4⟩ := open_float Try.underlying23 (hval 4 23 v4 rfl rfl) h4
  clear hA0 hval0
  refine (rankorder_row W t0 t1 A0 A1 c0 c1 rd0 rd1 na0 le0 cm0 le1 cm1 A2 c2 z2 rd2 le2 cm2 A3 c3 z3 rd3 le3 cm3 a4).mono fun e W' ⟨he, bel⟩ => ?_
  subst he
  exact ⟨_, rfl, _, _, _, [], _, [], hW', trodAll_mk1 (shut_bool Try.underlying4 _), (trodAll_cons_mk (Below.trod laidOut (by kernel_rfl) (of_decide_eq_true (by kernel_rfl)) k0 bel lt0) (trodAll_cons_mk (Below.trod laidOut (by kernel_rfl) (of_decide_eq_true (by kernel_rfl)) k1 bel lt1) (trodAll_cons_mk (Below.trod laidOut (by kernel_rfl) (of_decide_eq_true (by kernel_rfl)) k2 bel lt2) (trodAll_cons_mk (Below.trod laidOut (by kernel_rfl) (of_decide_eq_true (by kernel_rfl)) k3 bel lt3) (trodAll_cons_mk (shut_float Try.underlying23 w4) trodAll_mk0))))), rfl, bel.frame _, fun h => by cases h⟩

theorem proved : Rows.RankOrderSaid :=
  OpenClaim.holds_of_wide 7 Try.f7 rfl rfl rfl rfl rfl rfl rfl ⟨rfl, rfl, rfl, rfl, rfl⟩ rfl rfl rfl rfl rfl (by kernel_rfl) Try.func7 (by kernel_rfl)
    (of_decide_eq_true (by kernel_rfl)) (by unfold Func.isWrapper; first | (rw [if_pos (by decide +kernel)]; kernel_rfl) | (rw [if_neg (by decide +kernel)]; exact ⟨rfl, rfl⟩))
    (fun os started H enc _ => lifted os started H enc)
#print axioms proved
end Go.Proofs.Ytdhklfbelplbcaa.rowRankOrder
