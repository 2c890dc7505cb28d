/-
  THE ROW OF RankScale: for every input the law returns true, and each argument reads behind the call as it read before. No condition.
-/
import Derived.Test.YtdhklfbelplbcaaGs
import Derived.ProofKit
import Derived.OpenShut
import Derived.ShutString
import Derived.ChangeOld
import Derived.KernelRfl
namespace Go.Proofs.Ytdhklfbelplbcaa.rowRankScale
open Go.ChangeShapes Go.WideShapes Go.ChangeAt Go.RowKit
open Go.ChangeMaps (open_string shut_string)
set_option linter.unusedVariables false

theorem own : ownKnob Try.prog.godebug = none := by kernel_rfl
theorem laidOut : laidOutB Try.prog = true := by kernel_rfl

set_option maxRecDepth 100000 in
theorem lifted (os : Os) (started : os.Started) (H : Type) (enc : TypeId × Value → H) :
    ReturnsInHanded {} Try.checked os 10 .any (Rows.rankScaleSpec.pre6 enc Try.prog Try.f10 Rows.rankScaleRow.domain false) (Rows.rankScaleSpec.post enc Try.prog Try.f10 false true false false) := by
  refine returnsInHanded_of_change (C := Try.checked) own started (by kernel_rfl) Try.func10
    (ChangeSpec.witness6 (enc := enc) (C := Try.checked) false ⟨#[], #[.slice none 0 0, .slice none 0 0], []⟩ 8 (by kernel_rfl) (by kernel_rfl) (by kernel_rfl) (by kernel_rfl)) ?_
  intro W base args ds gs before hval0 hW hcnd _
  have hval : ∀ (j : Nat) t v, Try.f10.params[j]? = some t → args[j]? = some v → Value.okWide Try.prog W .any base t v := hval0
  have hW' := hW
  obtain ⟨p, q, hA0, hV, rfl, hfz, hnd⟩ := hW
  have hA : DataW.TrodAll enc Try.prog W 0 (fun _ => true) true Try.f10.params.toList args.toList ds p := hA0
  rw [Try.params10] at hA hval
  obtain ⟨v0, vs0, d0, ds0, p0, q0, hargs, rfl, rfl, h0, r0⟩ := trodAll_cons hA
  obtain ⟨v1, vs1, d1, ds1, p1, q1, rfl, rfl, rfl, h1, r1⟩ := trodAll_cons r0
  obtain ⟨rfl, rfl, rfl⟩ := trodAll_nil r1
  obtain rfl : args = #[v0, v1] := by cases args; simp_all
  obtain ⟨rfl, rfl⟩ := trodVars_none hV
  obtain ⟨A0, n0, c0, rfl⟩ := okWide_slice Try.underlying22 (hval 0 22 v0 rfl rfl)
  have k0 := h0
  have lt0 : ∀ x ∈ p0, x.block < W.heap.size := by obtain ⟨m, hm⟩ := k0; exact DataW.trod_lt m _ _ _ hm
  obtain ⟨z0, rd0, hl0, le0, cm0, wf0⟩ : ∃ zs : List Int, Rd W A0 (Go.Proofs.Ytdhklfbelplbcaa.enc (Value.int .i64) zs) ∧ zs.length = n0 ∧ n0 ≤ c0 ∧ c0 ≤ 9223372036854775807 ∧ ∀ x ∈ zs, (Lit.int .i64 x).wf = true := by
    obtain ⟨fuel, hf⟩ := h0
    rcases open_ints Try.underlying22 Try.underlying3 (by kernel_rfl) hf with ⟨hcs, _⟩ | ⟨x, l, c, zs, hcs, _, hl, hm, hz, _, hcell, hwz⟩
    · simp [Value.cells] at hcs
      obtain ⟨rfl, rfl, rfl⟩ := hcs
      exact ⟨[], Rd.nil _ _, rfl, Nat.le_refl _, by omega, by simp⟩
    · simp [Value.cells] at hcs
      obtain ⟨rfl, rfl, rfl⟩ := hcs
      have hz' : zs.length = c0 := by simpa using hz
      refine ⟨zs.take n0, ?_, by simp; omega, hl, by simpa [maxLen] using hm, fun y hy => hwz y (List.mem_of_mem_take hy)⟩
      intro i hi
      have hi' : i < zs.length ∧ i < n0 := by simp [Go.Proofs.Ytdhklfbelplbcaa.enc] at hi; omega
      exact ⟨x, rfl, by rw [hcell i hi'.1]; simp [Go.Proofs.Ytdhklfbelplbcaa.enc, List.getD_eq_getElem?_getD, hi'.1]⟩
  subst hl0
  obtain ⟨A1, n1, c1, rfl⟩ := okWide_slice Try.underlying22 (hval 1 22 v1 rfl rfl)
  have k1 := h1
  have lt1 : ∀ x ∈ p1, x.block < W.heap.size := by obtain ⟨m, hm⟩ := k1; exact DataW.trod_lt m _ _ _ hm
  obtain ⟨z1, rd1, hl1, le1, cm1, wf1⟩ : ∃ zs : List Int, Rd W A1 (Go.Proofs.Ytdhklfbelplbcaa.enc (Value.int .i64) zs) ∧ zs.length = n1 ∧ n1 ≤ c1 ∧ c1 ≤ 9223372036854775807 ∧ ∀ x ∈ zs, (Lit.int .i64 x).wf = true := by
    obtain ⟨fuel, hf⟩ := h1
    rcases open_ints Try.underlying22 Try.underlying3 (by kernel_rfl) hf with ⟨hcs, _⟩ | ⟨x, l, c, zs, hcs, _, hl, hm, hz, _, hcell, hwz⟩
    · simp [Value.cells] at hcs
      obtain ⟨rfl, rfl, rfl⟩ := hcs
      exact ⟨[], Rd.nil _ _, rfl, Nat.le_refl _, by omega, by simp⟩
    · simp [Value.cells] at hcs
      obtain ⟨rfl, rfl, rfl⟩ := hcs
      have hz' : zs.length = c1 := by simpa using hz
      refine ⟨zs.take n1, ?_, by simp; omega, hl, by simpa [maxLen] using hm, fun y hy => hwz y (List.mem_of_mem_take hy)⟩
      intro i hi
      have hi' : i < zs.length ∧ i < n1 := by simp [Go.Proofs.Ytdhklfbelplbcaa.enc] at hi; omega
      exact ⟨x, rfl, by rw [hcell i hi'.1]; simp [Go.Proofs.Ytdhklfbelplbcaa.enc, List.getD_eq_getElem?_getD, hi'.1]⟩
  subst hl1
  clear hA0 hval0
  refine (rankscale_any W A0 c0 z0 rd0 le0 cm0 wf0 A1 c1 z1 rd1 le1 cm1 wf1).mono fun e W' ⟨he, bel⟩ => ?_
  subst he
  exact ⟨_, rfl, _, _, _, [], _, [], hW', trodAll_mk1 (shut_bool Try.underlying4 _), (trodAll_cons_mk (Below.trod laidOut (by kernel_rfl) (of_decide_eq_true (by kernel_rfl)) k0 bel lt0) (trodAll_cons_mk (Below.trod laidOut (by kernel_rfl) (of_decide_eq_true (by kernel_rfl)) k1 bel lt1) trodAll_mk0)), rfl, bel.frame _, fun h => by cases h⟩

theorem proved : Rows.RankScaleSaid :=
  OpenClaim.holds_of_wide 10 Try.f10 rfl rfl rfl rfl rfl rfl rfl ⟨rfl, rfl, rfl, rfl, rfl⟩ rfl rfl rfl rfl rfl (by kernel_rfl) Try.func10 (by kernel_rfl)
    (of_decide_eq_true (by kernel_rfl)) (by unfold Func.isWrapper; first | (rw [if_pos (by decide +kernel)]; kernel_rfl) | (rw [if_neg (by decide +kernel)]; exact ⟨rfl, rfl⟩))
    (fun os started H enc _ => lifted os started H enc)
#print axioms proved
end Go.Proofs.Ytdhklfbelplbcaa.rowRankScale
