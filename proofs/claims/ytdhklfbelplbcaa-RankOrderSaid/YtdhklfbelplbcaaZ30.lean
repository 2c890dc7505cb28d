/-
  whole, the third loop: its state, its height.
  The orders of drawn regions of whole.
-/
import Derived.Test.YtdhklfbelplbcaaZ10
namespace Go.Proofs.Ytdhklfbelplbcaa
set_option linter.unusedVariables false
open Go.RowKit

def sumN (f : Nat → Nat) : Nat → Nat
  | 0 => 0
  | n + 1 => sumN f n + f n
theorem sumN_congr {f g : Nat → Nat} : ∀ n, (∀ i, i < n → f i = g i) → sumN f n = sumN g n
  | 0, _ => rfl
  | n + 1, h => by unfold sumN; rw [sumN_congr n (fun i hi => h i (by omega)), h n (by omega)]
theorem sumN_lt {f g : Nat → Nat} {k : Nat} (hk : f k < g k) (ho : ∀ i, i ≠ k → f i = g i) : ∀ n, k < n → sumN f n < sumN g n
  | 0, h => by omega
  | n + 1, h => by
    unfold sumN
    by_cases c : k = n
    · subst c
      rw [sumN_congr k (fun i hi => ho i (by omega))]
      omega
    · have := sumN_lt hk ho n (by omega)
      rw [ho n (fun e => c e.symm)]
      omega
/-- one state is another one -/
def upd2 (Es : Nat → Nat → List Int) (i k : Nat) (e : List Int) : Nat → Nat → List Int := fun a b => if a = i ∧ b = k then e else Es a b
theorem upd2_same (Es : Nat → Nat → List Int) (i k : Nat) (e : List Int) : upd2 Es i k e i k = e := by unfold upd2; rw [if_pos ⟨rfl, rfl⟩]
theorem upd2_ne (Es : Nat → Nat → List Int) {i k a b : Nat} (e : List Int) (h : ¬ (a = i ∧ b = k)) : upd2 Es i k e a b = Es a b := by unfold upd2; rw [if_neg h]
def mu2 (most : Bool) (bs : Nat → St) (Es : Nat → Nat → List Int) : Nat := sumN (fun i => sumN (fun k => hD most (Es i k)) (tl bs i).length) 4
theorem mu2_upd {most : Bool} {bs : Nat → St} {Es : Nat → Nat → List Int} {i k : Nat} (hi : i < 4) (hk : k < (tl bs i).length) {e : List Int} (he : Ef 3 e) (h0 : Ef 3 (Es i k)) (h : leD most e (Es i k)) (hne : e ≠ Es i k) : mu2 most bs (upd2 Es i k e) < mu2 most bs Es := by
  unfold mu2
  refine sumN_lt (k := i) ?_ ?_ 4 hi
  · refine sumN_lt (k := k) ?_ ?_ _ hk
    · simp only [upd2_same]; exact (leD.hD he h0 h).2 hne
    · intro b hb; rw [upd2_ne Es e (fun c => hb c.2)]
  · intro a ha
    refine sumN_congr _ (fun b hb => ?_)
    rw [upd2_ne Es e (fun c => ha c.1)]
theorem tl_sub (bs : Nat → St) {i f : Nat} (h : ∀ r ∈ reachL bs f, r ∈ reachL bs i) : ∀ p ∈ tl bs f, p ∈ tl bs i := by
  intro p hp
  unfold tl at *
  obtain ⟨r, h1, h2⟩ := List.mem_flatMap.1 hp
  exact List.mem_flatMap.2 ⟨r, h r h1, h2⟩
theorem tl_fn (bs : Nat → St) {i : Nat} : ∀ p ∈ tl bs i, p.1 < 4 := by
  intro p hp
  unfold tl at hp
  obtain ⟨r, h1, h2⟩ := List.mem_flatMap.1 hp
  unfold tf at h2
  obtain ⟨j, -, rfl⟩ := List.mem_map.1 h2
  exact fnIx_lt r
/-- the rows of all four functions, with their states -/
structure FxS (W0 W : World) (bs : Nat → St) (ga ca : Nat) (vl : List Value) (Es : Nat → Nat → List Int) : Prop where
  hB : Below W0.heap.size W0 W
  len : vl.length = 4
  oa : W.ownsRow W0.heap.size 98 1 (.slice (some ⟨ga, 0, none⟩) 4 ca) 4 vl
  ot : ∀ j, ∀ h : j < vl.length, ∃ xs, W.ownsRow W0.heap.size 102 8 vl[j] (tl bs j).length xs ∧ ToOk xs (tl bs j) ∧ ∀ k, k < (tl bs j).length → xs[k * 8 + 7]? = some (.string (st (Es j k))) ∧ Ef 3 (Es j k)
  na : ∀ j, ∀ h : j < vl.length, ∀ b, vl[j].ownBlock = some b → b ≠ ga
  nt : ∀ i j, ∀ h : i < vl.length, ∀ h2 : j < vl.length, i ≠ j → ∀ b, vl[i].ownBlock = some b → vl[j].ownBlock ≠ some b
theorem AllS.fx {W0 W : World} {bs : Nat → St} {va : Value} {vl : List Value} (h : AllS W0 W bs va vl) (hl : vl.length = 4) : ∃ ga ca Es, va = .slice (some ⟨ga, 0, none⟩) 4 ca ∧ FxS W0 W bs ga ca vl Es := by
  have ho := h.oa
  rw [hl] at ho
  obtain ⟨ga, ca, rfl, -, -⟩ := own_some ho (by omega)
  have hE : ∀ j, ∃ E : Nat → List Int, ∀ h : j < vl.length, ∃ xs, W.ownsRow W0.heap.size 102 8 vl[j] (tl bs j).length xs ∧ ToOk xs (tl bs j) ∧ ∀ k, k < (tl bs j).length → xs[k * 8 + 7]? = some (.string (st (E k))) ∧ Ef 3 (E k) := by
    intro j
    by_cases hj : j < vl.length
    · obtain ⟨xs, q1, q2⟩ := h.ot j hj
      have hk : ∀ k, ∃ e, ∀ hk : k < (tl bs j).length, xs[k * 8 + 7]? = some (.string (st e)) ∧ Ef 3 e := by
        intro k
        by_cases c : k < (tl bs j).length
        · obtain ⟨_, _, _, _, _, E, _, _, _, _, _, _, _, e7, e8, _⟩ := q2 k c
          exact ⟨E, fun _ => ⟨e7, e8⟩⟩
        · exact ⟨[], fun c2 => absurd c2 c⟩
      exact ⟨fun k => Classical.choose (hk k), fun _ => ⟨xs, q1, q2, fun k c => Classical.choose_spec (hk k) c⟩⟩
    · exact ⟨fun _ => [], fun c => absurd c hj⟩
  refine ⟨ga, ca, fun j => Classical.choose (hE j), rfl, h.hB, hl, ho, fun j hj => Classical.choose_spec (hE j) hj, fun j hj b hb e => h.na j hj b hb (by subst e; rfl), h.nt⟩
theorem FxS.below {W0 W W' : World} {bs : Nat → St} {ga ca : Nat} {vl : List Value} {Es : Nat → Nat → List Int} (h : FxS W0 W bs ga ca vl Es) (hb : Below W.heap.size W W') : FxS W0 W' bs ga ca vl Es :=
  ⟨bl_then h.hB h.hB.size hb, h.len, own_below h.oa hb, (fun j hj => by obtain ⟨xs, q1, q2⟩ := h.ot j hj; exact ⟨xs, own_below q1 hb, q2⟩), h.na, h.nt⟩
/-- row i holds Sites: where it lies, what lies there -/
theorem FxS.row {W0 W : World} {bs : Nat → St} {ga ca : Nat} {vl : List Value} {Es : Nat → Nat → List Int} (h : FxS W0 W bs ga ca vl Es) {i : Nat} (hi : i < 4) (hn : 0 < (tl bs i).length) :
    ∃ g c, W.cell? ⟨ga, i, none⟩ = some (.slice (some ⟨g, 0, none⟩) (tl bs i).length c) ∧ vl[i]'(by rw [h.len]; exact hi) = .slice (some ⟨g, 0, none⟩) (tl bs i).length c ∧
      ∀ k, ∀ hk : k < (tl bs i).length, W.cell? ⟨g, k * 8, none⟩ = some (.string (fnN (tl bs i)[k].1)) ∧ W.cell? ⟨g, k * 8 + 1, none⟩ = some (.int .i64 ((tl bs i)[k].2 : Nat)) ∧ W.cell? ⟨g, k * 8 + 7, none⟩ = some (.string (st (Es i k))) ∧ W.frozen? ⟨g, k * 8 + 7, none⟩ = false ∧ Ef 3 (Es i k) := by
  have hl : i < vl.length := by rw [h.len]; exact hi
  obtain ⟨xs, q1, q2, q3⟩ := h.ot i hl
  obtain ⟨g, c, e, -, -⟩ := own_some q1 hn
  have hc := own_at h.oa i (List.getElem?_eq_getElem hl)
  rw [e] at hc q1
  refine ⟨g, c, hc, e, fun k hk => ?_⟩
  obtain ⟨_, _, _, _, _, _, e0, e1, _⟩ := q2 k hk
  obtain ⟨e7, e8⟩ := q3 k hk
  exact ⟨own_at q1 _ e0, own_at q1 _ e1, own_at q1 _ e7, (own_cell q1 (k * 8 + 7) (by omega)).2, e8⟩
/-- row i, also where it holds none -/
theorem FxS.sl {W0 W : World} {bs : Nat → St} {ga ca : Nat} {vl : List Value} {Es : Nat → Nat → List Int} (h : FxS W0 W bs ga ca vl Es) {i : Nat} (hi : i < 4) :
    ∃ A c, W.cell? ⟨ga, i, none⟩ = some (.slice A (tl bs i).length c) ∧ vl[i]'(by rw [h.len]; exact hi) = .slice A (tl bs i).length c := by
  have hl : i < vl.length := by rw [h.len]; exact hi
  obtain ⟨xs, q1, -⟩ := h.ot i hl
  obtain ⟨A, c, e, -⟩ := Rd.own q1
  have hc := own_at h.oa i (List.getElem?_eq_getElem hl)
  rw [e] at hc
  exact ⟨A, c, hc, e⟩
/-- one state is written -/
theorem FxS.setE {W0 W : World} {bs : Nat → St} {ga ca : Nat} {vl : List Value} {Es : Nat → Nat → List Int} (h : FxS W0 W bs ga ca vl Es) {i k g c : Nat} (hi : i < 4) (hk : k < (tl bs i).length) (hv : vl[i]'(by rw [h.len]; exact hi) = .slice (some ⟨g, 0, none⟩) (tl bs i).length c) {E : List Int} (hE : Ef 3 E) :
    FxS W0 (W.setCell ⟨g, k * 8 + 7, none⟩ (.string (st E))) bs ga ca vl (upd2 Es i k E) := by
  have hl : i < vl.length := by rw [h.len]; exact hi
  obtain ⟨xs, q1, q2, q3⟩ := h.ot i hl
  have hbl : vl[i].ownBlock = some g := by rw [hv]; rfl
  have q1' := q1
  rw [hv] at q1'
  obtain ⟨p1, p2⟩ := own_set q1' (k * 8 + 7) (by omega) (.string (st E))
  rw [← hv] at p1
  refine ⟨h.hB.grown p2 h.hB.size (fun b e => by cases e; exact own_base q1 _ hbl), h.len, own_kept2 h.oa p2 (fun b e e2 => by cases e; cases e2; exact h.na i hl _ hbl rfl), fun j hj => ?_, h.na, h.nt⟩
  by_cases c : j = i
  · subst c
    refine ⟨_, p1, q2.set q1.1 hk hE, fun b hb => ?_⟩
    obtain ⟨r1, r2⟩ := q3 b hb
    by_cases d : b = k
    · subst d
      rw [upd2_same, List.getElem?_set_self (by have := q1.1; omega)]
      exact ⟨rfl, hE⟩
    · rw [upd2_ne Es E (fun c => d c.2), List.getElem?_set_ne (by omega)]
      exact ⟨r1, r2⟩
  · obtain ⟨ys, r1, r2, r3⟩ := h.ot j hj
    refine ⟨ys, own_kept2 r1 p2 (fun b e e2 => by cases e; exact h.nt i j hl hj (fun e => c e.symm) _ hbl e2), r2, fun b hb => ?_⟩
    rw [upd2_ne Es E (fun d => c d.1)]
    exact r3 b hb
end Go.Proofs.Ytdhklfbelplbcaa
namespace Go.Proofs.Ytdhklfbelplbcaa
set_option maxRecDepth 100000
noncomputable def opsW51 : Array Oper := regIn 51 Try.f43
theorem nsW51 : Region.noSelect opsW51 = true := by kernel_rfl
theorem liW51 : Array.replicate opsW51.size false = (bitsB 15 0) := by kernel_rfl
theorem rdW51_0 : Region.ready .any opsW51 (bitsB 15 0) = [0, 1, 2, 3, 6] := by kernel_rfl
theorem frW51_0 : Region.free .any opsW51 (bitsB 15 0) 0 = true := by kernel_rfl
theorem stW51_0 : (bitsB 15 0).setIfInBounds 0 true = (bitsB 15 1) := by kernel_rfl
theorem rdW51_1 : Region.ready .any opsW51 (bitsB 15 1) = [1, 2, 3, 6] := by kernel_rfl
theorem frW51_1 : Region.free .any opsW51 (bitsB 15 1) 1 = true := by kernel_rfl
theorem stW51_1 : (bitsB 15 1).setIfInBounds 1 true = (bitsB 15 3) := by kernel_rfl
theorem rdW51_2 : Region.ready .any opsW51 (bitsB 15 3) = [2, 3, 6] := by kernel_rfl
theorem frW51_2 : Region.free .any opsW51 (bitsB 15 3) 2 = true := by kernel_rfl
theorem stW51_2 : (bitsB 15 3).setIfInBounds 2 true = (bitsB 15 7) := by kernel_rfl
theorem rdW51_3 : Region.ready .any opsW51 (bitsB 15 7) = [3, 6] := by kernel_rfl
theorem frW51_3 : Region.free .any opsW51 (bitsB 15 7) 3 = true := by kernel_rfl
theorem stW51_3 : (bitsB 15 7).setIfInBounds 3 true = (bitsB 15 15) := by kernel_rfl
theorem rdW51_4 : Region.ready .any opsW51 (bitsB 15 15) = [4, 6] := by kernel_rfl
theorem frW51_4 : Region.free .any opsW51 (bitsB 15 15) 4 = true := by kernel_rfl
theorem stW51_4 : (bitsB 15 15).setIfInBounds 4 true = (bitsB 15 31) := by kernel_rfl
theorem rdW51_5 : Region.ready .any opsW51 (bitsB 15 31) = [5, 6] := by kernel_rfl
theorem frW51_5 : Region.free .any opsW51 (bitsB 15 31) 5 = true := by kernel_rfl
theorem stW51_5 : (bitsB 15 31).setIfInBounds 5 true = (bitsB 15 63) := by kernel_rfl
theorem rdW51_6 : Region.ready .any opsW51 (bitsB 15 63) = [6] := by kernel_rfl
theorem stW51_6 : (bitsB 15 63).setIfInBounds 6 true = (bitsB 15 127) := by kernel_rfl
theorem rdW51_7 : Region.ready .any opsW51 (bitsB 15 127) = [7] := by kernel_rfl
theorem stW51_7 : (bitsB 15 127).setIfInBounds 7 true = (bitsB 15 255) := by kernel_rfl
theorem rdW51_8 : Region.ready .any opsW51 (bitsB 15 255) = [8] := by kernel_rfl
theorem stW51_8 : (bitsB 15 255).setIfInBounds 8 true = (bitsB 15 511) := by kernel_rfl
theorem rdW51_9 : Region.ready .any opsW51 (bitsB 15 511) = [9] := by kernel_rfl
theorem stW51_9 : (bitsB 15 511).setIfInBounds 9 true = (bitsB 15 1023) := by kernel_rfl
theorem rdW51_10 : Region.ready .any opsW51 (bitsB 15 1023) = [10] := by kernel_rfl
theorem stW51_10 : (bitsB 15 1023).setIfInBounds 10 true = (bitsB 15 2047) := by kernel_rfl
theorem rdW51_11 : Region.ready .any opsW51 (bitsB 15 2047) = [11] := by kernel_rfl
theorem stW51_11 : (bitsB 15 2047).setIfInBounds 11 true = (bitsB 15 4095) := by kernel_rfl
theorem rdW51_12 : Region.ready .any opsW51 (bitsB 15 4095) = [12] := by kernel_rfl
theorem stW51_12 : (bitsB 15 4095).setIfInBounds 12 true = (bitsB 15 8191) := by kernel_rfl
theorem rdW51_13 : Region.ready .any opsW51 (bitsB 15 8191) = [13] := by kernel_rfl
theorem stW51_13 : (bitsB 15 8191).setIfInBounds 13 true = (bitsB 15 16383) := by kernel_rfl
theorem rdW51_14 : Region.ready .any opsW51 (bitsB 15 16383) = [14] := by kernel_rfl
theorem stW51_14 : (bitsB 15 16383).setIfInBounds 14 true = (bitsB 15 32767) := by kernel_rfl
theorem rdW51_15 : Region.ready .any opsW51 (bitsB 15 32767) = [] := by kernel_rfl
noncomputable def opsW56 : Array Oper := regIn 56 Try.f43
theorem nsW56 : Region.noSelect opsW56 = true := by kernel_rfl
theorem liW56 : Array.replicate opsW56.size false = (bitsB 14 0) := by kernel_rfl
theorem rdW56_0 : Region.ready .any opsW56 (bitsB 14 0) = [0, 1, 4, 8, 9] := by kernel_rfl
theorem frW56_0 : Region.free .any opsW56 (bitsB 14 0) 0 = true := by kernel_rfl
theorem stW56_0 : (bitsB 14 0).setIfInBounds 0 true = (bitsB 14 1) := by kernel_rfl
theorem rdW56_1 : Region.ready .any opsW56 (bitsB 14 1) = [1, 4, 8, 9] := by kernel_rfl
theorem frW56_1 : Region.free .any opsW56 (bitsB 14 1) 1 = true := by kernel_rfl
theorem stW56_1 : (bitsB 14 1).setIfInBounds 1 true = (bitsB 14 3) := by kernel_rfl
theorem rdW56_2 : Region.ready .any opsW56 (bitsB 14 3) = [2, 4, 8, 9] := by kernel_rfl
theorem frW56_2 : Region.free .any opsW56 (bitsB 14 3) 2 = true := by kernel_rfl
theorem stW56_2 : (bitsB 14 3).setIfInBounds 2 true = (bitsB 14 7) := by kernel_rfl
theorem rdW56_3 : Region.ready .any opsW56 (bitsB 14 7) = [3, 4, 8, 9] := by kernel_rfl
theorem frW56_3 : Region.free .any opsW56 (bitsB 14 7) 3 = true := by kernel_rfl
theorem stW56_3 : (bitsB 14 7).setIfInBounds 3 true = (bitsB 14 15) := by kernel_rfl
theorem rdW56_4 : Region.ready .any opsW56 (bitsB 14 15) = [4, 8, 9] := by kernel_rfl
theorem frW56_4 : Region.free .any opsW56 (bitsB 14 15) 4 = true := by kernel_rfl
theorem stW56_4 : (bitsB 14 15).setIfInBounds 4 true = (bitsB 14 31) := by kernel_rfl
theorem rdW56_5 : Region.ready .any opsW56 (bitsB 14 31) = [5, 8, 9] := by kernel_rfl
theorem frW56_5 : Region.free .any opsW56 (bitsB 14 31) 5 = true := by kernel_rfl
theorem stW56_5 : (bitsB 14 31).setIfInBounds 5 true = (bitsB 14 63) := by kernel_rfl
theorem rdW56_6 : Region.ready .any opsW56 (bitsB 14 63) = [6, 8, 9] := by kernel_rfl
theorem frW56_6 : Region.free .any opsW56 (bitsB 14 63) 6 = true := by kernel_rfl
theorem stW56_6 : (bitsB 14 63).setIfInBounds 6 true = (bitsB 14 127) := by kernel_rfl
theorem rdW56_7 : Region.ready .any opsW56 (bitsB 14 127) = [7, 8, 9] := by kernel_rfl
theorem frW56_7 : Region.free .any opsW56 (bitsB 14 127) 7 = true := by kernel_rfl
theorem stW56_7 : (bitsB 14 127).setIfInBounds 7 true = (bitsB 14 255) := by kernel_rfl
theorem rdW56_8 : Region.ready .any opsW56 (bitsB 14 255) = [8, 9] := by kernel_rfl
theorem frW56_8 : Region.free .any opsW56 (bitsB 14 255) 8 = true := by kernel_rfl
theorem stW56_8 : (bitsB 14 255).setIfInBounds 8 true = (bitsB 14 511) := by kernel_rfl
theorem rdW56_9 : Region.ready .any opsW56 (bitsB 14 511) = [9] := by kernel_rfl
theorem stW56_9 : (bitsB 14 511).setIfInBounds 9 true = (bitsB 14 1023) := by kernel_rfl
theorem rdW56_10 : Region.ready .any opsW56 (bitsB 14 1023) = [10] := by kernel_rfl
theorem stW56_10 : (bitsB 14 1023).setIfInBounds 10 true = (bitsB 14 2047) := by kernel_rfl
theorem rdW56_11 : Region.ready .any opsW56 (bitsB 14 2047) = [11] := by kernel_rfl
theorem stW56_11 : (bitsB 14 2047).setIfInBounds 11 true = (bitsB 14 4095) := by kernel_rfl
theorem rdW56_12 : Region.ready .any opsW56 (bitsB 14 4095) = [12] := by kernel_rfl
theorem stW56_12 : (bitsB 14 4095).setIfInBounds 12 true = (bitsB 14 8191) := by kernel_rfl
theorem rdW56_13 : Region.ready .any opsW56 (bitsB 14 8191) = [13] := by kernel_rfl
theorem stW56_13 : (bitsB 14 8191).setIfInBounds 13 true = (bitsB 14 16383) := by kernel_rfl
theorem rdW56_14 : Region.ready .any opsW56 (bitsB 14 16383) = [] := by kernel_rfl
noncomputable def opsW59 : Array Oper := regIn 59 Try.f43
theorem nsW59 : Region.noSelect opsW59 = true := by kernel_rfl
theorem liW59 : Array.replicate opsW59.size false = (bitsB 25 0) := by kernel_rfl
theorem rdW59_0 : Region.ready .any opsW59 (bitsB 25 0) = [0, 1, 2, 5, 9, 10, 13, 17, 18] := by kernel_rfl
theorem frW59_0 : Region.free .any opsW59 (bitsB 25 0) 0 = true := by kernel_rfl
theorem stW59_0 : (bitsB 25 0).setIfInBounds 0 true = (bitsB 25 1) := by kernel_rfl
theorem rdW59_1 : Region.ready .any opsW59 (bitsB 25 1) = [1, 2, 5, 9, 10, 13, 17, 18] := by kernel_rfl
theorem frW59_1 : Region.free .any opsW59 (bitsB 25 1) 1 = true := by kernel_rfl
theorem stW59_1 : (bitsB 25 1).setIfInBounds 1 true = (bitsB 25 3) := by kernel_rfl
theorem rdW59_2 : Region.ready .any opsW59 (bitsB 25 3) = [2, 5, 9, 10, 13, 17, 18] := by kernel_rfl
theorem frW59_2 : Region.free .any opsW59 (bitsB 25 3) 2 = true := by kernel_rfl
theorem stW59_2 : (bitsB 25 3).setIfInBounds 2 true = (bitsB 25 7) := by kernel_rfl
theorem rdW59_3 : Region.ready .any opsW59 (bitsB 25 7) = [3, 5, 9, 10, 13, 17, 18] := by kernel_rfl
theorem frW59_3 : Region.free .any opsW59 (bitsB 25 7) 3 = true := by kernel_rfl
theorem stW59_3 : (bitsB 25 7).setIfInBounds 3 true = (bitsB 25 15) := by kernel_rfl
theorem rdW59_4 : Region.ready .any opsW59 (bitsB 25 15) = [4, 5, 9, 10, 13, 17, 18] := by kernel_rfl
theorem frW59_4 : Region.free .any opsW59 (bitsB 25 15) 4 = true := by kernel_rfl
theorem stW59_4 : (bitsB 25 15).setIfInBounds 4 true = (bitsB 25 31) := by kernel_rfl
theorem rdW59_5 : Region.ready .any opsW59 (bitsB 25 31) = [5, 9, 10, 13, 17, 18] := by kernel_rfl
theorem frW59_5 : Region.free .any opsW59 (bitsB 25 31) 5 = true := by kernel_rfl
theorem stW59_5 : (bitsB 25 31).setIfInBounds 5 true = (bitsB 25 63) := by kernel_rfl
theorem rdW59_6 : Region.ready .any opsW59 (bitsB 25 63) = [6, 9, 10, 13, 17, 18] := by kernel_rfl
theorem frW59_6 : Region.free .any opsW59 (bitsB 25 63) 6 = true := by kernel_rfl
theorem stW59_6 : (bitsB 25 63).setIfInBounds 6 true = (bitsB 25 127) := by kernel_rfl
theorem rdW59_7 : Region.ready .any opsW59 (bitsB 25 127) = [7, 9, 10, 13, 17, 18] := by kernel_rfl
theorem frW59_7 : Region.free .any opsW59 (bitsB 25 127) 7 = true := by kernel_rfl
theorem stW59_7 : (bitsB 25 127).setIfInBounds 7 true = (bitsB 25 255) := by kernel_rfl
theorem rdW59_8 : Region.ready .any opsW59 (bitsB 25 255) = [8, 9, 10, 13, 17, 18] := by kernel_rfl
theorem frW59_8 : Region.free .any opsW59 (bitsB 25 255) 8 = true := by kernel_rfl
theorem stW59_8 : (bitsB 25 255).setIfInBounds 8 true = (bitsB 25 511) := by kernel_rfl
theorem rdW59_9 : Region.ready .any opsW59 (bitsB 25 511) = [9, 10, 13, 17, 18] := by kernel_rfl
theorem frW59_9 : Region.free .any opsW59 (bitsB 25 511) 9 = true := by kernel_rfl
theorem stW59_9 : (bitsB 25 511).setIfInBounds 9 true = (bitsB 25 1023) := by kernel_rfl
theorem rdW59_10 : Region.ready .any opsW59 (bitsB 25 1023) = [10, 13, 17, 18] := by kernel_rfl
theorem frW59_10 : Region.free .any opsW59 (bitsB 25 1023) 10 = true := by kernel_rfl
theorem stW59_10 : (bitsB 25 1023).setIfInBounds 10 true = (bitsB 25 2047) := by kernel_rfl
theorem rdW59_11 : Region.ready .any opsW59 (bitsB 25 2047) = [11, 13, 17, 18] := by kernel_rfl
theorem frW59_11 : Region.free .any opsW59 (bitsB 25 2047) 11 = true := by kernel_rfl
theorem stW59_11 : (bitsB 25 2047).setIfInBounds 11 true = (bitsB 25 4095) := by kernel_rfl
theorem rdW59_12 : Region.ready .any opsW59 (bitsB 25 4095) = [12, 13, 17, 18] := by kernel_rfl
theorem frW59_12 : Region.free .any opsW59 (bitsB 25 4095) 12 = true := by kernel_rfl
theorem stW59_12 : (bitsB 25 4095).setIfInBounds 12 true = (bitsB 25 8191) := by kernel_rfl
theorem rdW59_13 : Region.ready .any opsW59 (bitsB 25 8191) = [13, 17, 18] := by kernel_rfl
theorem frW59_13 : Region.free .any opsW59 (bitsB 25 8191) 13 = true := by kernel_rfl
theorem stW59_13 : (bitsB 25 8191).setIfInBounds 13 true = (bitsB 25 16383) := by kernel_rfl
theorem rdW59_14 : Region.ready .any opsW59 (bitsB 25 16383) = [14, 17, 18] := by kernel_rfl
theorem frW59_14 : Region.free .any opsW59 (bitsB 25 16383) 14 = true := by kernel_rfl
theorem stW59_14 : (bitsB 25 16383).setIfInBounds 14 true = (bitsB 25 32767) := by kernel_rfl
theorem rdW59_15 : Region.ready .any opsW59 (bitsB 25 32767) = [15, 17, 18] := by kernel_rfl
theorem frW59_15 : Region.free .any opsW59 (bitsB 25 32767) 15 = true := by kernel_rfl
theorem stW59_15 : (bitsB 25 32767).setIfInBounds 15 true = (bitsB 25 65535) := by kernel_rfl
theorem rdW59_16 : Region.ready .any opsW59 (bitsB 25 65535) = [16, 17, 18] := by kernel_rfl
theorem frW59_16 : Region.free .any opsW59 (bitsB 25 65535) 16 = true := by kernel_rfl
theorem stW59_16 : (bitsB 25 65535).setIfInBounds 16 true = (bitsB 25 131071) := by kernel_rfl
theorem rdW59_17 : Region.ready .any opsW59 (bitsB 25 131071) = [17, 18] := by kernel_rfl
theorem frW59_17 : Region.free .any opsW59 (bitsB 25 131071) 17 = true := by kernel_rfl
theorem stW59_17 : (bitsB 25 131071).setIfInBounds 17 true = (bitsB 25 262143) := by kernel_rfl
theorem rdW59_18 : Region.ready .any opsW59 (bitsB 25 262143) = [18] := by kernel_rfl
theorem stW59_18 : (bitsB 25 262143).setIfInBounds 18 true = (bitsB 25 524287) := by kernel_rfl
theorem rdW59_19 : Region.ready .any opsW59 (bitsB 25 524287) = [19] := by kernel_rfl
theorem stW59_19 : (bitsB 25 524287).setIfInBounds 19 true = (bitsB 25 1048575) := by kernel_rfl
theorem rdW59_20 : Region.ready .any opsW59 (bitsB 25 1048575) = [20] := by kernel_rfl
theorem stW59_20 : (bitsB 25 1048575).setIfInBounds 20 true = (bitsB 25 2097151) := by kernel_rfl
theorem rdW59_21 : Region.ready .any opsW59 (bitsB 25 2097151) = [21] := by kernel_rfl
theorem stW59_21 : (bitsB 25 2097151).setIfInBounds 21 true = (bitsB 25 4194303) := by kernel_rfl
theorem rdW59_22 : Region.ready .any opsW59 (bitsB 25 4194303) = [22] := by kernel_rfl
theorem stW59_22 : (bitsB 25 4194303).setIfInBounds 22 true = (bitsB 25 8388607) := by kernel_rfl
theorem rdW59_23 : Region.ready .any opsW59 (bitsB 25 8388607) = [23] := by kernel_rfl
theorem stW59_23 : (bitsB 25 8388607).setIfInBounds 23 true = (bitsB 25 16777215) := by kernel_rfl
theorem rdW59_24 : Region.ready .any opsW59 (bitsB 25 16777215) = [24] := by kernel_rfl
theorem stW59_24 : (bitsB 25 16777215).setIfInBounds 24 true = (bitsB 25 33554431) := by kernel_rfl
theorem rdW59_25 : Region.ready .any opsW59 (bitsB 25 33554431) = [] := by kernel_rfl
end Go.Proofs.Ytdhklfbelplbcaa
