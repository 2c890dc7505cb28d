/- A map that counts the classes. -/
import Derived.Test.YtdhklfbelplbcaaGk
import Derived.Maps.OwnOps
import Derived.Maps.Views
import Derived.Maps.Keyed
import Derived.StringKeys
import Derived.WalkArith
namespace Go.Proofs.Ytdhklfbelplbcaa
set_option linter.unusedVariables false
set_option linter.unusedSimpArgs false
open Go.RowKit Go.Maps

/-- how many of the first k are alike s -/
def cntP (ns : List ByteArray) (s : ByteArray) : Nat → Nat
  | 0 => 0
  | k + 1 => cntP ns s k + if ns[k]?.any (fun x => x.toList == s.toList) then 1 else 0
theorem cntP_le (ns : List ByteArray) (s : ByteArray) (k : Nat) : cntP ns s k ≤ k := by
  induction k with
  | zero => exact Nat.le_refl _
  | succ k ih => unfold cntP; split <;> omega
/-- the map has counted the first k -/
def MapSt (W : World) (gm m : Nat) (ns : List ByteArray) (k : Nat) : Prop :=
  ∃ D : DataW Unit, W.ownsMap Try.prog 9 (plainElem Try.prog 3) gm m D ∧ ∀ s : ByteArray, D.atKey (.string s.data.toList) (.lit (.int .i64 0)) = .lit (.int .i64 (cntP ns s k : Nat))
theorem zero3 (w : World) : (zeroValue 3).run Try.prog w = .ok (.int .i64 0) w := by kernel_rfl
theorem MapSt.made (W : World) (ns : List ByteArray) : MapSt (W.alloc (.map #[] 0)) W.heap.size 0 ns 0 :=
  ⟨.map [], World.ownsMap_made _ _ _ _, fun s => WideAt.atKey_none _ (fun p hp => by simp at hp)⟩
theorem MapSt.kept {W W' : World} {gm m k : Nat} {ns : List ByteArray} {row : Option Nat} (h : MapSt W gm m ns k) (hg : W.grownBy W' row) (hne : some gm ≠ row) : MapSt W' gm m ns k := by
  obtain ⟨D, h1, h2⟩ := h
  exact ⟨D, h1.kept hg hne, h2⟩
set_option maxRecDepth 100000 in
theorem MapSt.lookup {W : World} {gm m k : Nat} {ns : List ByteArray} (h : MapSt W gm m ns k) (s : ByteArray) (hs : s.size ≤ maxLen) :
    (Instr.lookup 104 (.map (some gm)) (.string s) false).run Try.prog W = .ok (.int .i64 (cntP ns s k : Nat)) W := by
  obtain ⟨D, h1, h2⟩ := h
  obtain ⟨c, hr, hat, _⟩ := h1.lookup_int (string_keyed Try.underlying9) Try.underlying104 Try.underlying3 (zero3 _) (WideMaps.keyOf_string_mk Try.underlying9 hs)
  rw [h2 s] at hat
  injection hat with hat
  injection hat with _ hat
  rw [hr, ← hat]
set_option maxRecDepth 100000 in
theorem MapSt.update {W : World} {gm m k : Nat} {ns : List ByteArray} (h : MapSt W gm m ns k) (s : ByteArray) (hk : ns[k]? = some s) (hs : s.size ≤ maxLen) (hm : m < 1000000) (hkm : k < 1000000) :
    ∃ W', (Instr.mapUpdate 104 (.map (some gm)) (.string s) (.int .i64 ((cntP ns s k : Nat) + 1 : Int))).run Try.prog W = .ok () W' ∧ MapSt W' gm (m + 1) ns (k + 1) ∧ W.grownBy W' (some gm) := by
  obtain ⟨D, h1, h2⟩ := h
  have hle := cntP_le ns s k
  have hwf : (Lit.int .i64 ((cntP ns s k : Nat) + 1 : Int)).wf = true := WalkArith.wf_i64 (by omega)
  obtain ⟨W', r1, r2, r3⟩ := h1.update (string_keyed Try.underlying9) Try.underlying104 (by unfold maxLen; omega) (WideMaps.keyOf_string_mk Try.underlying9 hs) (plainElem_int Try.underlying3 hwf)
  refine ⟨W', r1, ⟨_, r2, fun z => ?_⟩, r3⟩
  by_cases e : z.data.toList = s.data.toList
  · have hc : cntP ns z (k + 1) = cntP ns s k + 1 := by
      have : ∀ j, cntP ns z j = cntP ns s j := by
        intro j
        induction j with
        | zero => rfl
        | succ j ih => unfold cntP; rw [ih, ByteArray.toList_eq z, e, ← ByteArray.toList_eq s]
      rw [cntP, this k, hk]
      simp [ByteArray.toList_eq, e]
    rw [e, atKey_put_same h1.isMap (show WideAt.IsKeyLit (.string s.data.toList) from True.intro), hc]
    rfl
  · rw [atKey_put_other (fun h => e (by injection h)), h2 z, cntP, hk]
    have : (s.toList == z.toList) = false := by
      rw [ByteArray.toList_eq, ByteArray.toList_eq]
      exact beq_eq_false_iff_ne.2 (fun h => e h.symm)
    simp [this]
end Go.Proofs.Ytdhklfbelplbcaa
