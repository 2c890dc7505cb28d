/- SectJoins: what a cut leaves. -/
import Derived.Test.YtjlhajnficneoaaTj
import Derived.Sort.AtCall
namespace Go.Proofs.Ytjlhajnficneoaa
set_option linter.unusedVariables false
set_option linter.unusedSimpArgs false
open Go.RowKit

theorem cut_own {gen rc : Int} {l : List Nat} {w wx : World} {v : Value} {cells : List Value} {n : Nat} (hrn : recN l = n) (h8 : Bytes8 l) (hn : l.length ≤ 400) (ho : wx.ownsRow w.heap.size 28 5 v (recN l) cells) (hp : PartsIn (OwnB wx w.heap.size) cells (cutOf gen rc l)) :
    ∃ g cap ps, v = .slice (some ⟨g, 0, none⟩) n cap ∧ n ≤ cap ∧ cap ≤ 9223372036854775807 ∧ w.heap.size ≤ g ∧ Own28 w.heap.size wx g n cap ps ∧ (∀ p ∈ ps, p.data.length = 52) := by
  have hp0 : 0 < recN l := by unfold recN; omega
  subst hrn
  obtain ⟨A', cap', he, -, h63, -, -⟩ := Rd.own ho
  obtain ⟨g, cap, rfl, hcap, hg⟩ := own_some ho hp0
  cases he
  have h52 : ∀ p ∈ cutOf gen rc l, p.data.length = 52 := by
    intro p hp
    obtain ⟨i, hi, rfl⟩ := List.mem_iff_getElem.1 hp
    rw [cutOf_get]
    exact part_len _ _ _ i (by rw [cutOf_len] at hi; exact hi)
  exact ⟨g, cap', _, rfl, hcap, h63, hg, ⟨cells, ho, hp, cutOf_len _ _ _, fun p hp => ⟨cut_8 _ _ _ h8 p hp, by have := h52 p hp; omega⟩⟩, h52⟩
end Go.Proofs.Ytjlhajnficneoaa
