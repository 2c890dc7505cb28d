/- The plain law: what was cut joins as it was. -/
import Derived.Test.YtjlhajnficneoaaSv
import Derived.Test.YtjlhajnficneoaaSn
namespace Go.Proofs.Ytjlhajnficneoaa
set_option linter.unusedVariables false
set_option linter.unusedSimpArgs false
open Go.RowKit

theorem chunks (L : List Nat) (k : Nat) : (List.range k).flatMap (fun i => (L.drop (i * 52)).take 52) = L.take (k * 52) := by
  induction k with
  | zero => simp
  | succ k ih =>
    rw [List.range_succ, List.flatMap_append, ih, Nat.succ_mul, List.take_add]
    simp
theorem joinAll_cut (gen rc : Int) (l : List Nat) : joinAll (cutOf gen rc l) = full l := by
  unfold joinAll cutOf
  rw [List.flatMap_map]
  have := chunks (full l) (recN l)
  rw [List.take_of_length_le (by rw [full_len]; exact Nat.le_refl _)] at this
  exact this
theorem joinN_cut (gen rc : Int) (l : List Nat) (h : l.length ≤ 100000) : joinN (cutOf gen rc l) = l.length := by
  unfold joinN
  rw [joinAll_cut]
  have e : full l = leN l.length 4 ++ (l ++ List.replicate (recN l * 52 - 4 - l.length) 0) := by simp [full]
  rw [e, List.take_left' (leN_len _ _)]
  have := num_le4 (l.length : Int) (by omega)
  omega
theorem joinB_cut (gen rc : Int) (l : List Nat) (h : l.length ≤ 100000) : joinB (cutOf gen rc l) = l := by
  unfold joinB
  rw [joinN_cut gen rc l h, joinAll_cut]
  have e : full l = leN l.length 4 ++ (l ++ List.replicate (recN l * 52 - 4 - l.length) 0) := by simp [full]
  rw [e, List.drop_left' (leN_len _ _), List.take_left' rfl]
theorem joinOk_cut (gen rc : Int) (l : List Nat) (hok : cutArg gen rc) (hn : recN l ≤ 255) : JoinOk (partOf gen rc l 0) (cutOf gen rc l) := by
  have hl : l.length ≤ 100000 := by unfold recN at hn; omega
  have hp : 0 < recN l := by unfold recN; omega
  refine ⟨by rw [part_len gen rc l 0 hp]; omega, ?_, hok, by rw [joinB_cut gen rc l hl]; exact hn, by rw [joinB_cut gen rc l hl]; rfl⟩
  rw [joinN_cut gen rc l hl, joinAll_cut, full_len]
  unfold recN
  omega
theorem cut_8 (gen rc : Int) (l : List Nat) (h8 : Bytes8 l) : ∀ q ∈ cutOf gen rc l, Bytes8 q.data := fun q hq => by
  unfold cutOf at hq
  simp only [List.mem_map] at hq
  obtain ⟨i, -, rfl⟩ := hq
  exact ((full_8 h8).drop _).take _

/-- Join of what was cut -/
theorem join_cut (gen rc : Int) (l : List Nat) (g c : Nat) (w : World) (hat : PartsAt w g (cutOf gen rc l)) (h8 : Bytes8 l) (hok : cutArg gen rc) (hn : recN l ≤ 255) (hcl : recN l ≤ c) :
    Calls Try.prog 24 #[.slice (some ⟨g, 0, none⟩) (recN l) c] w fun e w' => ∃ v, e = .returned (.tuple #[v, .bool true]) ∧ OwnB w' w.heap.size v l ∧ Below w.heap.size w w' := by
  have hl : l.length ≤ 100000 := by unfold recN at hn; omega
  have hp : 0 < recN l := by unfold recN; omega
  have hlen := cutOf_len gen rc l
  have h := join_walk (cutOf gen rc l) (partOf gen rc l 0) g c w hat (cut_8 gen rc l h8) (by rw [List.getElem?_eq_getElem (by rw [hlen]; exact hp), cutOf_get]) (by rw [joinAll_cut, full_len]; omega) (by rw [hlen]; exact hcl) (by rw [hlen]; omega)
  rw [hlen] at h
  refine h.mono ?_
  rintro e w' ⟨v, ok, rfl, h1, h2, -, h4⟩
  have ht : ok = true := h1.2 (joinOk_cut gen rc l hok hn)
  subst ht
  have h5 := h2 rfl
  rw [joinB_cut gen rc l hl] at h5
  exact ⟨v, rfl, h5, h4⟩
/-- a store into a row of the call's own -/
theorem own_put {w : World} {base n g cap : Nat} {e : TypeId} {xs : List Value} (h : w.ownsRow base e 1 (.slice (some ⟨g, 0, none⟩) n cap) n xs) (i : Nat) (hi : i < n) (v : Value) :
    (w.setCell ⟨g, i, none⟩ v).ownsRow base e 1 (.slice (some ⟨g, 0, none⟩) n cap) n (xs.set i v) ∧ w.frozen? ⟨g, i, none⟩ = false ∧ (∀ B w0, Below B w0 w → B ≤ base → Below B w0 (w.setCell ⟨g, i, none⟩ v)) := by
  obtain ⟨h1, h2 | ⟨g', cap', cur, h3, h4, h5, h6, h7, h8, h9⟩⟩ := h
  · obtain ⟨h2, -⟩ := h2; cases h2
  · cases h3
    have hset : w.setCell ⟨g, i, none⟩ v = w.setRow g (cur.setIfInBounds i v) := setCell_eq_setRow w g i cur e _ v h5
    refine ⟨⟨by simpa using h1, .inr ⟨g, cap, cur.setIfInBounds i v, rfl, h4, ?_, h6, h7, by simpa using h8, ?_⟩⟩, by simp [World.frozen?, h5], fun B w0 hb hB => ?_⟩
    · rw [hset]; exact setRow_heap _ _ _ _ e _ h5
    · rw [← h9, Array.toList_setIfInBounds, List.take_set]
    · rw [hset]; exact below_setRow hb (by omega) _
theorem own_shape {w : World} {base n e size : Nat} {v : Value} {xs : List Value} (h : w.ownsRow base e size v n xs) : ∃ A cap, v = .slice A n cap ∧ n ≤ cap ∧ cap ≤ 9223372036854775807 ∧ Rd w A xs ∧ (A = none → n = 0 ∧ cap = 0) ∧ (0 < n → ∃ g, A = some ⟨g, 0, none⟩ ∧ base ≤ g ∧ g < w.heap.size) := by
  obtain ⟨A, cap, hv, h1, h2, h3, h4⟩ := Rd.own h
  refine ⟨A, cap, hv, h1, h2, h3, h4, fun hn => ?_⟩
  obtain ⟨g, cap', hv', -, hg⟩ := own_some h hn
  rw [hv] at hv'
  cases hv'
  refine ⟨g, rfl, hg, ?_⟩
  have := h.lt g (by rw [hv]; rfl)
  exact this.2
/-- cells of a byte each, whatever they hold -/
def u8s (zs : List Int) : List Value := enc (Value.int .u8) zs
theorem bs_u8s (l : List Nat) : bs l = u8s (l.map (fun x : Nat => (x : Int))) := by simp [bs, u8s, enc, by_]
theorem u8s_set (zs : List Int) (i : Nat) (x : Int) : (u8s zs).set i (.int .u8 x) = u8s (zs.set i x) := by simp [u8s, enc, List.map_set]
theorem u8s_get (zs : List Int) (i : Nat) (h : i < zs.length) : (u8s zs)[i]? = some (.int .u8 zs[i]) := by simp [u8s, enc, h]
end Go.Proofs.Ytjlhajnficneoaa
