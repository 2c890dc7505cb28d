/- Parts of the call's own, changed in their places. No program's text. -/
import Derived.Test.YtjlhajnficneoaaTg
namespace Go.Proofs.Ytjlhajnficneoaa
set_option linter.unusedVariables false
set_option linter.unusedSimpArgs false
open Go.RowKit

theorem own_rows {w : World} {base e size g cap n : Nat} {xs : List Value} (h : w.ownsRow base e size (.slice (some ⟨g, 0, none⟩) n cap) n xs) :
    ∃ cur : List Value, w.heap[g]? = some (.cells cur.toArray e (0, 0)) ∧ base ≤ g ∧ cur.length = cap * size ∧ n ≤ cap ∧ cap ≤ maxLen ∧ cur.take (n * size) = xs := by
  obtain ⟨h1, h2 | ⟨g', cap', cur, h3, h4, h5, h6, h7, h8, h9⟩⟩ := h
  · obtain ⟨h2, -⟩ := h2; cases h2
  · cases h3
    exact ⟨cur.toList, by simpa using h5, h4, by simpa using h8, h6, h7, h9⟩
theorem own_change {w : World} {base e size g cap n : Nat} {cur cur' : List Value} (hg : w.heap[g]? = some (.cells cur.toArray e (0, 0))) (hb : base ≤ g) (hl : cur.length = cap * size) (hn : n ≤ cap) (hm : cap ≤ maxLen) (hl' : cur'.length = cur.length) :
    (w.setRow g cur'.toArray).ownsRow base e size (.slice (some ⟨g, 0, none⟩) n cap) n (cur'.take (n * size)) := by
  refine ⟨?_, .inr ⟨g, cap, cur'.toArray, rfl, hb, setRow_heap w g _ _ e _ hg, hn, hm, by simp [hl', hl], by simp⟩⟩
  rw [List.length_take, hl', hl]
  exact Nat.min_eq_left (Nat.mul_le_mul_right _ hn)

/-- Parts of the call's own, from the head of a row on -/
def Own28 (base : Nat) (wx : World) (g n cap : Nat) (ps : List PartD) : Prop := ∃ cells, wx.ownsRow base 28 5 (.slice (some ⟨g, 0, none⟩) n cap) n cells ∧ PartsIn (OwnB wx base) cells ps ∧ ps.length = n ∧ (∀ p ∈ ps, Bytes8 p.data ∧ p.data.length ≤ 52)
theorem Own28.below {base : Nat} {w wx : World} {g n cap : Nat} {ps : List PartD} (h : Own28 base w g n cap ps) (hb : Below w.heap.size w wx) : Own28 base wx g n cap ps := by
  obtain ⟨cells, h1, h2, h3⟩ := h
  exact ⟨cells, own_below h1 hb, parts_mono h2 (fun v l k => OwnB.below k hb), h3⟩
theorem Own28.weaken {base base' : Nat} {w : World} {g n cap : Nat} {ps : List PartD} (h : Own28 base w g n cap ps) (hb : base' ≤ base) : Own28 base' w g n cap ps := by
  obtain ⟨cells, h1, h2, h3⟩ := h
  exact ⟨cells, own_weaken h1 hb, parts_mono h2 (fun v l k => own_weaken k hb), h3⟩
def cells5 (q : PartD) (v : Value) : List Value := [.int .i64 q.gen, .int .i64 q.rc, .int .i64 q.n, .int .i64 q.ofn, v]

theorem PartsIn.set {R : Value → List Nat → Prop} {cur : List Value} {ps : List PartD} {n k : Nat} {q : PartD} {v : Value} (h : PartsIn R (cur.take (n * 5)) ps) (hn : ps.length = n) (hk : k < n) (hfit : n * 5 ≤ cur.length) (hv : R v q.data) :
    PartsIn R ((splice cur (k * 5) (cells5 q v)).take (n * 5)) (ps.set k q) := by
  have hg := fun j => splice_get cur (k * 5) (cells5 q v) j (by simp [cells5]; omega)
  have hl : (cells5 q v).length = 5 := rfl
  intro i hi
  have hin : i < n := by simpa [hn] using hi
  by_cases hik : i = k
  · subst hik
    refine ⟨v, by simpa using hv, ?_⟩
    have key : ∀ j, j < 5 → ((splice cur (i * 5) (cells5 q v)).take (n * 5))[5 * i + j]? = (cells5 q v)[j]? := by
      intro j hj
      rw [List.getElem?_take_of_lt (by omega), hg, if_neg (by omega), if_pos (by omega)]
      congr 1
      omega
    rw [List.getElem_set_self]
    exact ⟨key 0 (by omega), key 1 (by omega), key 2 (by omega), key 3 (by omega), key 4 (by omega)⟩
  · obtain ⟨v', h0, h1, h2, h3, h4, h5⟩ := h i (by omega)
    have key : ∀ j, j < 5 → ((splice cur (k * 5) (cells5 q v)).take (n * 5))[5 * i + j]? = (cur.take (n * 5))[5 * i + j]? := by
      intro j hj
      rw [List.getElem?_take_of_lt (by omega), List.getElem?_take_of_lt (by omega), hg]
      split
      · rfl
      · split
        · omega
        · rfl
    have e : (ps.set k q)[i]'hi = ps[i]'(by omega) := by rw [List.getElem_set_ne (by omega)]
    rw [e]
    exact ⟨v', h0, (key 0 (by omega)).trans h1, (key 1 (by omega)).trans h2, (key 2 (by omega)).trans h3, (key 3 (by omega)).trans h4, (key 4 (by omega)).trans h5⟩

/-- a Part stored in the place of another -/
theorem Own28.store {base : Nat} {w : World} {g n cap : Nat} {ps : List PartD} (h : Own28 base w g n cap ps) (k : Nat) (hk : k < n) (q : PartD) (v : Value) (hv : OwnB w base v q.data) (hq : Bytes8 q.data ∧ q.data.length ≤ 52) :
    ∃ cur : List Value, w.heap[g]? = some (.cells cur.toArray 28 (0, 0)) ∧ k * 5 + 5 ≤ cur.length ∧ Own28 base (w.setRow g (splice cur (k * 5) (cells5 q v)).toArray) g n cap (ps.set k q) ∧
      (∀ B w0, Below B w0 w → B ≤ base → Below B w0 (w.setRow g (splice cur (k * 5) (cells5 q v)).toArray)) := by
  obtain ⟨cells, h1, h2, h3, h4⟩ := h
  obtain ⟨cur, hg, hb, hl, hn, hm, ht⟩ := own_rows h1
  have hfit : n * 5 ≤ cur.length := by rw [hl]; omega
  have hsl : (splice cur (k * 5) (cells5 q v)).length = cur.length := length_splice _ _ _ (by simp [cells5]; omega)
  subst ht
  refine ⟨cur, hg, by omega, ⟨_, own_change hg hb hl hn hm hsl, ?_, by simpa using h3, ?_⟩, fun B w0 hB hBb => below_setRow hB (by omega) _⟩
  · exact (PartsIn.set (parts_mono h2 (fun v l k => OwnB.other k hg (by decide) _)) h3 hk hfit (OwnB.other hv hg (by decide) _))
  · intro p hp
    rcases List.mem_or_eq_of_mem_set hp with hp | rfl
    · exact h4 p hp
    · exact hq

theorem set_splice (cur cs : List Value) (o j : Nat) (u : Value) (hfit : o + cs.length ≤ cur.length) (hcs : ∀ i, i < cs.length → cur[o + i]? = cs[i]?) (hj : j < cs.length) : cur.set (o + j) u = splice cur o (cs.set j u) := by
  have hg := fun i => splice_get cur o (cs.set j u) i (by simpa using hfit)
  apply List.ext_getElem?
  intro i
  rw [hg, List.length_set, List.getElem?_set]
  by_cases h1 : o + j = i
  · subst h1
    rw [if_pos rfl, if_pos (by omega), if_neg (by omega), if_pos (by omega), show o + j - o = j by omega, List.getElem?_set_self hj]
  · rw [if_neg h1]
    by_cases h2 : i < o
    · rw [if_pos h2]
    · rw [if_neg h2]
      by_cases h3 : i < o + cs.length
      · rw [if_pos h3, List.getElem?_set_ne (by omega), ← hcs (i - o) (by omega), show o + (i - o) = i by omega]
      · rw [if_neg h3]

/-- the cells of one Part, and what they hold -/
theorem Own28.at_ {base : Nat} {w : World} {g n cap : Nat} {ps : List PartD} (h : Own28 base w g n cap ps) (k : Nat) (hk : k < n) (hkp : k < ps.length) :
    ∃ v, OwnB w base v ps[k].data ∧ w.cell? ⟨g, k * 5, none⟩ = some (.int .i64 ps[k].gen) ∧ w.cell? ⟨g, k * 5 + 1, none⟩ = some (.int .i64 ps[k].rc) ∧ w.cell? ⟨g, k * 5 + 2, none⟩ = some (.int .i64 ps[k].n) ∧ w.cell? ⟨g, k * 5 + 3, none⟩ = some (.int .i64 ps[k].ofn) ∧ w.cell? ⟨g, k * 5 + 4, none⟩ = some v ∧
      (∀ j, j < 5 → w.frozen? ⟨g, k * 5 + j, none⟩ = false) := by
  obtain ⟨cells, h1, h2, h3, h4⟩ := h
  obtain ⟨v, k0, k1, k2, k3, k4, k5⟩ := h2 k hkp
  rw [Nat.mul_comm] at k1 k2 k3 k4 k5
  obtain ⟨cur, hg, -⟩ := own_rows h1
  exact ⟨v, k0, own_get h1 k1, own_get h1 k2, own_get h1 k3, own_get h1 k4, own_get h1 k5, fun j _ => by simp [World.frozen?, hg]⟩
theorem Own28.cell {base : Nat} {w : World} {g n cap : Nat} {ps : List PartD} (h : Own28 base w g n cap ps) (k : Nat) (hk : k < n) (hkp : k < ps.length) (j : Nat) (u : Value) (hj : j < 5) (v : Value) (hv : OwnB w base v ps[k].data) (hv4 : w.cell? ⟨g, k * 5 + 4, none⟩ = some v) :
    ∃ cur : List Value, w.heap[g]? = some (.cells cur.toArray 28 (0, 0)) ∧ k * 5 + 5 ≤ cur.length ∧ w.setCell ⟨g, k * 5 + j, none⟩ u = w.setRow g (splice cur (k * 5) ((cells5 ps[k] v).set j u)).toArray := by
  obtain ⟨v', h0, h1, h2, h3, h4, h5, -⟩ := h.at_ k hk hkp
  obtain ⟨cells, k1, k2, k3, k4⟩ := h
  obtain ⟨cur, hg, hb, hl, hn, hm, ht⟩ := own_rows k1
  rw [hv4] at h5
  cases h5
  have hlen : k * 5 + 5 ≤ cur.length := by rw [hl]; omega
  refine ⟨cur, hg, hlen, ?_⟩
  rw [setCell_eq_setRow w g _ _ 28 (0, 0) u hg, List.setIfInBounds_toArray, set_splice cur (cells5 ps[k] v) (k * 5) j u (by simpa [cells5] using hlen) ?_ (by simpa [cells5] using hj)]
  intro i hi
  have hc : ∀ j, w.cell? ⟨g, j, none⟩ = cur[j]? := fun j => by rw [cell_of_row w g j _ 28 (0, 0) hg]; simp
  rw [← hc]
  match i, hi with
  | 0, _ => exact h1
  | 1, _ => exact h2
  | 2, _ => exact h3
  | 3, _ => exact h4
  | 4, _ => exact hv4

theorem Own28.put {base : Nat} {w : World} {g n cap : Nat} {ps : List PartD} (h : Own28 base w g n cap ps) (k : Nat) (hk : k < n) (hkp : k < ps.length) (j : Nat) (u : Value) (hj : j < 5) (q : PartD) (v v' : Value)
    (hv : OwnB w base v ps[k].data) (hv4 : w.cell? ⟨g, k * 5 + 4, none⟩ = some v) (hu : (cells5 ps[k] v).set j u = cells5 q v') (hv' : OwnB w base v' q.data) (hq : Bytes8 q.data ∧ q.data.length ≤ 52) :
    Own28 base (w.setCell ⟨g, k * 5 + j, none⟩ u) g n cap (ps.set k q) ∧ (∀ B w0, Below B w0 w → B ≤ base → Below B w0 (w.setCell ⟨g, k * 5 + j, none⟩ u)) := by
  obtain ⟨cur, hg, hl, hs⟩ := h.cell k hk hkp j u hj v hv hv4
  obtain ⟨cur', hg', hl', ho, hb⟩ := h.store k hk q v' hv' hq
  rw [hg] at hg'
  have e : cur = cur' := by
    have := Option.some.inj hg'
    simpa using this
  subst e
  rw [hs, hu]
  exact ⟨ho, hb⟩
theorem own_take {w : World} {base g cap n q : Nat} {xs : List Value} {e : TypeId} (h : w.ownsRow base e 1 (.slice (some ⟨g, 0, none⟩) n cap) n xs) (hq : q ≤ n) : w.ownsRow base e 1 (.slice (some ⟨g, 0, none⟩) q cap) q (xs.take q) := by
  obtain ⟨cur, hg, hb, hl, hn, hm, ht⟩ := own_rows h
  refine ⟨?_, .inr ⟨g, cap, cur.toArray, rfl, hb, hg, by omega, hm, by simpa using hl, ?_⟩⟩
  · rw [List.length_take, h.1]; omega
  · rw [← ht]
    simp only [Nat.mul_one, List.take_take]
    rw [Nat.min_eq_left hq]

/-- one byte of a row of bytes changed: every row of bytes is one yet -/
theorem OwnB.byte {w : World} {base gd j : Nat} {x : Nat} {v : Value} {l : List Nat} {curd : Array Value} (h : OwnB w base v l) (hgd : w.heap[gd]? = some (.cells curd 5 (0, 0))) (hx : x < 256) :
    ∃ l' : List Nat, l'.length = l.length ∧ OwnB (w.setCell ⟨gd, j, none⟩ (by_ x)) base v l' ∧ (Bytes8 l → Bytes8 l') := by
  have hs : w.setCell ⟨gd, j, none⟩ (by_ x) = w.setRow gd (curd.setIfInBounds j (by_ x)) := setCell_eq_setRow w gd j curd 5 _ _ hgd
  rw [hs]
  obtain ⟨h1, h2⟩ := h
  rcases h2 with ⟨rfl, h2⟩ | ⟨g, cap, cur, rfl, h4, h5, h6, h7, h8, h9⟩
  · exact ⟨l, rfl, ⟨h1, .inl ⟨rfl, h2⟩⟩, fun h => h⟩
  · by_cases e : g = gd
    · subst e
      rw [hgd] at h5
      cases h5
      refine ⟨l.set j x, by simp, ⟨by simp [bs, enc], .inr ⟨g, cap, _, by rw [List.length_set], h4, setRow_heap w g _ _ 5 _ hgd, by simpa using h6, h7, by simpa using h8, ?_⟩⟩, ?_⟩
      · rw [Nat.mul_one] at h9 ⊢
        rw [List.length_set, Array.toList_setIfInBounds, List.take_set, h9]
        simp [bs, enc, List.map_set]
      · intro hb y hy
        rcases List.mem_or_eq_of_mem_set hy with hy | rfl
        · exact hb y hy
        · exact hx
    · refine ⟨l, rfl, ⟨h1, .inr ⟨g, cap, cur, rfl, h4, ?_, h6, h7, h8, h9⟩⟩, fun h => h⟩
      rw [setRow_other _ _ _ _ e]
      exact h5
theorem Own28.byte {base : Nat} {w : World} {g n cap gd j x : Nat} {ps : List PartD} {curd : Array Value} (h : Own28 base w g n cap ps) (hgd : w.heap[gd]? = some (.cells curd 5 (0, 0))) (hx : x < 256) (hb : base ≤ gd) :
    (∃ ps', Own28 base (w.setCell ⟨gd, j, none⟩ (by_ x)) g n cap ps') ∧ (∀ B w0, Below B w0 w → B ≤ base → Below B w0 (w.setCell ⟨gd, j, none⟩ (by_ x))) := by
  have hs : w.setCell ⟨gd, j, none⟩ (by_ x) = w.setRow gd (curd.setIfInBounds j (by_ x)) := setCell_eq_setRow w gd j curd 5 _ _ hgd
  obtain ⟨cells, h1, h2, h3, h4⟩ := h
  refine ⟨?_, fun B w0 hB hBb => by rw [hs]; exact below_setRow hB (by omega) _⟩
  have key : ∀ i : Fin ps.length, ∃ z : List Nat × Value, z.1.length = ps[i].data.length ∧ OwnB (w.setCell ⟨gd, j, none⟩ (by_ x)) base z.2 z.1 ∧ (Bytes8 ps[i].data → Bytes8 z.1) ∧
      cells[5 * i.1]? = some (.int .i64 ps[i].gen) ∧ cells[5 * i.1 + 1]? = some (.int .i64 ps[i].rc) ∧ cells[5 * i.1 + 2]? = some (.int .i64 ps[i].n) ∧ cells[5 * i.1 + 3]? = some (.int .i64 ps[i].ofn) ∧ cells[5 * i.1 + 4]? = some z.2 := by
    intro i
    obtain ⟨v, k0, k1⟩ := h2 i.1 i.2
    obtain ⟨l', e1, e2, e3⟩ := OwnB.byte (j := j) k0 hgd hx
    exact ⟨(l', v), e1, e2, e3, k1⟩
  obtain ⟨f, hf⟩ := Classical.axiomOfChoice key
  refine ⟨List.ofFn fun i : Fin ps.length => { ps[i] with data := (f i).1 }, cells, ?_, ?_, by simpa using h3, ?_⟩
  · rw [hs]
    obtain ⟨cur, hg, hb', hl, hn, hm, ht⟩ := own_rows h1
    have hne : g ≠ gd := by
      intro e; subst e
      rw [hg] at hgd; cases hgd
    refine ⟨h1.1, .inr ⟨g, cap, cur.toArray, rfl, hb', ?_, hn, hm, by simpa using hl, by simpa using ht⟩⟩
    rw [setRow_other _ _ _ _ hne]
    exact hg
  · intro i hi
    have hi' : i < ps.length := by simpa using hi
    obtain ⟨e1, e2, e3, e4⟩ := hf ⟨i, hi'⟩
    refine ⟨(f ⟨i, hi'⟩).2, ?_, ?_⟩
    · simpa using e2
    · simpa using e4
  · intro p hp
    obtain ⟨i, hi, rfl⟩ := List.mem_iff_getElem.1 hp
    have hi' : i < ps.length := by simpa using hi
    obtain ⟨e1, e2, e3, e4⟩ := hf ⟨i, hi'⟩
    have h8 := h4 ps[i] (List.getElem_mem _)
    simp only [List.getElem_ofFn]
    refine ⟨e3 h8.1, ?_⟩
    rw [e1]
    exact h8.2

/-- a slice of Parts that can be read, behind w -/
def MR (w : World) (v : Value) (wx : World) : Prop := ∃ A cap ps, v = .slice A ps.length cap ∧ ps.length ≤ 9 ∧ ps.length ≤ cap ∧ cap ≤ 9223372036854775807 ∧ PartsOf wx A ps ∧ (∀ p ∈ ps, Bytes8 p.data ∧ p.data.length ≤ 52) ∧ Below w.heap.size w wx
theorem own28_mr {base : Nat} {w wx : World} {g n cap : Nat} {ps : List PartD} (h : Own28 base wx g n cap ps) (hn : n ≤ 9) (hb : Below w.heap.size w wx) : MR w (.slice (some ⟨g, 0, none⟩) n cap) wx := by
  obtain ⟨cells, h1, h2, h3, h4⟩ := h
  obtain ⟨cur, hg, hb', hl, hnc, hm, ht⟩ := own_rows h1
  subst h3
  exact ⟨some ⟨g, 0, none⟩, cap, ps, rfl, hn, hnc, by unfold maxLen at hm; omega, .inr ⟨g, rfl, PartsIn.at_ h1 h2 (fun v l h => OwnB.slB h)⟩, h4, hb⟩
theorem row_mr {base : Nat} {w wx : World} {v : Value} {n : Nat} {cells : List Value} {ps : List PartD} (h1 : wx.ownsRow base 28 5 v n cells) (h2 : PartsIn (OwnB wx base) cells ps) (h3 : ps.length = n) (h4 : ∀ p ∈ ps, Bytes8 p.data ∧ p.data.length ≤ 52) (hn : n ≤ 9) (hb : Below w.heap.size w wx) : MR w v wx := by
  rcases h1.2 with ⟨rfl, hn0⟩ | ⟨g, cap, cur, rfl, -⟩
  · subst hn0
    have := List.eq_nil_of_length_eq_zero h3
    subst this
    exact ⟨none, 0, [], rfl, by simp, by simp, by omega, .inl rfl, h4, hb⟩
  · exact own28_mr ⟨cells, h1, h2, h3, h4⟩ hn hb
theorem PartsIn.erase {R : Value → List Nat → Prop} {cells : List Value} {ps : List PartD} {k : Nat} (h : PartsIn R cells ps) (hl : cells.length = ps.length * 5) (hk : k < ps.length) : PartsIn R (cells.take (k * 5) ++ cells.drop ((k + 1) * 5)) (ps.take k ++ ps.drop (k + 1)) := by
  have hlt : (cells.take (k * 5)).length = k * 5 := by rw [List.length_take]; omega
  intro i hi
  by_cases hik : i < k
  · obtain ⟨v, h0, h1, h2, h3, h4, h5⟩ := h i (by omega)
    have key : ∀ j, j < 5 → (cells.take (k * 5) ++ cells.drop ((k + 1) * 5))[5 * i + j]? = cells[5 * i + j]? := fun j hj => by
      rw [List.getElem?_append_left (by omega), List.getElem?_take_of_lt (by omega)]
    have e : (ps.take k ++ ps.drop (k + 1))[i]'hi = ps[i]'(by omega) := by
      rw [List.getElem_append_left (by simp; omega), List.getElem_take]
    rw [e]
    exact ⟨v, h0, (key 0 (by omega)).trans h1, (key 1 (by omega)).trans h2, (key 2 (by omega)).trans h3, (key 3 (by omega)).trans h4, (key 4 (by omega)).trans h5⟩
  · have hi2 : i + 1 < ps.length := by simp at hi; omega
    obtain ⟨v, h0, h1, h2, h3, h4, h5⟩ := h (i + 1) hi2
    have key : ∀ j, j < 5 → (cells.take (k * 5) ++ cells.drop ((k + 1) * 5))[5 * i + j]? = cells[5 * (i + 1) + j]? := fun j hj => by
      rw [List.getElem?_append_right (by omega), List.getElem?_drop, hlt]
      congr 1
      omega
    have e : (ps.take k ++ ps.drop (k + 1))[i]'hi = ps[i + 1]'hi2 := by
      rw [List.getElem_append_right (by simp; omega), List.getElem_drop]
      congr 1
      simp
      omega
    rw [e]
    exact ⟨v, h0, (key 0 (by omega)).trans h1, (key 1 (by omega)).trans h2, (key 2 (by omega)).trans h3, (key 3 (by omega)).trans h4, (key 4 (by omega)).trans h5⟩

theorem own_one {w : World} {base n : Nat} {v : Value} {l : List Nat} (h : OwnB w base v l) : v.oneCell' = true := by
  obtain ⟨A, c, rfl, -⟩ := Rd.own h
  rfl
theorem parts_one {w : World} {base : Nat} {cells : List Value} {ps : List PartD} (h : PartsIn (OwnB w base) cells ps) (hl : cells.length = ps.length * 5) : ∀ u ∈ cells, u.oneCell' = true := by
  intro u hu
  obtain ⟨j, hj, rfl⟩ := List.mem_iff_getElem.1 hu
  obtain ⟨v, h0, h1, h2, h3, h4, h5⟩ := h (j / 5) (by omega)
  have key : ∀ d x, 5 * (j / 5) + d = j → cells[5 * (j / 5) + d]? = some x → x.oneCell' = true → (cells[j]'hj).oneCell' = true := by
    intro d x e hx ho
    have : cells[j]? = some x := by rw [← hx]; congr 1; omega
    rw [List.getElem?_eq_getElem hj] at this
    cases this
    exact ho
  have hm : j % 5 = 0 ∨ j % 5 = 1 ∨ j % 5 = 2 ∨ j % 5 = 3 ∨ j % 5 = 4 := by omega
  rcases hm with e | e | e | e | e
  · exact key 0 _ (by omega) h1 rfl
  · exact key 1 _ (by omega) h2 rfl
  · exact key 2 _ (by omega) h3 rfl
  · exact key 3 _ (by omega) h4 rfl
  · exact key 4 _ (by omega) h5 (own_one (n := 0) h0)

/-- five cells, one after the other -/
theorem five {w : World} {g o : Nat} {cur : List Value} {t : TypeId} (a0 a1 a2 a3 a4 : Value) (hg : w.heap[g]? = some (.cells cur.toArray t (0, 0))) (hfit : o + 5 ≤ cur.length) :
    ((((w.setCell ⟨g, o, none⟩ a0).setCell ⟨g, o + 1, none⟩ a1).setCell ⟨g, o + 2, none⟩ a2).setCell ⟨g, o + 3, none⟩ a3).setCell ⟨g, o + 4, none⟩ a4 = w.setRow g (splice cur o [a0, a1, a2, a3, a4]).toArray := by
  have h0 : w = w.setRow g (splice cur o []).toArray := by rw [splice_nil, setRow_self w g _ t _ hg]
  have e0 := splice_step w g o 0 cur [] a0 t hg rfl (by omega)
  have e1 := splice_step w g o 1 cur [a0] a1 t hg rfl (by omega)
  have e2 := splice_step w g o 2 cur [a0, a1] a2 t hg rfl (by omega)
  have e3 := splice_step w g o 3 cur [a0, a1, a2] a3 t hg rfl (by omega)
  have e4 := splice_step w g o 4 cur [a0, a1, a2, a3] a4 t hg rfl (by omega)
  rw [← h0] at e0
  simp only [Nat.add_zero, List.nil_append] at e0
  simp only [List.cons_append, List.nil_append] at e1 e2 e3 e4
  rw [e0, e1, e2, e3, e4]
theorem Own28.five {base : Nat} {w : World} {g n cap : Nat} {ps : List PartD} (h : Own28 base w g n cap ps) (k : Nat) (hk : k < n) (q : PartD) (v : Value) (hv : OwnB w base v q.data) (hq : Bytes8 q.data ∧ q.data.length ≤ 52) :
    Own28 base (((((w.setCell ⟨g, k * 5, none⟩ (.int .i64 q.gen)).setCell ⟨g, k * 5 + 1, none⟩ (.int .i64 q.rc)).setCell ⟨g, k * 5 + 2, none⟩ (.int .i64 q.n)).setCell ⟨g, k * 5 + 3, none⟩ (.int .i64 q.ofn)).setCell ⟨g, k * 5 + 4, none⟩ v) g n cap (ps.set k q) ∧
      (∀ B w0, Below B w0 w → B ≤ base → Below B w0 (((((w.setCell ⟨g, k * 5, none⟩ (.int .i64 q.gen)).setCell ⟨g, k * 5 + 1, none⟩ (.int .i64 q.rc)).setCell ⟨g, k * 5 + 2, none⟩ (.int .i64 q.n)).setCell ⟨g, k * 5 + 3, none⟩ (.int .i64 q.ofn)).setCell ⟨g, k * 5 + 4, none⟩ v)) ∧
      (∀ u l, OwnB w base u l → OwnB (((((w.setCell ⟨g, k * 5, none⟩ (.int .i64 q.gen)).setCell ⟨g, k * 5 + 1, none⟩ (.int .i64 q.rc)).setCell ⟨g, k * 5 + 2, none⟩ (.int .i64 q.n)).setCell ⟨g, k * 5 + 3, none⟩ (.int .i64 q.ofn)).setCell ⟨g, k * 5 + 4, none⟩ v) base u l) := by
  obtain ⟨cur, hg, hl, ho, hb⟩ := h.store k hk q v hv hq
  rw [Go.Proofs.Ytjlhajnficneoaa.five _ _ _ _ _ hg hl]
  exact ⟨ho, hb, fun u l hu => OwnB.other hu hg (by decide) _⟩
end Go.Proofs.Ytjlhajnficneoaa
