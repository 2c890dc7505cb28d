/-
  Rows of edges.
  What All lays: a function's sum, while it is laid and when it is.
  f36 sum: one function's.
-/
import Derived.Test.YtdhklfbelplbcaaZ09
import Derived.ChangeKeysEq
import Derived.Test.YtdhklfbelplbcaaZ10
import Derived.Test.YtdhklfbelplbcaaZ07
namespace Go.Proofs.Ytdhklfbelplbcaa
set_option linter.unusedVariables false
open Go.RowKit

theorem info93 : (Try.prog.info? 93).map (fun i => (i.zero, i.size, i.bytes)) = some (some (.agg #[.string ⟨#[]⟩, .string ⟨#[]⟩]), 2, 32) := by kernel_rfl
theorem plain9 : Try.prog.plainKey 9 = true := by kernel_rfl
theorem cells9 : Try.prog.cellsOf 9 = 1 := by kernel_rfl
theorem is9 : (Try.prog.info? 9).isSome = true := by kernel_rfl
theorem eq93 (ka kb a b : ByteArray) (w : World) :
    (Op.equalIn 10000 93 (.agg #[.string ka, .string kb]) (.agg #[.string a, .string b])).run Try.prog w = .ok ((ka.toList == a.toList) && (kb.toList == b.toList)) w := by
  obtain ⟨i, hi⟩ := Option.isSome_iff_exists.1 is9
  rw [run_equalIn_array w 9999 _ _ Try.underlying93 hi, cells9]
  have p0 : ∀ (x y : ByteArray), (part 9 #[.string x, .string y] (0 * 1)).run Try.prog w = .ok (.string x) w := fun x y => run_part_plain w plain9 rfl
  have p1 : ∀ (x y : ByteArray), (part 9 #[.string x, .string y] 1).run Try.prog w = .ok (.string y) w := fun x y => run_part_plain w plain9 rfl
  have q : ∀ (x y : ByteArray), (Op.equalIn 9999 9 (.string x) (.string y)).run Try.prog w = .ok (x.toList == y.toList) w := fun x y => run_equalIn_string w 9998 9 x y Try.underlying9
  show (Op.eqItems 9999 9 1 _ _ [0, 1]).run Try.prog w = _
  simp only [Op.eqItems, Sem.run_bind, p0, q, Result.andThen_ok]
  cases (ka.toList == a.toList)
  · simp
  · simp only [Bool.not_true, Bool.false_eq_true, if_false, Nat.one_mul, Sem.run_bind, p1, q, Result.andThen_ok]
    cases (kb.toList == b.toList) <;> simp
/-- edges, as they lie -/
def edV : List (ByteArray × ByteArray) → List Value
  | [] => []
  | e :: es => .string e.1 :: .string e.2 :: edV es
theorem edV_len : ∀ es, (edV es).length = es.length * 2
  | [] => rfl
  | e :: es => by simp only [edV, List.length_cons, edV_len es]; omega
theorem edV_app : ∀ es fs, edV (es ++ fs) = edV es ++ edV fs
  | [], fs => rfl
  | e :: es, fs => by simp only [edV, List.cons_append, edV_app es fs]
theorem edV_take : ∀ (k : Nat) es, (edV es).take (k * 2) = edV (es.take k)
  | 0, es => by simp [edV]
  | k + 1, [] => by simp [edV]
  | k + 1, e :: es => by rw [show (k + 1) * 2 = k * 2 + 1 + 1 by omega]; simp only [edV, List.take_succ_cons, edV_take k es]
theorem edV_drop : ∀ (k : Nat) es, (edV es).drop (k * 2) = edV (es.drop k)
  | 0, es => by simp
  | k + 1, [] => by simp [edV]
  | k + 1, e :: es => by rw [show (k + 1) * 2 = k * 2 + 1 + 1 by omega]; simp only [edV, List.drop_succ_cons, edV_drop k es]
theorem edV_one : ∀ es, ∀ u ∈ edV es, u.oneCell' = true
  | [], u, h => by cases h
  | e :: es, u, h => by
    simp only [edV, List.mem_cons] at h
    rcases h with rfl | rfl | h
    · rfl
    · rfl
    · exact edV_one es u h
theorem edV_at : ∀ (es : List (ByteArray × ByteArray)) (k : Nat) (h : k < es.length), (edV es)[k * 2]? = some (.string es[k].1) ∧ (edV es)[k * 2 + 1]? = some (.string es[k].2)
  | e :: es, 0, h => ⟨rfl, rfl⟩
  | e :: es, k + 1, h => by
    rw [show (k + 1) * 2 = k * 2 + 1 + 1 by omega, show k * 2 + 1 + 1 + 1 = (k * 2 + 1) + 1 + 1 by omega]
    simp only [edV, List.getElem?_cons_succ, List.getElem_cons_succ]
    exact edV_at es k (by simpa using h)
/-- a slice of edges -/
def SlEd (w : World) (v : Value) (es : List (ByteArray × ByteArray)) : Prop := ∃ A c, v = .slice A es.length c ∧ es.length ≤ c ∧ c ≤ 9223372036854775807 ∧ (A = none → es.length = 0 ∧ c = 0) ∧ Rd w A (edV es) ∧ ∀ a, A = some a → a = ⟨a.block, 0, none⟩
theorem SlEd.below {w w' : World} {v : Value} {es : List (ByteArray × ByteArray)} (h : SlEd w v es) (hb : Below w.heap.size w w') : SlEd w' v es := by
  obtain ⟨A, c, h1, h2, h3, h4, h5, h6⟩ := h
  exact ⟨A, c, h1, h2, h3, h4, h5.below hb, h6⟩
theorem SlEd.nil (w : World) : SlEd w (.slice none 0 0) [] := ⟨none, 0, rfl, Nat.le_refl _, by omega, fun _ => ⟨rfl, rfl⟩, Rd.nil _ _, fun a e => by cases e⟩
theorem SlEd.own {w : World} {base n : Nat} {v : Value} {xs : List Value} {es : List (ByteArray × ByteArray)} (h : w.ownsRow base 93 2 v n xs) (hx : xs = edV es) : SlEd w v es := by
  obtain ⟨A, c, e, h2, h3, h4, h5⟩ := Rd.own h
  have hn : n = es.length := by have := h.1; rw [hx, edV_len] at this; omega
  subst hn
  refine ⟨A, c, e, h2, h3, h5, hx ▸ h4, fun a ha => ?_⟩
  rcases h.2 with ⟨h6, -⟩ | ⟨g', cap, cur, h6, -⟩
  · rw [e] at h6; simp only [Value.slice.injEq] at h6; rw [h6.1] at ha; cases ha
  · rw [e] at h6; simp only [Value.slice.injEq] at h6; rw [h6.1] at ha; cases ha; rfl
/-- the cells of one edge -/
theorem SlEd.cells {w : World} {A : Option Addr} {es : List (ByteArray × ByteArray)} (hr : Rd w A (edV es)) (hp : ∀ a, A = some a → a = ⟨a.block, 0, none⟩) {k : Nat} (hk : k < es.length) :
    ∃ g, A = some ⟨g, 0, none⟩ ∧ w.cell? ⟨g, k * 2, none⟩ = some (.string es[k].1) ∧ w.cell? ⟨g, k * 2 + 1, none⟩ = some (.string es[k].2) := by
  obtain ⟨ad, e1, -⟩ := hr (k * 2) (by rw [edV_len]; omega)
  have e2 := hp ad e1
  rw [e1, e2] at hr
  have h := edV_at es k hk
  have h0 := hr.cells _ _ h.1
  have h1 := hr.cells _ _ h.2
  rw [add_plain] at h0 h1
  exact ⟨ad.block, by rw [e1, ← e2], h0, h1⟩
end Go.Proofs.Ytdhklfbelplbcaa
namespace Go.Proofs.Ytdhklfbelplbcaa
set_option linter.unusedVariables false
open Go.RowKit

theorem info83 : (Try.prog.info? 83).map (fun i => (i.zero, i.size, i.bytes)) = some (some (.agg #[.string ⟨#[]⟩, .int .i64 0, .string ⟨#[]⟩, .bool false, .string ⟨#[]⟩]), 5, 64) := by kernel_rfl
theorem info91 : (Try.prog.info? 91).map (fun i => (i.zero, i.size, i.bytes)) = some (some (.agg #[.string ⟨#[]⟩, .int .i64 0, .string ⟨#[]⟩, .string ⟨#[]⟩]), 4, 56) := by kernel_rfl
theorem info78 : (Try.prog.info? 78).map (fun i => (i.zero, i.size, i.bytes)) = some (some (.agg #[.string ⟨#[]⟩, .string ⟨#[]⟩, .slice none 0 0, .slice none 0 0, .slice none 0 0]), 5, 104) := by kernel_rfl
/-- accesses, as they lie -/
def AcOk (xs : List Value) (n : Nat) : Prop :=
  ∀ i, i < n → ∃ (f : ByteArray) (k : Int) (v : ByteArray) (b : Bool) (E : List Int), xs[i * 5]? = some (.string f) ∧ xs[i * 5 + 1]? = some (.int .i64 k) ∧ xs[i * 5 + 2]? = some (.string v) ∧ xs[i * 5 + 3]? = some (.bool b) ∧ xs[i * 5 + 4]? = some (.string (st E)) ∧ Ef 3 E ∧ v.size ≤ 4
/-- locks taken, as they lie -/
def AqOk (xs : List Value) (n : Nat) : Prop :=
  ∀ i, i < n → ∃ (f : ByteArray) (k : Int) (v : ByteArray) (E : List Int), xs[i * 4]? = some (.string f) ∧ xs[i * 4 + 1]? = some (.int .i64 k) ∧ xs[i * 4 + 2]? = some (.string v) ∧ xs[i * 4 + 3]? = some (.string (st E)) ∧ Ef 3 E
theorem AcOk.nil : AcOk [] 0 := fun i h => by omega
theorem AqOk.nil : AqOk [] 0 := fun i h => by omega
theorem AcOk.snoc {xs : List Value} {n : Nat} (h : AcOk xs n) (hl : xs.length = n * 5) {f v : ByteArray} {k : Int} {b : Bool} {E : List Int} (hE : Ef 3 E) (hv : v.size ≤ 4) : AcOk (xs ++ [.string f, .int .i64 k, .string v, .bool b, .string (st E)]) (n + 1) := by
  intro i hi
  by_cases c : i < n
  · obtain ⟨f1, k1, v1, b1, E1, h0, h1, h2, h3, h4, h5⟩ := h i c
    refine ⟨f1, k1, v1, b1, E1, ?_, ?_, ?_, ?_, ?_, h5⟩ <;> (rw [List.getElem?_append_left (by omega)]; assumption)
  · obtain rfl : i = n := by omega
    refine ⟨f, k, v, b, E, ?_, ?_, ?_, ?_, ?_, hE, hv⟩
    · rw [List.getElem?_append_right (by omega), hl, Nat.sub_self]; rfl
    · rw [List.getElem?_append_right (by omega), hl, Nat.add_sub_cancel_left]; rfl
    · rw [List.getElem?_append_right (by omega), hl, Nat.add_sub_cancel_left]; rfl
    · rw [List.getElem?_append_right (by omega), hl, Nat.add_sub_cancel_left]; rfl
    · rw [List.getElem?_append_right (by omega), hl, Nat.add_sub_cancel_left]; rfl
theorem AqOk.snoc {xs : List Value} {n : Nat} (h : AqOk xs n) (hl : xs.length = n * 4) {f v : ByteArray} {k : Int} {E : List Int} (hE : Ef 3 E) : AqOk (xs ++ [.string f, .int .i64 k, .string v, .string (st E)]) (n + 1) := by
  intro i hi
  by_cases c : i < n
  · obtain ⟨f1, k1, v1, E1, h0, h1, h2, h3, h5⟩ := h i c
    refine ⟨f1, k1, v1, E1, ?_, ?_, ?_, ?_, h5⟩ <;> (rw [List.getElem?_append_left (by omega)]; assumption)
  · obtain rfl : i = n := by omega
    refine ⟨f, k, v, E, ?_, ?_, ?_, ?_, hE⟩
    · rw [List.getElem?_append_right (by omega), hl, Nat.sub_self]; rfl
    · rw [List.getElem?_append_right (by omega), hl, Nat.add_sub_cancel_left]; rfl
    · rw [List.getElem?_append_right (by omega), hl, Nat.add_sub_cancel_left]; rfl
    · rw [List.getElem?_append_right (by omega), hl, Nat.add_sub_cancel_left]; rfl
/-- one function's sum while it is laid: its struct, the two rows of its own, the names -/
structure SmS (wi W : World) (m y : ByteArray) (va vq vs : Value) (na nq : Nat) (ls : List ByteArray) (xa xq : List Value) : Prop where
  hB : Below wi.heap.size wi W
  bx : W.heap[wi.heap.size]? = some (.cells ([.string m, .string y, va, vq, vs] : List Value).toArray 78 (0, 0))
  oa : W.ownsRow (wi.heap.size + 1) 83 5 va na xa
  ka : AcOk xa na
  oq : W.ownsRow (wi.heap.size + 1) 91 4 vq nq xq
  kq : AqOk xq nq
  ne : ∀ b, va.ownBlock = some b → vq.ownBlock ≠ some b
  sp : SlN W vs ls
  sf : ∀ b, vs.ownBlock = some b → wi.heap.size + 1 ≤ b ∧ b < W.heap.size ∧ va.ownBlock ≠ some b ∧ vq.ownBlock ≠ some b
theorem SmS.below {wi W W' : World} {m y : ByteArray} {va vq vs : Value} {na nq : Nat} {ls : List ByteArray} {xa xq : List Value} (h : SmS wi W m y va vq vs na nq ls xa xq) (hb : Below W.heap.size W W') : SmS wi W' m y va vq vs na nq ls xa xq :=
  ⟨bl_then h.hB h.hB.size hb, bl_row hb h.bx, own_below h.oa hb, h.ka, own_below h.oq hb, h.kq, h.ne, h.sp.below hb, fun b hb1 => ⟨(h.sf b hb1).1, Nat.lt_of_lt_of_le (h.sf b hb1).2.1 hb.size, (h.sf b hb1).2.2⟩⟩
theorem SmS.gs {wi W : World} {m y : ByteArray} {va vq vs : Value} {na nq : Nat} {ls : List ByteArray} {xa xq : List Value} (h : SmS wi W m y va vq vs na nq ls xa xq) : wi.heap.size < W.heap.size := (Array.getElem?_eq_some_iff.1 h.bx).1
/-- an access more -/
theorem SmS.growA {wi W W1 : World} {m y : ByteArray} {va va' vq vs : Value} {na na' nq : Nat} {ls : List ByteArray} {xa xa' xq : List Value} (h : SmS wi W m y va vq vs na nq ls xa xq)
    (o1 : W1.ownsRow (wi.heap.size + 1) 83 5 va' na' xa') (k1 : AcOk xa' na') (g1 : W.grownBy W1 va.ownBlock) (a1 : va'.ownBlock = va.ownBlock ∨ ∃ j, va'.ownBlock = some j ∧ W.heap.size ≤ j) :
    SmS wi (W1.setCell ⟨wi.heap.size, 2, none⟩ va') m y va' vq vs na' nq ls xa' xq := by
  have hnew : ∀ b, b < W.heap.size → va.ownBlock ≠ some b → va'.ownBlock ≠ some b := by
    intro b hb hne e
    rcases a1 with a1 | ⟨j, a1, hj⟩
    · exact hne (by rw [← a1]; exact e)
    · rw [a1] at e; cases e; omega
  have hbx1 : W1.heap[wi.heap.size]? = some (.cells ([.string m, .string y, va, vq, vs] : List Value).toArray 78 (0, 0)) := (g1.block _ h.gs (fun e => by have := (h.oa.lt _ e.symm).1; omega)).trans h.bx
  obtain ⟨e2, g2⟩ := set_field W1 wi.heap.size 2 _ va' 78 hbx1
  have hB1 : Below wi.heap.size wi W1 := h.hB.grown g1 h.hB.size (fun k hk => by have := (h.oa.lt k hk).1; omega)
  have q : ∀ b, some wi.heap.size = some b → b = wi.heap.size := fun b e => by cases e; rfl
  refine ⟨hB1.setCell (p := ⟨wi.heap.size, 2, none⟩) (Nat.le_refl _) va', e2, own_kept2 o1 g2 (fun b e e3 => by have := (o1.lt b e3).1; have := q b e; omega), k1, own_kept2 (own_kept2 h.oq g1 (fun b e => h.ne b e)) g2 (fun b e e3 => by have := (h.oq.lt b e3).1; have := q b e; omega), h.kq, fun b e e3 => hnew b (h.oq.lt b e3).2 (fun e4 => h.ne b e4 e3) e, (h.sp.grown g1 (fun b hb e => (h.sf b hb).2.2.1 e)).grown g2 (fun b hb e => by have := (h.sf b hb).1; have := q b e; omega), fun b hb => ?_⟩
  have hz := g2.size
  have hz1 := g1.size
  exact ⟨(h.sf b hb).1, by have := (h.sf b hb).2.1; omega, hnew b (h.sf b hb).2.1 (h.sf b hb).2.2.1, (h.sf b hb).2.2.2⟩
/-- a lock more -/
theorem SmS.growQ {wi W W1 : World} {m y : ByteArray} {va vq vq' vs : Value} {na nq nq' : Nat} {ls : List ByteArray} {xa xq xq' : List Value} (h : SmS wi W m y va vq vs na nq ls xa xq)
    (o1 : W1.ownsRow (wi.heap.size + 1) 91 4 vq' nq' xq') (k1 : AqOk xq' nq') (g1 : W.grownBy W1 vq.ownBlock) (a1 : vq'.ownBlock = vq.ownBlock ∨ ∃ j, vq'.ownBlock = some j ∧ W.heap.size ≤ j) :
    SmS wi (W1.setCell ⟨wi.heap.size, 3, none⟩ vq') m y va vq' vs na nq' ls xa xq' := by
  have hnew : ∀ b, b < W.heap.size → vq.ownBlock ≠ some b → vq'.ownBlock ≠ some b := by
    intro b hb hne e
    rcases a1 with a1 | ⟨j, a1, hj⟩
    · exact hne (by rw [← a1]; exact e)
    · rw [a1] at e; cases e; omega
  have hbx1 : W1.heap[wi.heap.size]? = some (.cells ([.string m, .string y, va, vq, vs] : List Value).toArray 78 (0, 0)) := (g1.block _ h.gs (fun e => by have := (h.oq.lt _ e.symm).1; omega)).trans h.bx
  obtain ⟨e2, g2⟩ := set_field W1 wi.heap.size 3 _ vq' 78 hbx1
  have hB1 : Below wi.heap.size wi W1 := h.hB.grown g1 h.hB.size (fun k hk => by have := (h.oq.lt k hk).1; omega)
  have q : ∀ b, some wi.heap.size = some b → b = wi.heap.size := fun b e => by cases e; rfl
  refine ⟨hB1.setCell (p := ⟨wi.heap.size, 3, none⟩) (Nat.le_refl _) vq', e2, own_kept2 (own_kept2 h.oa g1 (fun b e e3 => h.ne b e3 e)) g2 (fun b e e3 => by have := (h.oa.lt b e3).1; have := q b e; omega), h.ka, own_kept2 o1 g2 (fun b e e3 => by have := (o1.lt b e3).1; have := q b e; omega), k1, fun b e => hnew b (h.oa.lt b e).2 (h.ne b e), (h.sp.grown g1 (fun b hb e => (h.sf b hb).2.2.2 e)).grown g2 (fun b hb e => by have := (h.sf b hb).1; have := q b e; omega), fun b hb => ?_⟩
  have hz := g2.size
  have hz1 := g1.size
  exact ⟨(h.sf b hb).1, by have := (h.sf b hb).2.1; omega, (h.sf b hb).2.2.1, hnew b (h.sf b hb).2.1 (h.sf b hb).2.2.2⟩
/-- a name more -/
theorem SmS.growS {wi W W1 : World} {m y : ByteArray} {va vq vs vs' : Value} {na nq : Nat} {ls ls' : List ByteArray} {xa xq : List Value} (h : SmS wi W m y va vq vs na nq ls xa xq)
    (hb : Below W.heap.size W W1) (hs : SlN W1 vs' ls') (hf : Fr W.heap.size vs vs') (hp : 0 < ls'.length) :
    SmS wi (W1.setCell ⟨wi.heap.size, 4, none⟩ vs') m y va vq vs' na nq ls' xa xq := by
  have k := h.below hb
  obtain ⟨e2, g2⟩ := set_field W1 wi.heap.size 4 _ vs' 78 k.bx
  have q : ∀ b, some wi.heap.size = some b → b = wi.heap.size := fun b e => by cases e; rfl
  have hz := g2.size
  have hz1 := h.gs
  have hsf : ∀ b, vs'.ownBlock = some b → wi.heap.size + 1 ≤ b ∧ b < W1.heap.size ∧ va.ownBlock ≠ some b ∧ vq.ownBlock ≠ some b := by
    intro b hb1
    rcases hf with rfl | hf
    · exact k.sf b hb1
    · have h1 := hf b hb1
      exact ⟨by omega, hs.lt hp b hb1, fun e => by have := (h.oa.lt b e).2; omega, fun e => by have := (h.oq.lt b e).2; omega⟩
  refine ⟨k.hB.setCell (p := ⟨wi.heap.size, 4, none⟩) (Nat.le_refl _) vs', e2, own_kept2 k.oa g2 (fun b e e3 => by have := (k.oa.lt b e3).1; have := q b e; omega), k.ka, own_kept2 k.oq g2 (fun b e e3 => by have := (k.oq.lt b e3).1; have := q b e; omega), k.kq, k.ne, hs.grown g2 (fun b hb e => by have := (hsf b hb).1; have := q b e; omega), fun b hb1 => ?_⟩
  exact ⟨(hsf b hb1).1, by have := (hsf b hb1).2.1; omega, (hsf b hb1).2.2⟩
/-- one function's sum, laid: its two rows, each by itself, apart from the row of sums -/
def SumEl (W : World) (base : Nat) (v7 : Value) (z : List Value) : Prop :=
  ∃ (m y : ByteArray) (va vq vs : Value) (na nq : Nat) (xa xq : List Value), z = [.string m, .string y, va, vq, vs] ∧ W.ownsRow base 83 5 va na xa ∧ AcOk xa na ∧ W.ownsRow base 91 4 vq nq xq ∧ AqOk xq nq ∧ na ≤ 800 ∧ nq ≤ 800 ∧ (∃ A n c, vs = .slice A n c) ∧
    (∀ b, va.ownBlock = some b → v7.ownBlock ≠ some b) ∧ (∀ b, vq.ownBlock = some b → v7.ownBlock ≠ some b)
/-- the sums so far -/
structure AlS (w2 W : World) (v7 : Value) (zs : List (List Value)) : Prop where
  hB : Below w2.heap.size w2 W
  o7 : W.ownsRow w2.heap.size 78 5 v7 zs.length zs.flatten
  el : ∀ z ∈ zs, SumEl W w2.heap.size v7 z
theorem AlS.start (w2 : World) : AlS w2 w2 (.slice none 0 0) [] := ⟨Below.refl _ _, own_nil _ _ _ _, fun z h => by cases h⟩
theorem AlS.below {w2 W W' : World} {v7 : Value} {zs : List (List Value)} (h : AlS w2 W v7 zs) (hb : Below W.heap.size W W') : AlS w2 W' v7 zs :=
  ⟨bl_then h.hB h.hB.size hb, own_below h.o7 hb, fun z hz => by
    obtain ⟨m, y, va, vq, vs, na, nq, xa, xq, e, h1, h2, h3, h4, h5⟩ := h.el z hz
    exact ⟨m, y, va, vq, vs, na, nq, xa, xq, e, own_below h1 hb, h2, own_below h3 hb, h4, h5⟩⟩
/-- a sum more -/
theorem AlS.grow {w2 wi W W1 : World} {v7 v7' : Value} {zs : List (List Value)} {m y : ByteArray} {va vq vs : Value} {na nq : Nat} {ls : List ByteArray} {xa xq : List Value}
    (h : AlS w2 wi v7 zs) (hs : SmS wi W m y va vq vs na nq ls xa xq) (hna : na ≤ 800) (hnq : nq ≤ 800)
    (o1 : W1.ownsRow w2.heap.size 78 5 v7' (zs ++ [[.string m, .string y, va, vq, vs]]).length (zs ++ [[.string m, .string y, va, vq, vs]]).flatten) (b1 : Below w2.heap.size w2 W1) (g1 : W.grownBy W1 v7.ownBlock) (a1 : v7'.ownBlock = v7.ownBlock ∨ ∃ j, v7'.ownBlock = some j ∧ W.heap.size ≤ j) :
    AlS w2 W1 v7' (zs ++ [[.string m, .string y, va, vq, vs]]) := by
  have k := h.below hs.hB
  have hsz := h.hB.size
  have hnew : ∀ b, b < W.heap.size → v7.ownBlock ≠ some b → v7'.ownBlock ≠ some b := by
    intro b hb hne e
    rcases a1 with a1 | ⟨j, a1, hj⟩
    · exact hne (by rw [← a1]; exact e)
    · rw [a1] at e; cases e; omega
  refine ⟨b1, o1, fun z hz => ?_⟩
  have hold : SumEl W w2.heap.size v7 z := by
    rcases List.mem_append.1 hz with hz | hz
    · exact k.el z hz
    · obtain rfl := List.mem_singleton.1 hz
      obtain ⟨A, c, e, -⟩ := hs.sp
      exact ⟨m, y, va, vq, vs, na, nq, xa, xq, rfl, own_weaken hs.oa (by omega), hs.ka, own_weaken hs.oq (by omega), hs.kq, hna, hnq, ⟨_, _, _, e⟩, fun b hb e => by have := (hs.oa.lt b hb).1; have := (h.o7.lt b e).2; omega, fun b hb e => by have := (hs.oq.lt b hb).1; have := (h.o7.lt b e).2; omega⟩
  obtain ⟨m, y, va, vq, vs, na, nq, xa, xq, e, h1, h2, h3, h4, h5, h6, h7, h8, h9⟩ := hold
  exact ⟨m, y, va, vq, vs, na, nq, xa, xq, e, own_kept2 h1 g1 (fun b e2 e3 => h8 b e3 e2), h2, own_kept2 h3 g1 (fun b e2 e3 => h9 b e3 e2), h4, h5, h6, h7, fun b hb => hnew b (h1.lt b hb).2 (h8 b hb), fun b hb => hnew b (h3.lt b hb).2 (h9 b hb)⟩
theorem flat5 : ∀ (zs : List (List Value)), (∀ z ∈ zs, z.length = 5) → ∀ i, ∀ h : i < zs.length, ∀ o, o < 5 → zs.flatten[i * 5 + o]? = zs[i][o]?
  | z :: zs, hz, 0, h, o, ho => by
    have := hz z (by simp)
    simp only [List.flatten_cons, List.getElem_cons_zero, Nat.zero_mul, Nat.zero_add]
    rw [List.getElem?_append_left (by omega)]
  | z :: zs, hz, i + 1, h, o, ho => by
    have := hz z (by simp)
    simp only [List.flatten_cons, List.getElem_cons_succ]
    rw [List.getElem?_append_right (by omega), this, show (i + 1) * 5 + o - 5 = i * 5 + o by omega]
    exact flat5 zs (fun z h => hz z (by simp [h])) i (by simpa using h) o ho
/-- a slice of accesses -/
def SlAc (w : World) (v : Value) (n : Nat) : Prop := ∃ A c xs, v = .slice A n c ∧ n ≤ c ∧ c ≤ 9223372036854775807 ∧ Rd w A xs ∧ xs.length = n * 5 ∧ AcOk xs n ∧ ∀ a, A = some a → a = ⟨a.block, 0, none⟩
def SlAq (w : World) (v : Value) (n : Nat) : Prop := ∃ A c xs, v = .slice A n c ∧ n ≤ c ∧ c ≤ 9223372036854775807 ∧ Rd w A xs ∧ xs.length = n * 4 ∧ AqOk xs n ∧ ∀ a, A = some a → a = ⟨a.block, 0, none⟩
theorem SlAc.below {w w' : World} {v : Value} {n : Nat} (h : SlAc w v n) (hb : Below w.heap.size w w') : SlAc w' v n := by
  obtain ⟨A, c, xs, h1, h2, h3, h4, h5⟩ := h
  exact ⟨A, c, xs, h1, h2, h3, h4.below hb, h5⟩
theorem SlAq.below {w w' : World} {v : Value} {n : Nat} (h : SlAq w v n) (hb : Below w.heap.size w w') : SlAq w' v n := by
  obtain ⟨A, c, xs, h1, h2, h3, h4, h5⟩ := h
  exact ⟨A, c, xs, h1, h2, h3, h4.below hb, h5⟩
theorem plain_own {w : World} {base n e size : Nat} {v : Value} {xs : List Value} (h : w.ownsRow base e size v n xs) {A : Option Addr} {c : Nat} (hv : v = .slice A n c) : ∀ a, A = some a → a = ⟨a.block, 0, none⟩ := by
  intro a ha
  rcases h.2 with ⟨h6, -⟩ | ⟨g', cap, cur, h6, -⟩
  · rw [hv] at h6; simp only [Value.slice.injEq] at h6; rw [h6.1] at ha; cases ha
  · rw [hv] at h6; simp only [Value.slice.injEq] at h6; rw [h6.1] at ha; cases ha; rfl
/-- the sums of four functions, in a row -/
def SlSum (w : World) (v : Value) : Prop := ∃ g c, v = .slice (some ⟨g, 0, none⟩) 4 c ∧ 4 ≤ c ∧ c ≤ 9223372036854775807 ∧ ∀ i, i < 4 → ∃ (m y : ByteArray) (va vq vs : Value) (na nq : Nat),
  w.cell? ⟨g, i * 5, none⟩ = some (.string m) ∧ w.cell? ⟨g, i * 5 + 1, none⟩ = some (.string y) ∧ w.cell? ⟨g, i * 5 + 2, none⟩ = some va ∧ w.cell? ⟨g, i * 5 + 3, none⟩ = some vq ∧ w.cell? ⟨g, i * 5 + 4, none⟩ = some vs ∧
  SlAc w va na ∧ SlAq w vq nq ∧ na ≤ 800 ∧ nq ≤ 800 ∧ (∃ A n c, vs = .slice A n c)
theorem SlSum.below {w w' : World} {v : Value} (h : SlSum w v) (hb : Below w.heap.size w w') : SlSum w' v := by
  obtain ⟨g, c, h1, h2, h3, h4⟩ := h
  refine ⟨g, c, h1, h2, h3, fun i hi => ?_⟩
  obtain ⟨m, y, va, vq, vs, na, nq, c0, c1, c2, c3, c4, k1, k2, k3⟩ := h4 i hi
  exact ⟨m, y, va, vq, vs, na, nq, bl_cell hb c0, bl_cell hb c1, bl_cell hb c2, bl_cell hb c3, bl_cell hb c4, k1.below hb, k2.below hb, k3⟩
theorem AlS.out {w2 W : World} {v7 : Value} {zs : List (List Value)} (h : AlS w2 W v7 zs) (hl : zs.length = 4) : SlSum W v7 := by
  have ho := h.o7
  rw [hl] at ho
  obtain ⟨g, cap, rfl, -, -⟩ := own_some ho (by omega)
  obtain ⟨A, c, e, h2, h3, h4, -⟩ := Rd.own ho
  cases e
  refine ⟨g, _, rfl, h2, h3, fun i hi => ?_⟩
  have hi' : i < zs.length := by omega
  have h5 : ∀ z ∈ zs, z.length = 5 := fun z hz => by
    obtain ⟨m, y, va, vq, vs, na, nq, xa, xq, e, -⟩ := h.el z hz
    rw [e]; rfl
  obtain ⟨m, y, va, vq, vs, na, nq, xa, xq, e, k1, k2, k3, k4, k5, k6, k7, -, -⟩ := h.el _ (List.getElem_mem hi')
  have hat : ∀ o u, o < 5 → zs[i][o]? = some u → W.cell? ⟨g, i * 5 + o, none⟩ = some u := fun o u ho hu => by
    have := h4.cells (i * 5 + o) u (by rw [flat5 zs h5 i hi' o ho]; exact hu)
    rwa [add_plain] at this
  rw [e] at hat
  obtain ⟨A1, c1, e1, p1, p2, p3, -⟩ := Rd.own k1
  obtain ⟨A2, c2, e2, q1, q2, q3, -⟩ := Rd.own k3
  exact ⟨m, y, va, vq, vs, na, nq, hat 0 _ (by omega) rfl, hat 1 _ (by omega) rfl, hat 2 _ (by omega) rfl, hat 3 _ (by omega) rfl, hat 4 _ (by omega) rfl, ⟨A1, c1, xa, e1, p1, p2, p3, k1.1, k2, plain_own k1 e1⟩, ⟨A2, c2, xq, e2, q1, q2, q3, k3.1, k4, plain_own k3 e2⟩, k5, k6, k7⟩
end Go.Proofs.Ytdhklfbelplbcaa
namespace Go.Proofs.Ytdhklfbelplbcaa
set_option linter.unusedVariables false
set_option linter.unusedSimpArgs false
open Go.RowKit

/-- one sum, by value -/
def SumV (w : World) (v : Value) : Prop := ∃ (m y : ByteArray) (A1 A2 A3 : Option Addr) (na c1 nq c2 n3 c3 : Nat), v = .agg #[.string m, .string y, .slice A1 na c1, .slice A2 nq c2, .slice A3 n3 c3] ∧ SlAc w (.slice A1 na c1) na ∧ SlAq w (.slice A2 nq c2) nq ∧ na ≤ 800 ∧ nq ≤ 800
def SumPost (w0 w : World) (e : Ending) (w' : World) : Prop := ∃ v', e = .returned v' ∧ SumV w0 v' ∧ Below w.heap.size w w'
set_option maxHeartbeats 8000000 in
set_option maxRecDepth 100000 in
theorem dsum_any (v vl : Value) (bs : Nat → St) (f : Nat) (hf : f < 4) (w0 w : World) (hb0 : Below w0.heap.size w0 w) (hp : PrOk w0.cell? v bs) (hl : SlSum w0 vl) :
    Calls Try.prog 36 #[v, vl, .string (fnN f)] w (SumPost w0 w) := by
  replace hp := hp.mono (cell_le hb0)
  have hp' := Lib.hid hp
  obtain ⟨A0, n0, c0, g1, g2, rfl, -, -⟩ := hp
  obtain ⟨g, c, rfl, h4, hc, hl⟩ := hl
  obtain ⟨m, y, va, vq, vs, na, nq, e0, e1, e2, e3, e4, k1, k2, k3, k4, ⟨A3, n3, c3, rfl⟩⟩ := hl f hf
  have k1' := Lib.hid k1
  have k2' := Lib.hid k2
  obtain ⟨A1, c1, x1, rfl, -⟩ := k1
  obtain ⟨A2, c2, x2, rfl, -⟩ := k2
  have hce : Hid (∀ w', Below w.heap.size w w' → (w'.cell? ⟨g, f * 5, none⟩ = some (.string m) ∧ w'.cell? ⟨g, f * 5 + 1, none⟩ = some (.string y) ∧ w'.cell? ⟨g, f * 5 + 2, none⟩ = some (.slice A1 na c1) ∧ w'.cell? ⟨g, f * 5 + 3, none⟩ = some (.slice A2 nq c2) ∧ w'.cell? ⟨g, f * 5 + 4, none⟩ = some (.slice A3 n3 c3))) := Lib.hid (fun w' hb => ⟨bl_cell hb (bl_cell hb0 e0), bl_cell hb (bl_cell hb0 e1), bl_cell hb (bl_cell hb0 e2), bl_cell hb (bl_cell hb0 e3), bl_cell hb (bl_cell hb0 e4)⟩)
  replace hb0 := Lib.hid hb0
  clear e0 e1 e2 e3 e4 hl
  have i1 : (0 : Int) ≤ (f : Int) := by omega
  have i2 : (f : Int) < 4 := by omega
  have hb1 : Hid (Below w.heap.size w ((w.alloc (.cells #[.slice A0 n0 c0, .slice (some ⟨g1, 0, none⟩) 3 3, .slice (some ⟨g2, 0, none⟩) 4 4] 40)).alloc (.cells #[.string ⟨#[]⟩, .string ⟨#[]⟩, .slice none 0 0, .slice none 0 0, .slice none 0 0] 78))) := Lib.hid (bl_alloc (bl_alloc (Below.refl _ _) _) _)
  have hfi := Lib.hid (find_any (.agg #[.slice A0 n0 c0, .slice (some ⟨g1, 0, none⟩) 3 3, .slice (some ⟨g2, 0, none⟩) 4 4]) bs f hf _ (hp'.out.mono (cell_le hb1.out)))
  have hbx : Hid (((w.alloc (.cells #[.slice A0 n0 c0, .slice (some ⟨g1, 0, none⟩) 3 3, .slice (some ⟨g2, 0, none⟩) 4 4] 40)).alloc (.cells #[.string ⟨#[]⟩, .string ⟨#[]⟩, .slice none 0 0, .slice none 0 0, .slice none 0 0] 78)).heap[w.heap.size + 1]? = some (.cells #[.string ⟨#[]⟩, .string ⟨#[]⟩, .slice none 0 0, .slice none 0 0, .slice none 0 0] 78 (0, 0))) := Lib.hid (by
    have := heap_alloc_new (w.alloc (.cells #[.slice A0 n0 c0, .slice (some ⟨g1, 0, none⟩) 3 3, .slice (some ⟨g2, 0, none⟩) 4 4] 40)) (.cells #[.string ⟨#[]⟩, .string ⟨#[]⟩, .slice none 0 0, .slice none 0 0, .slice none 0 0] 78)
    rwa [World.size_alloc] at this)
  go_enter Try.func36, Try.ntmps36
  go_wp2_with (go_at_call 53; (with_reducible refine hfi.out.mono ?_); rintro e w2 ⟨rfl, hb2⟩; have hb3 := Lib.hid (bl_then hb1.out hb1.out.size hb2); have hbx2 := (bl_row hb2 hbx.out); obtain ⟨e0, e1, e2, e3, e4⟩ := hce.out w2 hb3.out; have f0 : w2.cell? ⟨w.heap.size + 1, 0, none⟩ = some (Value.string ⟨#[]⟩) := (by rw [cell_of_row _ _ 0 _ 78 (0, 0) hbx2]; rfl); have h0 : w2.frozen? ⟨w.heap.size + 1, 0, none⟩ = false := (by simp [World.frozen?, hbx2]); have f1 : w2.cell? ⟨w.heap.size + 1, 1, none⟩ = some (Value.string ⟨#[]⟩) := (by rw [cell_of_row _ _ 1 _ 78 (0, 0) hbx2]; rfl); have h1 : w2.frozen? ⟨w.heap.size + 1, 1, none⟩ = false := (by simp [World.frozen?, hbx2]); have f2 : w2.cell? ⟨w.heap.size + 1, 2, none⟩ = some (Value.slice none 0 0) := (by rw [cell_of_row _ _ 2 _ 78 (0, 0) hbx2]; rfl); have h2 : w2.frozen? ⟨w.heap.size + 1, 2, none⟩ = false := (by simp [World.frozen?, hbx2]); have f3 : w2.cell? ⟨w.heap.size + 1, 3, none⟩ = some (Value.slice none 0 0) := (by rw [cell_of_row _ _ 3 _ 78 (0, 0) hbx2]; rfl); have h3 : w2.frozen? ⟨w.heap.size + 1, 3, none⟩ = false := (by simp [World.frozen?, hbx2]); have f4 : w2.cell? ⟨w.heap.size + 1, 4, none⟩ = some (Value.slice none 0 0) := (by rw [cell_of_row _ _ 4 _ 78 (0, 0) hbx2]; rfl); have h4 : w2.frozen? ⟨w.heap.size + 1, 4, none⟩ = false := (by simp [World.frozen?, hbx2]); replace hbx2 := Lib.hid hbx2)
  have s0 := set_field w2 (w.heap.size + 1) 0 [.string ⟨#[]⟩, .string ⟨#[]⟩, .slice none 0 0, .slice none 0 0, .slice none 0 0] (.string m) 78 hbx2.out
  have s1 := set_field _ (w.heap.size + 1) 1 _ (.string y) 78 s0.1
  have s2 := set_field _ (w.heap.size + 1) 2 _ (.slice A1 na c1) 78 s1.1
  have s3 := set_field _ (w.heap.size + 1) 3 _ (.slice A2 nq c2) 78 s2.1
  have s4 := set_field _ (w.heap.size + 1) 4 _ (.slice A3 n3 c3) 78 s3.1
  have q : ∀ i, w.heap.size ≤ (⟨w.heap.size + 1, i, none⟩ : Addr).block := fun i => by show w.heap.size ≤ w.heap.size + 1; omega
  have hB := ((((hb3.out.setCell (p := ⟨w.heap.size + 1, 0, none⟩) (q 0) (.string m)).setCell (p := ⟨w.heap.size + 1, 1, none⟩) (q 1) (.string y)).setCell (p := ⟨w.heap.size + 1, 2, none⟩) (q 2) (.slice A1 na c1)).setCell (p := ⟨w.heap.size + 1, 3, none⟩) (q 3) (.slice A2 nq c2)).setCell (p := ⟨w.heap.size + 1, 4, none⟩) (q 4) (.slice A3 n3 c3)
  exact bodyPost_ret (v := .agg #[.string m, .string y, .slice A1 na c1, .slice A2 nq c2, .slice A3 n3 c3]) (res_c rfl _ _ (w.heap.size + 1) 78 _ (0, 0) _ rfl s4.1 Try.underlying78 rfl (by kernel_rfl)) rfl ⟨_, rfl, ⟨m, y, A1, A2, A3, na, c1, nq, c2, n3, c3, rfl, k1'.out, k2'.out, k3, k4⟩, hB⟩
end Go.Proofs.Ytdhklfbelplbcaa
