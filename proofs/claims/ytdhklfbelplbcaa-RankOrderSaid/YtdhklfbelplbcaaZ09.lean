/-
  The walk of a body: the points of its statements, what it does to a state.
  The document's detector: apart, before, Ahead.
  The order of effects: what a body does rises with what its callees do; a height that falls.
  What a function reaches is closed under calls.
-/
import Derived.Test.YtdhklfbelplbcaaZ08
namespace Go.Proofs.Ytdhklfbelplbcaa
set_option linter.unusedVariables false
set_option linter.unusedSimpArgs false
open Go.RowKit

def oneE : List Int := allL 3 49
theorem oneE_ef : Ef 3 oneE := Ef.allc 3 (by omega) (by omega)
/-- what one statement does to a state, and all -/
def effM (most : Bool) (own : Nat → List Int) : St → List Int → List Int
  | .nil, e => e
  | .cons k nm a b r, e => effM most own r
      (if k = 3 then putL e (placeM nm) 50 else if k = 4 then putL e (placeM nm) 48 else if k = 5 then thenL e (own (fnIx nm))
       else if k = 7 then bothL most (effM most own a e) (effM most own b e) else if k = 8 then thenL e (bothL most oneE (effM most own a oneE)) else e)
theorem effM_ef {most : Bool} {own : Nat → List Int} (ho : ∀ j, j < 4 → Ef 3 (own j)) : ∀ (t : St) (e : List Int), Ef 3 e → Ef 3 (effM most own t e)
  | .nil, e, h => h
  | .cons k nm a b r, e, h => by
    unfold effM
    refine effM_ef ho r _ ?_
    split
    · exact h.put _ (by omega) (by omega)
    · split
      · exact h.put _ (by omega) (by omega)
      · split
        · exact h.tn (ho _ (fnIx_lt _))
        · split
          · exact Ef.both most (effM_ef ho a e h) (effM_ef ho b e h)
          · split
            · exact h.tn (Ef.both most oneE_ef (effM_ef ho a _ oneE_ef))
            · exact h
/-- how many points a body has -/
def ptsN : St → Nat
  | .nil => 0
  | .cons k nm a b r => 1 + (if k = 7 then ptsN a + ptsN b else if k = 8 then ptsN a else 0) + ptsN r
theorem ptsN_le : ∀ t : St, ptsN t ≤ t.cnt
  | .nil => Nat.le_refl _
  | .cons k nm a b r => by
    have h1 := ptsN_le a
    have h2 := ptsN_le b
    have h3 := ptsN_le r
    unfold ptsN St.cnt
    split
    · omega
    · split <;> omega
/-- points, as they lie -/
def PtsOk (T : St) (xs : List Value) (n : Nat) : Prop :=
  ∀ i, i < n → ∃ (k x : Int) (nm : ByteArray) (va vb : Value) (E : List Int), xs[i * 7]? = some (.int .i64 k) ∧ xs[i * 7 + 1]? = some (.int .i64 x) ∧ xs[i * 7 + 2]? = some (.string nm) ∧ xs[i * 7 + 3]? = some va ∧ xs[i * 7 + 4]? = some vb ∧
    xs[i * 7 + 5]? = some (.int .i64 (i : Nat)) ∧ xs[i * 7 + 6]? = some (.string (st E)) ∧ Ef 3 E ∧ nm.size ≤ 4 ∧ (k = 5 → FN nm ∧ InSt 5 nm T) ∧ va.oneCell' = true ∧ vb.oneCell' = true
theorem PtsOk.nil (T : St) : PtsOk T [] 0 := fun i hi => by omega
theorem PtsOk.snoc {T : St} {xs : List Value} {n : Nat} (h : PtsOk T xs n) (hl : xs.length = n * 7) {k x : Int} {nm : ByteArray} {va vb : Value} {E : List Int} (hE : Ef 3 E) (hn : nm.size ≤ 4) (hk : k = 5 → FN nm ∧ InSt 5 nm T) (ha : va.oneCell' = true) (hb : vb.oneCell' = true) :
    PtsOk T (xs ++ [.int .i64 k, .int .i64 x, .string nm, va, vb, .int .i64 (n : Nat), .string (st E)]) (n + 1) := by
  intro i hi
  by_cases c : i < n
  · obtain ⟨k', x', nm', va', vb', E', h0, h1, h2, h3, h4, h5, h6, h7⟩ := h i c
    refine ⟨k', x', nm', va', vb', E', ?_, ?_, ?_, ?_, ?_, ?_, ?_, h7⟩ <;> (rw [List.getElem?_append_left (by omega)]; assumption)
  · have e : i = n := by omega
    subst e
    refine ⟨k, x, nm, va, vb, E, ?_, ?_, ?_, ?_, ?_, ?_, ?_, hE, hn, hk, ha, hb⟩
    · rw [List.getElem?_append_right (by omega), hl, Nat.sub_self]; rfl
    all_goals (rw [List.getElem?_append_right (by omega), hl, Nat.add_sub_cancel_left]; rfl)
theorem PtsOk.set {T : St} {xs : List Value} {n at_ : Nat} (h : PtsOk T xs n) (hl : xs.length = n * 7) (ha : at_ < n) {E : List Int} (hE : Ef 3 E) : PtsOk T (xs.set (at_ * 7 + 6) (.string (st E))) n := by
  intro i hi
  obtain ⟨k', x', nm', va', vb', E', h0, h1, h2, h3, h4, h5, h6, h7, h8⟩ := h i hi
  by_cases c : i = at_
  · subst c
    refine ⟨k', x', nm', va', vb', E, ?_, ?_, ?_, ?_, ?_, ?_, ?_, hE, h8⟩
    · rw [List.getElem?_set_ne (by omega)]; exact h0
    · rw [List.getElem?_set_ne (by omega)]; exact h1
    · rw [List.getElem?_set_ne (by omega)]; exact h2
    · rw [List.getElem?_set_ne (by omega)]; exact h3
    · rw [List.getElem?_set_ne (by omega)]; exact h4
    · rw [List.getElem?_set_ne (by omega)]; exact h5
    · rw [List.getElem?_set_self (by omega)]
  · refine ⟨k', x', nm', va', vb', E', ?_, ?_, ?_, ?_, ?_, ?_, ?_, h7, h8⟩ <;> (rw [List.getElem?_set_ne (by omega)]; assumption)
theorem info120 : (Try.prog.info? 120).map (fun i => (i.zero, i.size, i.bytes)) = some (some (.agg #[.int .i64 0, .int .i64 0, .string ⟨#[]⟩, .slice none 0 0, .slice none 0 0, .int .i64 0, .string ⟨#[]⟩]), 7, 104) := by kernel_rfl
/-- one analysis of one body: its struct, its points -/
structure WayS (W : World) (g : Nat) (p0 p1 p2 vo : Value) (most : Bool) (T : St) (vL : Value) (n : Nat) (xs : List Value) : Prop where
  bx : W.heap[g]? = some (.cells [p0, p1, p2, .bool most, vo, vL].toArray 117 (0, 0))
  own : W.ownsRow (g + 1) 120 7 vL n xs
  pts : PtsOk T xs n
theorem WayS.below {W W' : World} {g : Nat} {p0 p1 p2 vo vL : Value} {most : Bool} {T : St} {n : Nat} {xs : List Value} (h : WayS W g p0 p1 p2 vo most T vL n xs) (hb : Below W.heap.size W W') : WayS W' g p0 p1 p2 vo most T vL n xs :=
  ⟨bl_row hb h.bx, own_below h.own hb, h.pts⟩
theorem WayS.drew {W : World} {g : Nat} {p0 p1 p2 vo vL : Value} {most : Bool} {T : St} {n : Nat} {xs : List Value} (h : WayS W g p0 p1 p2 vo most T vL n xs) : WayS W.drew g p0 p1 p2 vo most T vL n xs := h.below (Below.refl _ _).drew
theorem WayS.cells {W : World} {g : Nat} {p0 p1 p2 vo vL : Value} {most : Bool} {T : St} {n : Nat} {xs : List Value} (h : WayS W g p0 p1 p2 vo most T vL n xs) :
    W.cell? ⟨g, 0, none⟩ = some p0 ∧ W.cell? ⟨g, 1, none⟩ = some p1 ∧ W.cell? ⟨g, 2, none⟩ = some p2 ∧ W.cell? ⟨g, 3, none⟩ = some (.bool most) ∧ W.cell? ⟨g, 4, none⟩ = some vo ∧ W.cell? ⟨g, 5, none⟩ = some vL ∧ ∀ i, W.frozen? ⟨g, i, none⟩ = false := by
  have hx := h.bx
  refine ⟨?_, ?_, ?_, ?_, ?_, ?_, fun i => by simp [World.frozen?, hx]⟩ <;> (rw [cell_of_row W g _ _ 117 (0, 0) hx]; rfl)
/-- a grown row of points is laid in the struct -/
theorem WayS.grow {W w1 : World} {g : Nat} {p0 p1 p2 vo vL v1 : Value} {most : Bool} {T : St} {n n1 : Nat} {xs ys : List Value} (h : WayS W g p0 p1 p2 vo most T vL n xs) (ho : w1.ownsRow (g + 1) 120 7 v1 n1 ys) (hp : PtsOk T ys n1) (hg : W.grownBy w1 vL.ownBlock) :
    WayS (w1.setCell ⟨g, 5, none⟩ v1) g p0 p1 p2 vo most T v1 n1 ys ∧ w1.grownBy (w1.setCell ⟨g, 5, none⟩ v1) (some g) := by
  have hb : w1.heap[g]? = some (.cells [p0, p1, p2, .bool most, vo, vL].toArray 117 (0, 0)) := by
    rw [hg.block g (Array.getElem?_eq_some_iff.1 h.bx).1 (fun e => by have := (h.own.lt _ e.symm).1; omega)]
    exact h.bx
  obtain ⟨q1, q2⟩ := set_field w1 g 5 _ v1 117 hb
  refine ⟨⟨q1, ho.kept q2 (.inr fun e => by have := (ho.lt _ e).1; omega), hp⟩, q2⟩
/-- the effects of the four functions, in a row -/
def ownV (own : Nat → List Int) : List Value := [.string (st (own 0)), .string (st (own 1)), .string (st (own 2)), .string (st (own 3))]
theorem ownV_at (own : Nat → List Int) (j : Nat) (hj : j < 4) : (ownV own)[j]? = some (.string (st (own j))) := by
  rcases (by omega : j = 0 ∨ j = 1 ∨ j = 2 ∨ j = 3) with rfl | rfl | rfl | rfl <;> rfl
/-- what one analysis changes: its struct, its own row, new blocks -/
structure Gr2 (W W' : World) (g : Nat) (v v' : Value) : Prop where
  os : W'.os = W.os
  tape : W'.tape = W.tape
  output : W'.output = W.output
  size : W.heap.size ≤ W'.heap.size
  block : ∀ i, i < W.heap.size → i ≠ g → v.ownBlock ≠ some i → W'.heap[i]? = W.heap[i]?
  at_ : v'.ownBlock = v.ownBlock ∨ ∃ b, v'.ownBlock = some b ∧ W.heap.size ≤ b
theorem Gr2.refl (W : World) (g : Nat) (v : Value) : Gr2 W W g v v := ⟨rfl, rfl, rfl, Nat.le_refl _, fun _ _ _ _ => rfl, .inl rfl⟩
theorem Gr2.trans {W W1 W2 : World} {g : Nat} {v v1 v2 : Value} (h : Gr2 W W1 g v v1) (k : Gr2 W1 W2 g v1 v2) : Gr2 W W2 g v v2 := by
  refine ⟨k.os.trans h.os, k.tape.trans h.tape, k.output.trans h.output, Nat.le_trans h.size k.size, fun i hi hg hv => ?_, ?_⟩
  · rw [k.block i (Nat.lt_of_lt_of_le hi h.size) hg (fun e => ?_), h.block i hi hg hv]
    rcases h.at_ with a | ⟨b, a, hb⟩
    · rw [a] at e; exact hv e
    · rw [a] at e; cases e; omega
  · rcases k.at_ with a | ⟨b, a, hb⟩
    · rw [a]; exact h.at_
    · exact .inr ⟨b, a, Nat.le_trans h.size hb⟩
theorem Gr2.of_below {W W' : World} (h : Below W.heap.size W W') (g : Nat) (v : Value) : Gr2 W W' g v v := ⟨h.os, h.tape, h.output, h.size, fun i hi _ _ => h.block i hi, .inl rfl⟩
theorem Gr2.of_grown {W W' : World} {g : Nat} {v v' : Value} (h : W.grownBy W' v.ownBlock) (hat : v'.ownBlock = v.ownBlock ∨ ∃ b, v'.ownBlock = some b ∧ W.heap.size ≤ b) : Gr2 W W' g v v' :=
  ⟨h.os, h.tape, h.output, h.size, fun i hi _ hv => h.block i hi (fun e => hv e.symm), hat⟩
theorem Gr2.of_row {W W' : World} {g : Nat} (h : W.grownBy W' (some g)) (v : Value) : Gr2 W W' g v v := ⟨h.os, h.tape, h.output, h.size, fun i hi hg _ => h.block i hi (fun e => hg (by cases e; rfl)), .inl rfl⟩
theorem WayS.gr2 {W W' : World} {g : Nat} {p0 p1 p2 vo v v' : Value} {most : Bool} {T : St} {n : Nat} {xs : List Value} (h : WayS W g p0 p1 p2 vo most T v n xs) (k : Gr2 W W' g v v') : Below g W W' :=
  ⟨k.os, k.tape, k.output, k.size, fun i hi => k.block i (Nat.lt_trans hi (Array.getElem?_eq_some_iff.1 h.bx).1) (by omega) (fun e => by have := (h.own.lt _ e).1; omega)⟩
/-- one cell of an own row is written -/
theorem own_set {w : World} {base n size g cap : Nat} {e : TypeId} {xs : List Value} (h : w.ownsRow base e size (.slice (some ⟨g, 0, none⟩) n cap) n xs) (i : Nat) (hi : i < n * size) (u : Value) :
    (w.setCell ⟨g, i, none⟩ u).ownsRow base e size (.slice (some ⟨g, 0, none⟩) n cap) n (xs.set i u) ∧ w.grownBy (w.setCell ⟨g, i, none⟩ u) (some g) := by
  obtain ⟨h1, h2⟩ := h
  rcases h2 with ⟨h2, -⟩ | ⟨g', cap', cur, h2, h3, h4, h5, h6, h7, h8⟩
  · cases h2
  · cases h2
    have h4' : w.heap[g]? = some (.cells cur.toList.toArray e (0, 0)) := by simpa using h4
    obtain ⟨q1, q2⟩ := set_field w g i _ u e h4'
    refine ⟨⟨by simp [h1], .inr ⟨g, cap, _, rfl, h3, q1, h5, h6, by simp [h7], ?_⟩⟩, q2⟩
    rw [← h8]
    simp [List.take_set]
theorem WayS.setE {W : World} {g n g1 cap at_ : Nat} {p0 p1 p2 vo : Value} {most : Bool} {T : St} {xs : List Value} (h : WayS W g p0 p1 p2 vo most T (.slice (some ⟨g1, 0, none⟩) n cap) n xs) (ha : at_ < n) {E : List Int} (hE : Ef 3 E) :
    WayS (W.setCell ⟨g1, at_ * 7 + 6, none⟩ (.string (st E))) g p0 p1 p2 vo most T (.slice (some ⟨g1, 0, none⟩) n cap) n (xs.set (at_ * 7 + 6) (.string (st E))) ∧ Gr2 W (W.setCell ⟨g1, at_ * 7 + 6, none⟩ (.string (st E))) g (.slice (some ⟨g1, 0, none⟩) n cap) (.slice (some ⟨g1, 0, none⟩) n cap) := by
  obtain ⟨q1, q2⟩ := own_set h.own (at_ * 7 + 6) (by omega) (.string (st E))
  have hne : g ≠ g1 := fun e => by have := (h.own.lt g1 rfl).1; omega
  refine ⟨⟨?_, q1, h.pts.set h.own.1 ha hE⟩, Gr2.of_grown q2 (.inl rfl)⟩
  rw [q2.block g (Array.getElem?_eq_some_iff.1 h.bx).1 (fun e => hne (by cases e; rfl))]
  exact h.bx
theorem WayS.kept2 {W W' : World} {g g2 n2 : Nat} {p0 p1 p2 vo v v' v2 : Value} {most : Bool} {T : St} {xs2 : List Value} (h : WayS W g2 p0 p1 p2 vo most T v2 n2 xs2) (k : Gr2 W W' g v v') (h1 : g2 ≠ g) (h2 : v.ownBlock ≠ some g2) (h3 : ∀ b, v2.ownBlock = some b → b ≠ g ∧ v.ownBlock ≠ some b) : WayS W' g2 p0 p1 p2 vo most T v2 n2 xs2 := by
  refine ⟨?_, ?_, h.pts⟩
  · rw [k.block g2 (Array.getElem?_eq_some_iff.1 h.bx).1 h1 h2]; exact h.bx
  · obtain ⟨a1, a2⟩ := h.own
    refine ⟨a1, ?_⟩
    rcases a2 with a2 | ⟨g', cap, cur, rfl, hb, hgg, rest⟩
    · exact .inl a2
    · refine .inr ⟨g', cap, cur, rfl, hb, ?_, rest⟩
      obtain ⟨c1, c2⟩ := h3 g' rfl
      rw [k.block g' (Array.getElem?_eq_some_iff.1 hgg).1 c1 c2]
      exact hgg
/-- a new analysis -/
theorem way_new (W : World) (p0 p1 p2 vo : Value) (most : Bool) (T : St) :
    WayS (W.alloc (.cells [p0, p1, p2, .bool most, vo, .slice none 0 0].toArray 117)) W.heap.size p0 p1 p2 vo most T (.slice none 0 0) 0 [] :=
  ⟨heap_alloc_new W _, ⟨rfl, .inl ⟨rfl, rfl⟩⟩, PtsOk.nil T⟩
theorem own_cell {w : World} {base n size g cap : Nat} {e : TypeId} {xs : List Value} (h : w.ownsRow base e size (.slice (some ⟨g, 0, none⟩) n cap) n xs) (i : Nat) (hi : i < n * size) :
    (∃ v, w.cell? ⟨g, i, none⟩ = some v) ∧ w.frozen? ⟨g, i, none⟩ = false := by
  have h' := h
  obtain ⟨h1, h2⟩ := h
  rcases h2 with ⟨h2, -⟩ | ⟨g', cap', cur, h2, h3, h4, h5, h6, h7, h8⟩
  · cases h2
  · cases h2
    refine ⟨⟨xs[i]'(by omega), ?_⟩, by simp [World.frozen?, h4]⟩
    have := h'.cells rfl i _ (List.getElem?_eq_getElem (by omega))
    simp only [Addr.add] at this
    by_cases hz : i = 0
    · subst hz; exact this
    · simpa [hz] using this
theorem own_at {w : World} {base n size g cap : Nat} {e : TypeId} {xs : List Value} (h : w.ownsRow base e size (.slice (some ⟨g, 0, none⟩) n cap) n xs) (i : Nat) {u : Value} (hu : xs[i]? = some u) : w.cell? ⟨g, i, none⟩ = some u := by
  have := h.cells rfl i u hu
  simp only [Addr.add] at this
  by_cases hz : i = 0
  · subst hz; exact this
  · simpa [hz] using this
end Go.Proofs.Ytdhklfbelplbcaa
namespace Go.Proofs.Ytdhklfbelplbcaa
set_option linter.unusedVariables false
set_option linter.unusedSimpArgs false
open Go.RowKit

/-- a bool comes back; nothing that lay is changed -/
def SomeB (w : World) (e : Ending) (w' : World) : Prop := ∃ b : Bool, e = .returned (.bool b) ∧ Below w.heap.size w w'
set_option maxHeartbeats 4000000 in
set_option maxRecDepth 100000 in
theorem before_any (f1 f2 : ByteArray) (n1 n2 : Int) (w : World) :
    Calls Try.prog 38 #[.agg #[.string f1, .int .i64 n1], .agg #[.string f2, .int .i64 n2]] w (SomeB w) := by
  have hB : Below w.heap.size w ((w.alloc (.cells #[.string f1, .int .i64 n1] 81)).alloc (.cells #[.string f2, .int .i64 n2] 81)) := bl_alloc (bl_alloc (Below.refl _ _) _) _
  replace hB := Lib.hid hB
  go_enter Try.func38, Try.ntmps38
  go_wp2_with fail
  all_goals
    first | go_ret | go_end0
    exact ⟨_, rfl, hB.out⟩
/-- a race by value -/
def raceV (v f1 f2 : ByteArray) (n1 n2 : Int) : Value := .agg #[.string v, .string f1, .int .i64 n1, .string f2, .int .i64 n2]
set_option maxHeartbeats 4000000 in
set_option maxRecDepth 100000 in
theorem ahead_any (v f1 f2 v' f1' f2' : ByteArray) (n1 n2 n1' n2' : Int) (w : World) :
    Calls Try.prog 54 #[.agg #[.string v, .string f1, .int .i64 n1, .string f2, .int .i64 n2], .agg #[.string v', .string f1', .int .i64 n1', .string f2', .int .i64 n2']] w (SomeB w) := by
  have hB := Lib.hid (bl_alloc (bl_alloc (Below.refl w.heap.size w) (.cells #[.string v, .string f1, .int .i64 n1, .string f2, .int .i64 n2] 86)) (.cells #[.string v', .string f1', .int .i64 n1', .string f2', .int .i64 n2'] 86))
  go_enter Try.func54, Try.ntmps54
  go_wp2_with (go_at_call 38; (with_reducible refine (before_any _ _ _ _ _).mono ?_); rintro e w1 ⟨b, rfl, hb⟩; replace hb := Lib.hid hb)
  all_goals
    first | go_ret | go_end0
    first | exact ⟨_, rfl, hB.out⟩ | exact ⟨_, rfl, bl_then hB.out hB.out.size hb.out⟩ | exact ⟨_, rfl, bl_then (bl_alloc (bl_alloc (Below.refl w.heap.size w) _) _) (bl_alloc (bl_alloc (Below.refl w.heap.size w) _) _).size hb.out⟩
set_option maxHeartbeats 4000000 in
set_option maxRecDepth 100000 in
theorem apart_any (a b : List Int) (ha : Ef 3 a) (hb : Ef 3 b) (w : World) :
    Calls Try.prog 37 #[.string (st a), .string (st b)] w (SomeB w) := by
  have hm3 : Hid ((3 : Nat) ≤ 1000) := Lib.hid (by omega)
  have hh : Hid (∀ (p : Int) w', Calls Try.prog 40 #[.string (st a), .int .i64 p] w' fun e w'' => e = .returned (.bool (hasL a p)) ∧ Below w'.heap.size w' w'') := Lib.hid (fun p w' => refhas_e (m := 3) (Lib.hid rfl) (Lib.hid ha) hm3 w')
  have hk : Hid (∀ (p : Int) w', Calls Try.prog 40 #[.string (st b), .int .i64 p] w' fun e w'' => e = .returned (.bool (hasL b p)) ∧ Below w'.heap.size w' w'') := Lib.hid (fun p w' => refhas_e (m := 3) (Lib.hid rfl) (Lib.hid hb) hm3 w')
  have hsz : (st a).size = 3 := by rw [st_size]; exact ha.2
  clear ha hb
  go_enter Try.func37, Try.ntmps37
  go_wp2_with fail
  go_loopw [5] (fun v wr => ∃ k : Nat, v = .int .i64 (k : Nat) ∧ k ≤ 3 ∧ Hid (Below w.heap.size w wr)) (fun v _ => 3 - (intOf v).toNat)
  case atStart => exact ⟨0, rfl, by omega, Lib.hid (Below.refl _ _)⟩
  case round =>
    obtain ⟨k, rfl, hk3, hB⟩ := hrel
    by_cases hlt : k < 3
    · have d1 : decide ((k : Int) < 3) = true := by simp; omega
      cases h1 : hasL a k with
      | false =>
        replace h1 := Lib.hid h1
        go_wp2_with (go_at_call 40; (with_reducible refine (hh.out _ _).mono ?_); rintro e w1 ⟨rfl, hb1⟩; rw [h1.out]; replace hB := Lib.hid (bl_then hB.out hB.out.size hb1); clear hb1)
        exact ⟨⟨k + 1, by go_num, by omega, hB⟩, by simp [intOf]; omega⟩
      | true =>
        replace h1 := Lib.hid h1
        cases h2 : hasL b k with
        | false =>
          replace h2 := Lib.hid h2
          go_wp2_with (first
            | (go_at_call_of 40 (Value.string (st a)); (with_reducible refine (hh.out _ _).mono ?_); rintro e w1 ⟨rfl, hb1⟩; rw [h1.out]; replace hB := Lib.hid (bl_then hB.out hB.out.size hb1); clear hb1)
            | (go_at_call_of 40 (Value.string (st b)); (with_reducible refine (hk.out _ _).mono ?_); rintro e w1 ⟨rfl, hb1⟩; rw [h2.out]; replace hB := Lib.hid (bl_then hB.out hB.out.size hb1); clear hb1))
          exact ⟨⟨k + 1, by go_num, by omega, hB⟩, by simp [intOf]; omega⟩
        | true =>
          replace h2 := Lib.hid h2
          go_wp2_with (first
            | (go_at_call_of 40 (Value.string (st a)); (with_reducible refine (hh.out _ _).mono ?_); rintro e w1 ⟨rfl, hb1⟩; rw [h1.out]; replace hB := Lib.hid (bl_then hB.out hB.out.size hb1); clear hb1)
            | (go_at_call_of 40 (Value.string (st b)); (with_reducible refine (hk.out _ _).mono ?_); rintro e w1 ⟨rfl, hb1⟩; rw [h2.out]; replace hB := Lib.hid (bl_then hB.out hB.out.size hb1); clear hb1))
          first | go_ret | go_end0
          exact ⟨_, rfl, hB.out⟩
    · have hk3' : k = 3 := by omega
      subst hk3'
      have d1 : decide (((3 : Nat) : Int) < 3) = false := by decide
      go_wp2_with fail
      first | go_ret | go_end0
      exact ⟨_, rfl, hB.out⟩
end Go.Proofs.Ytdhklfbelplbcaa
namespace Go.Proofs.Ytdhklfbelplbcaa
set_option linter.unusedVariables false
open Go.RowKit

/-- pointwise no more, signs on both sides -/
def leR (x y : Int) : Prop := x ≤ y ∧ 48 ≤ x ∧ x ≤ 50 ∧ 48 ≤ y ∧ y ≤ 50
inductive LE : List Int → List Int → Prop
  | nil : LE [] []
  | cons {x y : Int} {a b : List Int} : leR x y → LE a b → LE (x :: a) (y :: b)
theorem LE.refl : ∀ {a : List Int}, Sg a → LE a a
  | [], _ => .nil
  | x :: a, h => .cons ⟨Int.le_refl _, (h x (by simp)).1, (h x (by simp)).2, (h x (by simp)).1, (h x (by simp)).2⟩ (LE.refl fun y hy => h y (List.mem_cons_of_mem _ hy))
theorem LE.trans : ∀ {a b c : List Int}, LE a b → LE b c → LE a c := by
  intro a b c h
  induction h generalizing c with
  | nil => intro k; cases k; exact .nil
  | cons h1 _ ih => intro k; cases k with | cons k1 k2 => exact .cons ⟨by have := h1.1; have := k1.1; omega, h1.2.1, h1.2.2.1, k1.2.2.2.1, k1.2.2.2.2⟩ (ih k2)
theorem LE.zip {op : Int → Int → Int} (hop : ∀ x x' y y', leR x x' → leR y y' → leR (op x y) (op x' y')) : ∀ {a a' b b' : List Int}, LE a a' → LE b b' → LE (List.zipWith op a b) (List.zipWith op a' b') := by
  intro a a' b b' h
  induction h generalizing b b' with
  | nil => intro k; cases k <;> exact .nil
  | cons h1 _ ih =>
    intro k
    cases k with
    | nil => exact .nil
    | cons k1 k2 => exact .cons (hop _ _ _ _ h1 k1) (ih k2)
theorem LE.tn {a a' b b' : List Int} (h : LE a a') (k : LE b b') : LE (thenL a b) (thenL a' b') := LE.zip (fun x x' y y' h k => by
  obtain ⟨h1, h2, h3, h4, h5⟩ := h
  obtain ⟨k1, k2, k3, k4, k5⟩ := k
  unfold leR th
  split <;> split <;> omega) h k
theorem LE.le {a a' b b' : List Int} (h : LE a a') (k : LE b b') : LE (leastL a b) (leastL a' b') := LE.zip (fun x x' y y' h k => by
  obtain ⟨h1, h2, h3, h4, h5⟩ := h
  obtain ⟨k1, k2, k3, k4, k5⟩ := k
  unfold leR; omega) h k
theorem LE.mo {a a' b b' : List Int} (h : LE a a') (k : LE b b') : LE (mostL a b) (mostL a' b') := LE.zip (fun x x' y y' h k => by
  obtain ⟨h1, h2, h3, h4, h5⟩ := h
  obtain ⟨k1, k2, k3, k4, k5⟩ := k
  unfold leR; omega) h k
theorem LE.both {a a' b b' : List Int} (most : Bool) (h : LE a a') (k : LE b b') : LE (bothL most a b) (bothL most a' b') := by
  unfold bothL; split
  · exact h.mo k
  · exact h.le k
theorem LE.set {a a' : List Int} (h : LE a a') {c : Int} (h0 : 48 ≤ c) (h1 : c ≤ 50) : ∀ n, LE (a.set n c) (a'.set n c) := by
  induction h with
  | nil => intro n; exact .nil
  | cons k1 k2 ih =>
    intro n
    cases n with
    | zero => exact .cons ⟨Int.le_refl _, h0, h1, h0, h1⟩ k2
    | succ n => exact .cons k1 (ih n)
theorem LE.put {a a' : List Int} (h : LE a a') (p : Int) {c : Int} (h0 : 48 ≤ c) (h1 : c ≤ 50) : LE (putL a p c) (putL a' p c) := by
  unfold putL; split
  · exact h.set h0 h1 _
  · exact h
theorem LE.eff {most : Bool} {own own' : Nat → List Int} (ho : ∀ j, j < 4 → LE (own j) (own' j)) : ∀ (t : St) (e e' : List Int), LE e e' → LE (effM most own t e) (effM most own' t e')
  | .nil, e, e', h => h
  | .cons k nm a b r, e, e', h => by
    unfold effM
    refine LE.eff ho r _ _ ?_
    split
    · exact h.put _ (by omega) (by omega)
    · split
      · exact h.put _ (by omega) (by omega)
      · split
        · exact h.tn (ho _ (fnIx_lt _))
        · split
          · exact LE.both most (LE.eff ho a e e' h) (LE.eff ho b e e' h)
          · split
            · exact h.tn (LE.both most (LE.refl oneE_ef.1) (LE.eff ho a _ _ (LE.refl oneE_ef.1)))
            · exact h
/-- how high -/
def ht (l : List Int) : Nat := (l.map fun x => (x - 48).toNat).sum
theorem LE.ht {a b : List Int} (h : LE a b) : ht a ≤ ht b ∧ (a ≠ b → Go.Proofs.Ytdhklfbelplbcaa.ht a < Go.Proofs.Ytdhklfbelplbcaa.ht b) := by
  induction h with
  | nil => exact ⟨Nat.le_refl _, fun h => absurd rfl h⟩
  | @cons x y a b h1 h2 ih =>
    obtain ⟨k1, k2, k3, k4, k5⟩ := h1
    have e1 : Go.Proofs.Ytdhklfbelplbcaa.ht (x :: a) = (x - 48).toNat + Go.Proofs.Ytdhklfbelplbcaa.ht a := by simp [Go.Proofs.Ytdhklfbelplbcaa.ht]
    have e2 : Go.Proofs.Ytdhklfbelplbcaa.ht (y :: b) = (y - 48).toNat + Go.Proofs.Ytdhklfbelplbcaa.ht b := by simp [Go.Proofs.Ytdhklfbelplbcaa.ht]
    rw [e1, e2]
    refine ⟨by have := ih.1; omega, fun hne => ?_⟩
    by_cases hx : x = y
    · subst hx
      have := ih.2 (fun e => hne (by rw [e]))
      omega
    · have := ih.1
      omega
theorem ht_le : ∀ {l : List Int}, Sg l → ht l ≤ 2 * l.length
  | [], _ => Nat.le_refl _
  | x :: l, h => by
    have h1 := ht_le (l := l) fun y hy => h y (List.mem_cons_of_mem _ hy)
    have h2 := h x (by simp)
    have e1 : ht (x :: l) = (x - 48).toNat + ht l := by simp [ht]
    rw [e1]; simp; omega
theorem Ef.ht {l : List Int} (h : Ef 3 l) : ht l ≤ 6 := by have := ht_le h.1; rw [h.2] at this; exact this
/-- further on the way than -/
def leD (most : Bool) (a b : List Int) : Prop := if most then LE b a else LE a b
theorem leD.refl {most : Bool} {a : List Int} (h : Ef 3 a) : leD most a a := by unfold leD; split <;> exact LE.refl h.1
theorem leD.trans {most : Bool} {a b c : List Int} (h : leD most a b) (k : leD most b c) : leD most a c := by
  unfold leD at *; split <;> simp_all <;> first | exact k.trans h | exact h.trans k
theorem leD.eff {most : Bool} {own own' : Nat → List Int} (ho : ∀ j, j < 4 → leD most (own j) (own' j)) (t : St) : leD most (effM most own t oneE) (effM most own' t oneE) := by
  unfold leD at *
  split
  · rename_i h; exact LE.eff (fun j hj => by have := ho j hj; rw [if_pos h] at this; exact this) t _ _ (LE.refl oneE_ef.1)
  · rename_i h; exact LE.eff (fun j hj => by have := ho j hj; rw [if_neg h] at this; exact this) t _ _ (LE.refl oneE_ef.1)
def hD (most : Bool) (l : List Int) : Nat := if most then 6 - ht l else ht l
theorem leD.hD {most : Bool} {a b : List Int} (ha : Ef 3 a) (hb : Ef 3 b) (h : leD most a b) : hD most a ≤ hD most b ∧ (a ≠ b → Go.Proofs.Ytdhklfbelplbcaa.hD most a < Go.Proofs.Ytdhklfbelplbcaa.hD most b) := by
  have h1 := ha.ht
  have h2 := hb.ht
  unfold Go.Proofs.Ytdhklfbelplbcaa.hD leD at *
  split
  · rename_i hm
    rw [if_pos hm] at h
    obtain ⟨q1, q2⟩ := h.ht
    refine ⟨by omega, fun hne => ?_⟩
    have := q2 (fun e => hne e.symm)
    omega
  · rename_i hm
    rw [if_neg hm] at h
    exact h.ht
def muD (most : Bool) (own : Nat → List Int) : Nat := hD most (own 0) + hD most (own 1) + hD most (own 2) + hD most (own 3)
def updE (own : Nat → List Int) (i : Nat) (e : List Int) : Nat → List Int := fun j => if j = i then e else own j
theorem updE_same (own : Nat → List Int) (i : Nat) (e : List Int) : updE own i e i = e := by unfold updE; rw [if_pos rfl]
theorem updE_ne (own : Nat → List Int) {i j : Nat} (e : List Int) (h : j ≠ i) : updE own i e j = own j := by unfold updE; rw [if_neg h]
theorem updE_ef {own : Nat → List Int} (ho : ∀ j, j < 4 → Ef 3 (own j)) (i : Nat) {e : List Int} (he : Ef 3 e) : ∀ j, j < 4 → Ef 3 (updE own i e j) := fun j hj => by
  unfold updE; split
  · exact he
  · exact ho j hj
theorem muD_upd {most : Bool} {own : Nat → List Int} (ho : ∀ j, j < 4 → Ef 3 (own j)) {i : Nat} (hi : i < 4) {e : List Int} (he : Ef 3 e) (h : leD most e (own i)) (hne : e ≠ own i) : muD most (updE own i e) < muD most own := by
  have h1 := (leD.hD he (ho i hi) h).2 hne
  unfold muD updE
  rcases (by omega : i = 0 ∨ i = 1 ∨ i = 2 ∨ i = 3) with rfl | rfl | rfl | rfl <;> simp <;> omega
/-- nobody's effect is less than what his body says -/
def Pre (most : Bool) (bs : Nat → St) (own : Nat → List Int) : Prop := (∀ j, j < 4 → Ef 3 (own j)) ∧ ∀ j, j < 4 → leD most (effM most own (bs j) oneE) (own j)
theorem Pre.upd {most : Bool} {bs : Nat → St} {own : Nat → List Int} (h : Pre most bs own) {i : Nat} (hi : i < 4) : Pre most bs (updE own i (effM most own (bs i) oneE)) := by
  have he := effM_ef (most := most) h.1 (bs i) oneE oneE_ef
  refine ⟨updE_ef h.1 i he, fun j hj => ?_⟩
  have hd : ∀ k, k < 4 → leD most (updE own i (effM most own (bs i) oneE) k) (own k) := fun k hk => by
    unfold updE; split
    · rename_i hki; subst hki; exact h.2 k hk
    · exact leD.refl (h.1 k hk)
  have h1 := leD.eff hd (bs j)
  by_cases hji : j = i
  · subst hji
    rw [updE_same]
    exact h1
  · rw [updE_ne own _ hji]
    exact h1.trans (h.2 j hj)
def topC (most : Bool) : Int := if most then 48 else 50
theorem LE.top : ∀ {a : List Int}, Sg a → LE a (allL a.length 50)
  | [], _ => .nil
  | x :: a, h => by
    have h2 := h x (by simp)
    exact .cons ⟨h2.2, h2.1, h2.2, by omega, by omega⟩ (LE.top fun y hy => h y (List.mem_cons_of_mem _ hy))
theorem LE.bot : ∀ {a : List Int}, Sg a → LE (allL a.length 48) a
  | [], _ => .nil
  | x :: a, h => by
    have h2 := h x (by simp)
    exact .cons ⟨h2.1, by omega, by omega, h2.1, h2.2⟩ (LE.bot fun y hy => h y (List.mem_cons_of_mem _ hy))
theorem leD.top {most : Bool} {a : List Int} (h : Ef 3 a) : leD most a (allL 3 (topC most)) := by
  unfold leD topC
  have h1 := LE.top h.1
  have h2 := LE.bot h.1
  rw [h.2] at h1 h2
  split <;> assumption
theorem top_ef (most : Bool) : Ef 3 (allL 3 (topC most)) := Ef.allc 3 (by unfold topC; split <;> omega) (by unfold topC; split <;> omega)
theorem Pre.start (most : Bool) (bs : Nat → St) : Pre most bs (fun _ => allL 3 (topC most)) :=
  ⟨fun _ _ => top_ef most, fun j _ => leD.top (effM_ef (fun _ _ => top_ef most) (bs j) oneE oneE_ef)⟩
/-- the second loop: the join of two is further on than the first -/
theorem leD.both {most : Bool} {a b : List Int} (ha : Ef 3 a) (hb : Ef 3 b) : leD most (bothL most a b) a := by
  have key : ∀ (a b : List Int), Sg a → Sg b → a.length = b.length → LE (leastL a b) a ∧ LE a (mostL a b) := by
    intro a
    induction a with
    | nil => intro b _ _ hl; exact ⟨.nil, .nil⟩
    | cons x a ih =>
      intro b ha hb hl
      cases b with
      | nil => simp at hl
      | cons y b =>
        have h2 := ha x (by simp)
        have h3 := hb y (by simp)
        obtain ⟨q1, q2⟩ := ih b (fun z hz => ha z (List.mem_cons_of_mem _ hz)) (fun z hz => hb z (List.mem_cons_of_mem _ hz)) (by simpa using hl)
        exact ⟨.cons (by unfold leR; omega) q1, .cons (by unfold leR; omega) q2⟩
  obtain ⟨q1, q2⟩ := key a b ha.1 hb.1 (by rw [ha.2, hb.2])
  unfold leD bothL
  split
  · exact q2
  · exact q1
end Go.Proofs.Ytdhklfbelplbcaa
namespace Go.Proofs.Ytdhklfbelplbcaa
set_option linter.unusedVariables false
open Go.RowKit

theorem addR_mem : ∀ (ys : List ByteArray) (p : List ByteArray × List ByteArray) (z : ByteArray), z ∈ (addR ys p).1 ↔ z ∈ p.1 ∨ z ∈ ys
  | [], p, z => by simp [addR]
  | y :: ys, p, z => by
    unfold addR
    rw [addR_mem ys]
    split
    · rename_i h
      rw [inL_iff] at h
      constructor
      · rintro (h1 | h1)
        · exact .inl h1
        · exact .inr (List.mem_cons_of_mem _ h1)
      · rintro (h1 | h1)
        · exact .inl h1
        · rcases List.mem_cons.1 h1 with rfl | h1
          · exact .inl h
          · exact .inr h1
    · simp only [withL_mem, List.mem_cons]
      constructor
      · rintro ((h1 | h1) | h1)
        · exact .inl h1
        · exact .inr (.inl h1)
        · exact .inr (.inr h1)
      · rintro (h1 | h1 | h1)
        · exact .inl (.inl h1)
        · exact .inl (.inr h1)
        · exact .inr h1
theorem addR_sub : ∀ (ys : List ByteArray) (p : List ByteArray × List ByteArray) (z : ByteArray), z ∈ p.2 → z ∈ (addR ys p).2
  | [], p, z, h => h
  | y :: ys, p, z, h => by
    unfold addR
    refine addR_sub ys _ z ?_
    split
    · exact h
    · exact List.mem_append_left _ h
theorem addR_new : ∀ (ys : List ByteArray) (p : List ByteArray × List ByteArray) (z : ByteArray), z ∈ (addR ys p).1 → z ∈ p.1 ∨ z ∈ (addR ys p).2
  | [], p, z, h => .inl h
  | y :: ys, p, z, h => by
    unfold addR at h ⊢
    rcases addR_new ys _ z h with h1 | h1
    · split at h1
      · exact .inl h1
      · rename_i hn
        rcases (withL_mem _ _ _).1 h1 with h2 | h2
        · exact .inl h2
        · refine .inr (addR_sub ys _ z ?_)
          rw [if_neg hn, h2]
          simp
    · exact .inr h1
theorem addR_src : ∀ (ys : List ByteArray) (p : List ByteArray × List ByteArray) (z : ByteArray), z ∈ (addR ys p).2 → z ∈ p.2 ∨ z ∈ ys
  | [], p, z, h => .inl h
  | y :: ys, p, z, h => by
    unfold addR at h
    rcases addR_src ys _ z h with h1 | h1
    · split at h1
      · exact .inl h1
      · rcases List.mem_append.1 h1 with h2 | h2
        · exact .inl h2
        · exact .inr (by simp at h2; simp [h2])
    · exact .inr (List.mem_cons_of_mem _ h1)
/-- closed under calls -/
def Clo (bs : Nat → St) (S : ByteArray → Prop) : Prop := ∀ x, S x → ∀ y ∈ callsL bs (fnIx x), S y
theorem reachF_clo (bs : Nat → St) (hok : ∀ j, j < 4 → StOk (bs j)) : ∀ (n : Nat) (out todo : List ByteArray), AllFN out → AllFN todo → muF out + todo.length ≤ n → (∀ x ∈ out, x ∈ todo ∨ ∀ y ∈ callsL bs (fnIx x), y ∈ out) →
    Clo bs (· ∈ reachF bs n out todo) ∧ AllFN (reachF bs n out todo) ∧ ∀ x ∈ out, x ∈ reachF bs n out todo
  | 0, out, todo, ho, ht, hn, hi => by
    have htn : todo = [] := List.eq_nil_of_length_eq_zero (by omega)
    subst htn
    unfold reachF
    exact ⟨fun x hx y hy => by rcases hi x hx with h | h; · simp at h
                               · exact h y hy, ho, fun x h => h⟩
  | n + 1, out, [], ho, ht, hn, hi => by
    unfold reachF
    exact ⟨fun x hx y hy => by rcases hi x hx with h | h; · simp at h
                               · exact h y hy, ho, fun x h => h⟩
  | n + 1, out, x :: rest, ho, ht, hn, hi => by
    unfold reachF
    have hc := calls_fn hok (fnIx_lt x)
    obtain ⟨f1, f2⟩ := addR_fn (callsL bs (fnIx x)) (out, rest) hc ho (fun z hz => ht z (List.mem_cons_of_mem _ hz))
    have hm := addR_mu (callsL bs (fnIx x)) (out, rest) hc
    simp only [List.length_cons] at hn
    obtain ⟨q1, q2, q3⟩ := reachF_clo bs hok n _ _ f1 f2 (by simp only at hm; omega) (fun z hz => by
      rcases addR_new _ _ z hz with h | h
      · rcases hi z h with h1 | h1
        · rcases List.mem_cons.1 h1 with rfl | h1
          · exact .inr fun y hy => (addR_mem _ _ _).2 (.inr hy)
          · exact .inl (addR_sub _ _ _ h1)
        · exact .inr fun y hy => (addR_mem _ _ _).2 (.inl (h1 y hy))
      · exact .inl h)
    exact ⟨q1, q2, fun z hz => q3 z ((addR_mem _ _ _).2 (.inl hz))⟩
theorem reachF_le (bs : Nat → St) (S : ByteArray → Prop) (hS : Clo bs S) : ∀ (n : Nat) (out todo : List ByteArray), (∀ x ∈ out, S x) → (∀ x ∈ todo, S x) → ∀ x ∈ reachF bs n out todo, S x
  | 0, out, todo, ho, ht => by unfold reachF; exact ho
  | n + 1, out, [], ho, ht => by unfold reachF; exact ho
  | n + 1, out, x :: rest, ho, ht => by
    unfold reachF
    have hx : ∀ y ∈ callsL bs (fnIx x), S y := hS x (ht x (by simp))
    refine reachF_le bs S hS n _ _ (fun z hz => ?_) (fun z hz => ?_)
    · rcases (addR_mem _ _ _).1 hz with h | h
      · exact ho z h
      · exact hx z h
    · rcases addR_src _ _ _ hz with h | h
      · exact ht z (List.mem_cons_of_mem _ h)
      · exact hx z h
theorem reach_all (bs : Nat → St) (hok : ∀ j, j < 4 → StOk (bs j)) {f : Nat} (hf : f < 4) : Clo bs (· ∈ reachL bs f) ∧ AllFN (reachL bs f) ∧ fnN f ∈ reachL bs f := by
  have h1 : AllFN [fnN f] := fun s hs => by simp at hs; exact ⟨f, hf, hs⟩
  obtain ⟨q1, q2, q3⟩ := reachF_clo bs hok 5 [fnN f] [fnN f] h1 h1 (by have := muF_one hf; simp; omega) (fun x hx => .inl hx)
  exact ⟨q1, q2, q3 _ (by simp)⟩
theorem reach_sub (bs : Nat → St) (hok : ∀ j, j < 4 → StOk (bs j)) {f g : Nat} (hf : f < 4) (h : fnN g ∈ reachL bs f) : ∀ r ∈ reachL bs g, r ∈ reachL bs f :=
  reachF_le bs _ (reach_all bs hok hf).1 5 [fnN g] [fnN g] (fun x hx => by simp at hx; subst hx; exact h) (fun x hx => by simp at hx; subst hx; exact h)
/-- what a call in a body reaches, the body's function reaches -/
theorem reach_call (bs : Nat → St) (hok : ∀ j, j < 4 → StOk (bs j)) {f : Nat} (hf : f < 4) {nm : ByteArray} (h : InSt 5 nm (bs f)) (hn : FN nm) : ∀ r ∈ reachL bs (fnIx nm), r ∈ reachL bs f := by
  obtain ⟨q1, q2, q3⟩ := reach_all bs hok hf
  have hi : fnIx (fnN f) = f := by
    have h1 := fnIx_fn (s := fnN f) ⟨f, hf, rfl⟩
    have h2 := fnN_eq (fnIx_lt (fnN f)) hf
    rw [h1] at h2
    simpa using h2.symm
  refine reach_sub bs hok hf ?_
  rw [fnIx_fn hn]
  refine q1 (fnN f) q3 nm ?_
  rw [hi]
  unfold callsL
  rw [namedL_mem]
  exact .inr h
end Go.Proofs.Ytdhklfbelplbcaa
