/- The walk of rank.Order: the count of the classes. -/
import Derived.Test.YtdhklfbelplbcaaGl
namespace Go.Proofs.Ytdhklfbelplbcaa
set_option linter.unusedVariables false
set_option linter.unusedSimpArgs false
open Go.RowKit Go.Maps

/-- a row of races: their variables -/
def RaceR (w : World) (A : Option Addr) (ns : List ByteArray) : Prop :=
  ∀ i, ∀ h : i < ns.length, ∃ ad s1 x1 s2 x2, A = some ad ∧ w.cell? (ad.add (i * 5)) = some (.string ns[i]) ∧ w.cell? ⟨(ad.add (i * 5)).block, (ad.add (i * 5)).off + 1, none⟩ = some (.string s1) ∧ w.cell? ⟨(ad.add (i * 5)).block, (ad.add (i * 5)).off + 2, none⟩ = some (.int .i64 x1) ∧ w.cell? ⟨(ad.add (i * 5)).block, (ad.add (i * 5)).off + 3, none⟩ = some (.string s2) ∧ w.cell? ⟨(ad.add (i * 5)).block, (ad.add (i * 5)).off + 4, none⟩ = some (.int .i64 x2)
theorem RaceR.below {w w' : World} {A : Option Addr} {ns : List ByteArray} (h : RaceR w A ns) (hb : Below w.heap.size w w') : RaceR w' A ns := by
  intro i hi
  obtain ⟨ad, s1, x1, s2, x2, h1, h2, h3, h4, h5, h6⟩ := h i hi
  exact ⟨ad, s1, x1, s2, x2, h1, bl_cell hb h2, bl_cell hb h3, bl_cell hb h4, bl_cell hb h5, bl_cell hb h6⟩
/-- the world while the classes are counted -/
structure OrdA (w W : World) (v : Array Value) (ns : List ByteArray) (k : Nat) : Prop where
  hB : Below w.heap.size w W
  bx : W.heap[w.heap.size]? = some (.cells v 48 (0, 0))
  mp : MapSt W (w.heap.size + 1) k ns k
  sz : w.heap.size + 2 ≤ W.heap.size
theorem OrdA.start (w : World) (v : Array Value) (ns : List ByteArray) : OrdA w ((w.alloc (.cells v 48)).alloc (.map #[] 0)) v ns 0 := by
  have h := MapSt.made (w.alloc (.cells v 48)) ns
  have e : (w.alloc (.cells v 48)).heap.size = w.heap.size + 1 := by simp
  rw [e] at h
  refine ⟨bl_alloc (bl_alloc (Below.refl _ _) _) _, ?_, h, by simp⟩
  rw [Below.heap_alloc _ _ _ (by simp)]; exact heap_alloc_new w _
theorem OrdA.step {w W W' : World} {v : Array Value} {ns : List ByteArray} {k : Nat} (h : OrdA w W v ns k) (o : Obj) (hm : MapSt W' (w.heap.size + 1) (k + 1) ns (k + 1)) (hg : (W.alloc o).grownBy W' (some (w.heap.size + 1))) : OrdA w W' v ns (k + 1) := by
  have hs := h.sz
  refine ⟨(bl_alloc h.hB o).grown hg (by simp; omega) (fun j hj => by cases hj; omega), ?_, hm, ?_⟩
  · rw [hg.block w.heap.size (by simp; omega) (by simp), Below.heap_alloc _ _ _ (by omega)]; exact h.bx
  · have := hg.size; simp at this; omega

theorem info3 : (Try.prog.info? 3).map (fun i => (i.zero, i.size, i.bytes)) = some (some (.int .i64 0), 1, 8) := by kernel_rfl
theorem zer_row (n : Nat) : zer (.int .i64 0) n = rowF n (fun p => if p < 0 then p else 0) := by
  apply List.ext_getElem
  · simp [rowF, zer]
  · intro i h1 h2; simp [rowF, zer]
theorem zer_fl (n : Nat) : zer (.float .f64 0) n = fl (List.replicate n 0) := by
  simp [zer, fl, enc]
def mulO (w k : Nat) : Option Nat := floatBits .mul .f64 w (floatOfInt .f64 (k : Nat))
/-- the world while the weights are laid -/
structure OrdB (wq W : World) (n : Nat) (P : Nat → Option Nat) (j k : Nat) (hs : List Nat) : Prop where
  hB : Below wq.heap.size wq W
  od : W.heap[wq.heap.size]? = some (.cells (rowF n (fun p => if p < j then p else 0)).toArray 3 (0, 0))
  hv : W.heap[wq.heap.size + 1]? = some (.cells (fl hs).toArray 23 (0, 0))
  bx : W.heap[wq.heap.size + 2]? = some (.cells #[.slice (some ⟨wq.heap.size + 1, 0, none⟩) n n] 25 (0, 0))
  len : hs.length = n
  ok : ∀ i, i < k → ∀ h : i < hs.length, IsO (P i) hs[i]
  sz : wq.heap.size + 3 ≤ W.heap.size
theorem OrdB.start (wq : World) (n : Nat) (P : Nat → Option Nat) : OrdB wq (((wq.alloc (.cells (zer (.int .i64 0) n).toArray 3)).alloc (.cells (zer (.float .f64 0) n).toArray 23)).alloc (.cells #[.slice (some ⟨wq.heap.size + 1, 0, none⟩) n n] 25)) n P 0 0 (List.replicate n 0) := by
  refine ⟨bl_alloc (bl_alloc (bl_alloc (Below.refl _ _) _) _) _, ?_, ?_, ?_, by simp, fun i h => by omega, by simp⟩
  · rw [Below.heap_alloc _ _ _ (by simp; omega), Below.heap_alloc _ _ _ (by simp), ← zer_row]; exact heap_alloc_new _ _
  · rw [Below.heap_alloc _ _ _ (by simp), ← zer_fl]
    have := heap_alloc_new (wq.alloc (.cells (zer (.int .i64 0) n).toArray 3)) (.cells (zer (.float .f64 0) n).toArray 23)
    simpa using this
  · have := heap_alloc_new ((wq.alloc (.cells (zer (.int .i64 0) n).toArray 3)).alloc (.cells (zer (.float .f64 0) n).toArray 23)) (.cells #[.slice (some ⟨wq.heap.size + 1, 0, none⟩) n n] 25)
    simpa using this

theorem OrdB.into {wq W : World} {n k : Nat} {P : Nat → Option Nat} {hs : List Nat} (h : OrdB wq W n P k k hs) (hk : k < n) (s0 s1 s2 : ByteArray) (x1 x2 : Int) :
    OrdB wq ((W.alloc (.cells #[.string s0, .string s1, .int .i64 x1, .string s2, .int .i64 x2] 86)).setCell ⟨wq.heap.size, k, none⟩ (.int .i64 (k : Nat))) n P (k + 1) k hs ∧
    ((W.alloc (.cells #[.string s0, .string s1, .int .i64 x1, .string s2, .int .i64 x2] 86)).setCell ⟨wq.heap.size, k, none⟩ (.int .i64 (k : Nat))).cell? ⟨W.heap.size, 0, none⟩ = some (.string s0) := by
  have hs3 := h.sz
  have hod : (W.alloc (.cells #[.string s0, .string s1, .int .i64 x1, .string s2, .int .i64 x2] 86)).heap[wq.heap.size]? = some (.cells (rowF n (fun p => if p < k then p else 0)).toArray 3 (0, 0)) := by rw [Below.heap_alloc _ _ _ (by omega)]; exact h.od
  refine ⟨⟨(bl_alloc h.hB _).setCell (Nat.le_refl _) _, ?_, ?_, ?_, h.len, h.ok, ?_⟩, ?_⟩
  · have := (show SortSt (W.alloc (.cells #[.string s0, .string s1, .int .i64 x1, .string s2, .int .i64 x2] 86)) wq.heap.size n _ _ from ⟨grown_refl _ _, hod⟩).set k k (by simp; omega)
    have e : upd (fun p => if p < k then p else 0) k k = fun p => if p < k + 1 then p else 0 := ?_
    · rw [this.2, e]
    funext p
    unfold upd
    by_cases e : p = k
    · rw [if_pos e, if_pos (by omega)]; exact e.symm
    · rw [if_neg e]
      dsimp only
      by_cases e2 : p < k
      · rw [if_pos e2, if_pos (by omega)]
      · rw [if_neg e2, if_neg (by omega)]
  · rw [Below.heap_setCell _ _ _ _ (by simp), Below.heap_alloc _ _ _ (by omega)]; exact h.hv
  · rw [Below.heap_setCell _ _ _ _ (by simp), Below.heap_alloc _ _ _ (by omega)]; exact h.bx
  · simp; omega
  · rw [cell_of_row _ W.heap.size 0 _ 86 (0, 0) (by rw [Below.heap_setCell _ _ _ _ (by simp; omega)]; exact heap_alloc_new W _)]; rfl
theorem OrdB.laid {wq W : World} {n k : Nat} {P : Nat → Option Nat} {hs : List Nat} (h : OrdB wq W n P (k + 1) k hs) (hk : k < n) (v : Nat) (hv : IsO (P k) v) :
    OrdB wq (W.setCell ⟨wq.heap.size + 1, k, none⟩ (.float .f64 v)) n P (k + 1) (k + 1) (hs.set k v) := by
  have hl := h.len
  refine ⟨h.hB.setCell (by simp) _, ?_, ?_, ?_, by simp [h.len], ?_, ?_⟩
  · rw [Below.heap_setCell _ _ _ _ (by simp)]; exact h.od
  · rw [setCell_eq_setRow W _ k _ 23 (0, 0) _ h.hv, List.setIfInBounds_toArray, show (fl hs).set k (.float .f64 v) = fl (hs.set k v) by simp [fl, enc, List.map_set]]
    exact setRow_heap W _ _ _ 23 _ h.hv
  · rw [Below.heap_setCell _ _ _ _ (by simp)]; exact h.bx
  · intro i hi h1
    rw [List.getElem_set]
    by_cases e : k = i
    · subst e; rw [if_pos rfl]; exact hv
    · rw [if_neg e]; exact h.ok i (by omega) (by simpa using h1)
  · simpa using h.sz
theorem OrdB.drewN {wq W : World} {n j k : Nat} {P : Nat → Option Nat} {hs : List Nat} (h : OrdB wq W n P j k hs) (m : Nat) : OrdB wq (W.drewN m) n P j k hs := ⟨bl_drewN h.hB m, h.od, h.hv, h.bx, h.len, h.ok, h.sz⟩

theorem OrdB.of_eq {wq W W' : World} {n j k : Nat} {P : Nat → Option Nat} {hs : List Nat} (h : OrdB wq W n P j k hs) (e1 : W'.heap = W.heap) (e2 : W'.os = W.os) (e3 : W'.tape = W.tape) (e4 : W'.output = W.output) : OrdB wq W' n P j k hs :=
  ⟨⟨e2.trans h.hB.os, e3.trans h.hB.tape, e4.trans h.hB.output, by rw [e1]; exact h.hB.size, fun k hk => by rw [e1]; exact h.hB.block k hk⟩, by rw [e1]; exact h.od, by rw [e1]; exact h.hv, by rw [e1]; exact h.bx, h.len, h.ok, by rw [e1]; exact h.sz⟩
theorem run_mul {P : Program} (w : World) (t : TypeId) (x q : Nat) :
    ∃ r m, (binOp .mul t (.float .f64 x) (.float .f64 (floatOfInt .f64 (q : Nat)))).run P w = .ok (.float .f64 r) (w.drewN m) ∧ IsO (mulO x q) r := by
  rcases hmu : mulO x q with _ | r
  · exact ⟨nanAt w x (floatOfInt .f64 (q : Nat)), 1, run_float_nan w .mul t _ _ (by simp) hmu, nanAt_nan w _ _⟩
  · exact ⟨r, 0, run_float_arith w .mul t .f64 _ _ _ hmu, rfl⟩
/-- the key of a weight -/
def keyO (o : Option Nat) : Int := match o with | some r => keyF r | none => 2 * big + 2
theorem IsO.key {o : Option Nat} {b : Nat} (h : IsO o b) : keyF b = keyO o := by
  cases o with
  | some r => rw [show b = r from h]; rfl
  | none => have h : nanB b = true := h; simp [keyF, h, keyO]
/-- the key of place i -/
def keyR (ns cs : List ByteArray) (hv : List Nat) (i : Nat) : Int := keyO (mulO (wtP cs hv (ns[i]?.getD ByteArray.empty) cs.length) (cntP ns (ns[i]?.getD ByteArray.empty) ns.length))
theorem SegS.congr {K K' : Nat → Int} {f : Nat → Nat} {n : Nat} (h : SegS K f 0 n) (hp : PermN n f) (he : ∀ i, i < n → K i = K' i) : SegS K' f 0 n := by
  intro p q h1 h2 h3
  have := h p q h1 h2 h3
  unfold LtK at this ⊢
  rw [← he _ (hp.1 p (by omega)), ← he _ (hp.1 q h3)]
  exact this
theorem OrdB.ready {wq W : World} {n : Nat} {P : Nat → Option Nat} {hs : List Nat} (h : OrdB wq W n P n n hs) (hn : n ≤ 1000) : Env W wq.heap.size (wq.heap.size + 2) (wq.heap.size + 1) n hs ∧ SortSt W wq.heap.size n (fun p => p) W := by
  have e : rowF n (fun p => if p < n then p else 0) = rowF n (fun p => p) := by
    unfold rowF
    apply List.map_congr_left
    intro p hp
    rw [List.mem_range] at hp
    simp [hp]
  have hs3 := h.sz
  exact ⟨⟨⟨h.bx, h.hv, h.len⟩, by omega, by omega, by omega, hn⟩, grown_refl _ _, by rw [← e]; exact h.od⟩
end Go.Proofs.Ytdhklfbelplbcaa
