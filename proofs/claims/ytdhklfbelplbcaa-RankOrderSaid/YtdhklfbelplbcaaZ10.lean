/-
  A drawn region by the name of its place in a function: its orders' facts are reckoned once, apart from the walk.
  A block of a function by its number.
  whole: its words: the two rows, what one analysis has found of the bodies.
  whole, the first loop: its state.
  whole, the second loop: of each function the states ahead of all that it reaches.
  Rows of races.
-/
import Derived.Test.YtdhklfbelplbcaaProg
import Derived.Deep.RegionHeld3
import Derived.Test.YtdhklfbelplbcaaZ09
namespace Go
set_option linter.unusedVariables false
theorem sA {α : Type} (l : List α) (i : Nat) (a : α) : l.toArray.setIfInBounds i a = (l.set i a).toArray := List.setIfInBounds_toArray ..
theorem sB {α : Type} (a b : α) (l : List α) : (a :: l).set 0 b = b :: l := rfl
theorem sC {α : Type} (a b : α) (l : List α) (n : Nat) : (a :: l).set (n + 1) b = a :: l.set n b := rfl
/-- the operations of region id -/
def regOf (id : Nat) : Code → Option (Array Oper)
  | .region i ops _ => if Nat.beq i id then some ops else none
  | .seq a b => match regOf id a with
    | some o => some o
    | none => regOf id b
  | .cond _ t e => match regOf id t with
    | some o => some o
    | none => regOf id e
  | .block _ b => regOf id b
  | .loop b => regOf id b
  | .rangeFunc _ _ a b => match regOf id a with
    | some o => some o
    | none => regOf id b
  | .scope b => regOf id b
  | _ => none
/-- which operations have come up: the bits of a number -/
def bitsB (n m : Nat) : Array Bool := ((List.range n).map fun i => m.testBit i).toArray
def regIn (id : Nat) (f : Func) : Array Oper := ((f.body).bind (regOf id)).getD #[]
section
variable {P : Program} {ops opsR : Array Oper} {Q : Exit → Act → World → Prop} {md : Region.Mode} {S : World → Prop}
theorem wp_region_heldR (opsR : Array Oper) (listed : Array Bool) {id : Nat} {a : Act} {w : World} (ho : opsR = ops) (hl : Array.replicate opsR.size false = listed) (hm : P.follows .mixedOrders = true) (hn : Region.noSelect opsR = true) (hS : S w.drew)
    (h : opsR = ops → Region.noSelect opsR = true → S w.drew → wpAnyH P .any ops Q S opsR.size listed a w.drew) : (Code.region id ops true).wp P Q a w := by
  subst ho
  refine wp_region_held_drew hm hS (fun h1 => ?_)
  rw [hl]
  exact h rfl hn h1
theorem wpAnyH_takeR {i : Nat} {oi : Oper} {v : Value} {rs : List Nat} {fuel : Nat} {listed listed' : Array Bool} {a : Act} {w : World} (ho : opsR = ops) (hs : Region.noSelect opsR = true) (hr : Region.ready md opsR listed = rs) (hin : rs.contains i = true) (hf : Region.free md opsR listed i = true)
    (hi : ops.toList[i]? = some oi) (hQ : ∀ c a w, Q (.panic c) (a.put oi.dst v) w → Q (.panic c) a w) (hst : listed.setIfInBounds i true = listed') (hy : YieldsIf P ops S oi v a) (hS : S w)
    (h : wpAnyH P md ops Q S fuel listed' (a.put oi.dst v) w) : wpAnyH P md ops Q S (fuel + 1) listed a w := by
  subst ho hst
  exact wpAnyH_take (by simpa using hi) hs hf (by rw [hr]; exact hin) hQ hy hS h
theorem wpAnyH_oneR {i : Nat} {oi : Oper} {v : Value} {fuel : Nat} {listed listed' : Array Bool} {a : Act} {w : World} (ho : opsR = ops) (hr : Region.ready md opsR listed = [i])
    (hi : ops.toList[i]? = some oi) (hst : listed.setIfInBounds i true = listed') (hy : YieldsIf P ops S oi v a) (hS : S w) (h : wpAnyH P md ops Q S fuel listed' (a.put oi.dst v) w) : wpAnyH P md ops Q S (fuel + 1) listed a w := by
  subst ho hst
  refine ⟨fun h0 => ?_, fun j hj => ?_⟩
  · rw [hr] at h0; cases h0
  · rw [hr] at hj
    obtain rfl := List.mem_singleton.1 hj
    exact hy.wpOp (by simpa using hi) hS ⟨hS, h⟩
theorem wpAnyH_readyR {rs : List Nat} {fuel : Nat} {listed : Array Bool} {a : Act} {w : World} (ho : opsR = ops) (hr : Region.ready md opsR listed = rs) (hne : rs ≠ [])
    (h : AllReadyH P md ops Q S fuel listed a w rs) : wpAnyH P md ops Q S (fuel + 1) listed a w := by
  subst ho
  exact wpAnyH_ready hr hne h
theorem AllReadyH.consR {fuel : Nat} {listed listed' : Array Bool} {a : Act} {w : World} {i : Nat} {o : Oper} {rs : List Nat} (ho : ops.toList[i]? = some o) (hst : listed.setIfInBounds i true = listed')
    (h : ∀ K' : Act → World → Prop, Shut (∀ a w, S w → (S w → wpAnyH P md ops Q S fuel listed' a w) → K' a w) → if Region.wanted o (yielded ops a.tmps) = true then Oper.wp P o a w K' Q else K' (a.put o.dst undef) w)
    (hs : AllReadyH P md ops Q S fuel listed a w rs) : AllReadyH P md ops Q S fuel listed a w (i :: rs) := by
  subst hst
  exact AllReadyH.cons (by simpa using ho) h hs
theorem wpAnyH_doneR {fuel : Nat} {listed : Array Bool} {a : Act} {w : World} (ho : opsR = ops) (hr : Region.ready md opsR listed = []) (h : Q .normal a w) : wpAnyH P md ops Q S fuel listed a w := by
  subst ho
  exact wpAnyH_done hr h fuel
end
end Go
namespace Go
/-- the block of number id -/
def blkOf (id : Nat) : Code → Option Code
  | .block i b => if Nat.beq i id then some (.block i b) else blkOf id b
  | .seq a b => match blkOf id a with
    | some o => some o
    | none => blkOf id b
  | .cond _ t e => match blkOf id t with
    | some o => some o
    | none => blkOf id e
  | .loop b => blkOf id b
  | .rangeFunc _ _ a b => match blkOf id a with
    | some o => some o
    | none => blkOf id b
  | .scope b => blkOf id b
  | _ => none
noncomputable def blkIn (id : Nat) (f : Func) : Code := ((f.body).bind (blkOf id)).getD .skip
end Go
namespace Go.Proofs.Ytdhklfbelplbcaa
set_option linter.unusedVariables false
open Go.RowKit

theorem own_kept2 {W W1 : World} {base e size n : Nat} {v : Value} {xs : List Value} {row : Option Nat} (h : W.ownsRow base e size v n xs) (hg : W.grownBy W1 row) (hne : ∀ b, row = some b → v.ownBlock ≠ some b) : W1.ownsRow base e size v n xs := by
  refine h.kept hg ?_
  cases row with
  | none => cases v.ownBlock <;> simp
  | some b => exact .inr (hne b rfl)
/-- two rows, each its own, while they are laid -/
structure Two0 (wb W : World) (ex ey : TypeId) (x y : Value) (n m : Nat) (xs ys : List Value) : Prop where
  hB : Below wb.heap.size wb W
  ox : W.ownsRow wb.heap.size ex 1 x n xs
  oy : W.ownsRow wb.heap.size ey 1 y m ys
  ne : ∀ b, x.ownBlock = some b → y.ownBlock ≠ some b
theorem Two0.start (wb : World) (ex ey : TypeId) : Two0 wb wb ex ey (.slice none 0 0) (.slice none 0 0) 0 0 [] [] :=
  ⟨Below.refl _ _, own_nil _ _ _ _, own_nil _ _ _ _, (fun b h => by cases h)⟩
theorem Two0.below {wb W W' : World} {ex ey : TypeId} {x y : Value} {n m : Nat} {xs ys : List Value} (h : Two0 wb W ex ey x y n m xs ys) (hb : Below W.heap.size W W') : Two0 wb W' ex ey x y n m xs ys :=
  ⟨bl_then h.hB h.hB.size hb, own_below h.ox hb, own_below h.oy hb, h.ne⟩
theorem Two0.growX {wb W W1 : World} {ex ey : TypeId} {x y x1 : Value} {n m n1 : Nat} {xs ys xs1 : List Value} (h : Two0 wb W ex ey x y n m xs ys) (o1 : W1.ownsRow wb.heap.size ex 1 x1 n1 xs1) (b1 : Below wb.heap.size wb W1) (g1 : W.grownBy W1 x.ownBlock) (a1 : x1.ownBlock = x.ownBlock ∨ ∃ j, x1.ownBlock = some j ∧ W.heap.size ≤ j) : Two0 wb W1 ex ey x1 y n1 m xs1 ys := by
  refine ⟨b1, o1, own_kept2 h.oy g1 (fun b e => h.ne b e), fun b hb e => ?_⟩
  rcases a1 with a1 | ⟨j, a1, hj⟩
  · exact h.ne b (by rw [← a1]; exact hb) e
  · rw [a1] at hb; cases hb
    have := (h.oy.lt _ e).2; omega
theorem Two0.growY {wb W W1 : World} {ex ey : TypeId} {x y y1 : Value} {n m m1 : Nat} {xs ys ys1 : List Value} (h : Two0 wb W ex ey x y n m xs ys) (o1 : W1.ownsRow wb.heap.size ey 1 y1 m1 ys1) (b1 : Below wb.heap.size wb W1) (g1 : W.grownBy W1 y.ownBlock) (a1 : y1.ownBlock = y.ownBlock ∨ ∃ j, y1.ownBlock = some j ∧ W.heap.size ≤ j) : Two0 wb W1 ex ey x y1 n m1 xs ys1 := by
  refine ⟨b1, own_kept2 h.ox g1 (fun b e e2 => h.ne b e2 e), o1, fun b hb e => ?_⟩
  rcases a1 with a1 | ⟨j, a1, hj⟩
  · exact h.ne b hb (by rw [← a1]; exact e)
  · rw [a1] at e; cases e
    have := (h.ox.lt _ hb).2; omega
/-- two rows of four, laid -/
structure Two (wb W : World) (ex ey : TypeId) (go co gp cp : Nat) (xs ys : List Value) : Prop where
  hB : Below wb.heap.size wb W
  ox : W.ownsRow wb.heap.size ex 1 (.slice (some ⟨go, 0, none⟩) 4 co) 4 xs
  oy : W.ownsRow wb.heap.size ey 1 (.slice (some ⟨gp, 0, none⟩) 4 cp) 4 ys
  ne : go ≠ gp
theorem Two0.done {wb W : World} {ex ey : TypeId} {x y : Value} {xs ys : List Value} (h : Two0 wb W ex ey x y 4 4 xs ys) : ∃ go co gp cp, x = .slice (some ⟨go, 0, none⟩) 4 co ∧ y = .slice (some ⟨gp, 0, none⟩) 4 cp ∧ Two wb W ex ey go co gp cp xs ys := by
  obtain ⟨go, co, rfl, -, -⟩ := own_some h.ox (by omega)
  obtain ⟨gp, cp, rfl, -, -⟩ := own_some h.oy (by omega)
  exact ⟨go, co, gp, cp, rfl, rfl, h.hB, h.ox, h.oy, fun e => by subst e; exact h.ne _ rfl rfl⟩
theorem Two.below {wb W W' : World} {ex ey : TypeId} {go co gp cp : Nat} {xs ys : List Value} (h : Two wb W ex ey go co gp cp xs ys) (hb : Below W.heap.size W W') : Two wb W' ex ey go co gp cp xs ys :=
  ⟨bl_then h.hB h.hB.size hb, own_below h.ox hb, own_below h.oy hb, h.ne⟩
theorem info115 : (Try.prog.info? 115).map (fun i => (i.zero, i.size, i.bytes)) = some (some (.slice none 0 0), 1, 24) := by kernel_rfl
theorem rep_snoc {α : Type} (n : Nat) (x : α) : List.replicate n x ++ [x] = List.replicate (n + 1) x := (List.replicate_succ' ..).symm
end Go.Proofs.Ytdhklfbelplbcaa
namespace Go.Proofs.Ytdhklfbelplbcaa
set_option linter.unusedVariables false
open Go.RowKit

theorem st_inj : ∀ {a b : List Int}, Asc a → Asc b → st a = st b → a = b := by
  intro a b ha hb h
  have h1 : a.length = b.length := by rw [← st_size a, ← st_size b, h]
  refine List.ext_getElem h1 (fun i hi hj => ?_)
  rw [← st_get a ha i (by rw [st_size]; exact hi), ← st_get b hb i (by rw [st_size]; exact hj)]
  simp only [h]
theorem eqS_ef {a b : List Int} (ha : Ef 3 a) (hb : Ef 3 b) : ((st a).toList == (st b).toList) = decide (a = b) := by
  have h1 : eqS (st a) (st b) = decide (a = b) := by
    rw [Bool.eq_iff_iff, eqS_iff, decide_eq_true_iff]
    exact ⟨st_inj ha.1.asc hb.1.asc, fun h => by rw [h]⟩
  exact h1
/-- the points of one body, wherever they lie -/
def PtV (W : World) (T : St) (B : Nat) (v : Value) : Prop :=
  ∃ A c xs, v = .slice A (ptsN T) c ∧ ptsN T ≤ c ∧ c ≤ 9223372036854775807 ∧ Rd W A xs ∧ xs.length = ptsN T * 7 ∧ PtsOk T xs (ptsN T) ∧ (A = none → ptsN T = 0 ∧ c = 0) ∧ ∀ a, A = some a → B ≤ a.block ∧ a = ⟨a.block, 0, none⟩
theorem PtV.kept {W W' : World} {T : St} {B : Nat} {v : Value} {row : Option Nat} (h : PtV W T B v) (hg : W.grownBy W' row) (hr : ∀ b, row = some b → b < B) : PtV W' T B v := by
  obtain ⟨A, c, xs, rfl, h1, h2, h3, h4, h5, h6, h7⟩ := h
  refine ⟨A, c, xs, rfl, h1, h2, fun i hi => ?_, h4, h5, h6, h7⟩
  obtain ⟨ad, e, hc⟩ := h3 i hi
  refine ⟨ad, e, ?_⟩
  have hb : (ad.add i).block = ad.block := by unfold Addr.add; split <;> rfl
  have hlt := World.block_lt_of_cell? W (ad.add i) hc
  rw [cell_block (hg.block _ hlt (fun e2 => by have := (h7 ad e).1; have := hr _ e2.symm; omega))]
  exact hc
theorem PtV.below {W W' : World} {T : St} {B : Nat} {v : Value} (h : PtV W T B v) (hb : Below W.heap.size W W') : PtV W' T B v :=
  h.kept (row := none) ⟨hb.os, hb.tape, hb.output, hb.size, fun i hi _ => hb.block i hi⟩ (fun b e => by cases e)
theorem PtV.of_way {W : World} {g : Nat} {p0 p1 p2 vo v : Value} {most : Bool} {T : St} {xs : List Value} {B : Nat} (h : WayS W g p0 p1 p2 vo most T v (ptsN T) xs) (hB : B ≤ g) : PtV W T B v := by
  obtain ⟨A, c, rfl, h1, h2, h3, h4⟩ := Rd.own h.own
  refine ⟨A, c, xs, rfl, h1, h2, h3, h.own.1, h.pts, h4, fun a e => ?_⟩
  rcases h.own.2 with ⟨h5, -⟩ | ⟨g', cap, cur, h5, h6, -⟩
  · simp only [Value.slice.injEq] at h5; rw [h5.1] at e; cases e
  · simp only [Value.slice.injEq] at h5; rw [h5.1] at e; cases e; exact ⟨by show B ≤ g'; omega, rfl⟩
/-- all that lay is as it was, but two rows -/
structure Kp (W1 W : World) (go gp : Nat) : Prop where
  os : W.os = W1.os
  tape : W.tape = W1.tape
  output : W.output = W1.output
  size : W1.heap.size ≤ W.heap.size
  block : ∀ i, i < W1.heap.size → i ≠ go → i ≠ gp → W.heap[i]? = W1.heap[i]?
theorem Kp.refl (W : World) (go gp : Nat) : Kp W W go gp := ⟨rfl, rfl, rfl, Nat.le_refl _, fun _ _ _ _ => rfl⟩
theorem Kp.grown {W1 W W' : World} {go gp : Nat} {row : Option Nat} (h : Kp W1 W go gp) (hg : W.grownBy W' row) (hr : ∀ b, row = some b → b = go ∨ b = gp) : Kp W1 W' go gp :=
  ⟨hg.os.trans h.os, hg.tape.trans h.tape, hg.output.trans h.output, Nat.le_trans h.size hg.size, fun i hi h1 h2 => by
    rw [hg.block i (Nat.lt_of_lt_of_le hi h.size) (fun e => by rcases hr _ e.symm with e2 | e2; · exact h1 e2
                                                               · exact h2 e2)]
    exact h.block i hi h1 h2⟩
theorem Kp.below {W1 W W' : World} {go gp : Nat} (h : Kp W1 W go gp) (hb : Below W.heap.size W W') : Kp W1 W' go gp :=
  h.grown (row := none) ⟨hb.os, hb.tape, hb.output, hb.size, fun i hi _ => hb.block i hi⟩ (fun b e => by cases e)
theorem Kp.cell {W1 W : World} {go gp : Nat} (h : Kp W1 W go gp) {a : Addr} {v : Value} (hc : W1.cell? a = some v) (h1 : a.block ≠ go) (h2 : a.block ≠ gp) : W.cell? a = some v := by
  rw [cell_block (h.block _ (World.block_lt_of_cell? W1 a hc) h1 h2)]
  exact hc
/-- the program, apart from the two rows -/
theorem Kp.pr {W1 W : World} {go gp B : Nat} (h : Kp W1 W go gp) {v : Value} {bs : Nat → St} (hp : PrOk (vis (fun b => b < B) W1) v bs) (h1 : B ≤ go) (h2 : B ≤ gp) : PrOk W.cell? v bs :=
  hp.mono (fun a u e => by
    obtain ⟨q1, q2⟩ := vis_at e
    exact h.cell q2 (by omega) (by omega))
def vsL (vs : Nat → Value) : List Value := [vs 0, vs 1, vs 2, vs 3]
def updV (vs : Nat → Value) (i : Nat) (v : Value) : Nat → Value := fun j => if j = i then v else vs j
theorem vsL_set (vs : Nat → Value) {i : Nat} (hi : i < 4) (v : Value) : (vsL vs).set i v = vsL (updV vs i v) := by
  rcases (by omega : i = 0 ∨ i = 1 ∨ i = 2 ∨ i = 3) with rfl | rfl | rfl | rfl <;> rfl
theorem vsL_at (vs : Nat → Value) {i : Nat} (hi : i < 4) : (vsL vs)[i]? = some (vs i) := by
  rcases (by omega : i = 0 ∨ i = 1 ∨ i = 2 ∨ i = 3) with rfl | rfl | rfl | rfl <;> rfl
theorem ownV_set (own : Nat → List Int) {i : Nat} (hi : i < 4) (e : List Int) : (ownV own).set i (.string (st e)) = ownV (updE own i e) := by
  rcases (by omega : i = 0 ∨ i = 1 ∨ i = 2 ∨ i = 3) with rfl | rfl | rfl | rfl <;> rfl
structure WhS (wb W1 W : World) (bs : Nat → St) (most : Bool) (go co gp cp : Nat) (own : Nat → List Int) (vs : Nat → Value) (al : Bool) (i : Nat) : Prop where
  two : Two wb W 9 115 go co gp cp (ownV own) (vsL vs)
  kp : Kp W1 W go gp
  pre : Pre most bs own
  pt : ∀ j, j < 4 → (al = true ∨ j < i) → PtV W (bs j) W1.heap.size (vs j)
  lo : go < W1.heap.size
  lp : gp < W1.heap.size
theorem WhS.below {wb W1 W W' : World} {bs : Nat → St} {most : Bool} {go co gp cp : Nat} {own : Nat → List Int} {vs : Nat → Value} {al : Bool} {i : Nat} (h : WhS wb W1 W bs most go co gp cp own vs al i) (hb : Below W.heap.size W W') : WhS wb W1 W' bs most go co gp cp own vs al i :=
  ⟨h.two.below hb, h.kp.below hb, h.pre, fun j hj hd => (h.pt j hj hd).below hb, h.lo, h.lp⟩
theorem WhS.restart {wb W1 W : World} {bs : Nat → St} {most : Bool} {go co gp cp : Nat} {own : Nat → List Int} {vs : Nat → Value} {al : Bool} {i : Nat} (h : WhS wb W1 W bs most go co gp cp own vs al i) (hi : al = true ∨ i = 4) : WhS wb W1 W bs most go co gp cp own vs true 0 :=
  ⟨h.two, h.kp, h.pre, fun j hj hd => h.pt j hj (by rcases hi with hi | hi; · exact .inl hi
                                                    · exact .inr (by omega)), h.lo, h.lp⟩
/-- the points of body i are laid in the row -/
theorem WhS.setP {wb W1 W : World} {bs : Nat → St} {most : Bool} {go co gp cp : Nat} {own : Nat → List Int} {vs : Nat → Value} {al : Bool} {i : Nat} (h : WhS wb W1 W bs most go co gp cp own vs al i) (hi : i < 4) {v : Value} (hv : PtV W (bs i) W1.heap.size v) :
    WhS wb W1 (W.setCell ⟨gp, i, none⟩ v) bs most go co gp cp own (updV vs i v) al (i + 1) := by
  obtain ⟨q1, q2⟩ := own_set h.two.oy i (by omega) v
  rw [vsL_set vs hi] at q1
  have hb : Below wb.heap.size wb (W.setCell ⟨gp, i, none⟩ v) := h.two.hB.grown q2 h.two.hB.size (fun k hk => by cases hk; exact own_base h.two.oy _ rfl)
  refine ⟨⟨hb, own_kept2 h.two.ox q2 (fun b e e2 => h.two.ne (by cases e; cases e2; rfl)), q1, h.two.ne⟩, h.kp.grown q2 (fun b e => by cases e; exact .inr rfl), h.pre, fun j hj hd => ?_, h.lo, h.lp⟩
  have hg : ∀ b, some gp = some b → b < W1.heap.size := fun b e => by cases e; exact h.lp
  unfold updV
  split
  · rename_i e; subst e; exact hv.kept q2 hg
  · rename_i e; exact (h.pt j hj (by rcases hd with hd | hd; · exact .inl hd
                                     · exact .inr (by omega))).kept q2 hg
/-- the effect of function i is laid in the row -/
theorem WhS.setO {wb W1 W : World} {bs : Nat → St} {most : Bool} {go co gp cp : Nat} {own : Nat → List Int} {vs : Nat → Value} {al : Bool} {i k : Nat} (h : WhS wb W1 W bs most go co gp cp own vs al k) (hi : i < 4) {e : List Int} (he : effM most own (bs i) oneE = e) :
    WhS wb W1 (W.setCell ⟨go, i, none⟩ (.string (st e))) bs most go co gp cp (updE own i e) vs al k := by
  obtain ⟨q1, q2⟩ := own_set h.two.ox i (by omega) (.string (st e))
  rw [ownV_set own hi] at q1
  have hb : Below wb.heap.size wb (W.setCell ⟨go, i, none⟩ (.string (st e))) := h.two.hB.grown q2 h.two.hB.size (fun k hk => by cases hk; exact own_base h.two.ox _ rfl)
  refine ⟨⟨hb, q1, own_kept2 h.two.oy q2 (fun b e e2 => h.two.ne (by cases e; cases e2; rfl)), h.two.ne⟩, h.kp.grown q2 (fun b e => by cases e; exact .inl rfl), ?_, fun j hj hd => (h.pt j hj hd).kept q2 (fun b e => by cases e; exact h.lo), h.lo, h.lp⟩
  rw [← he]
  exact h.pre.upd hi
end Go.Proofs.Ytdhklfbelplbcaa
namespace Go.Proofs.Ytdhklfbelplbcaa
set_option linter.unusedVariables false
open Go.RowKit

theorem info102 : (Try.prog.info? 102).map (fun i => (i.zero, i.size, i.bytes)) = some (some (.agg #[.string ⟨#[]⟩, .int .i64 0, .int .i64 0, .int .i64 0, .string ⟨#[]⟩, .slice none 0 0, .slice none 0 0, .string ⟨#[]⟩]), 8, 120) := by kernel_rfl
theorem info98 : (Try.prog.info? 98).map (fun i => (i.zero, i.size, i.bytes)) = some (some (.slice none 0 0), 1, 24) := by kernel_rfl
theorem addR_len : ∀ (ys : List ByteArray) (p : List ByteArray × List ByteArray), AllFN ys → (addR ys p).1.length + muF (addR ys p).1 ≤ p.1.length + muF p.1
  | [], p, _ => Nat.le_refl _
  | y :: ys, p, h0 => by
    unfold addR
    refine Nat.le_trans (addR_len ys _ (fun z hz => h0 z (List.mem_cons_of_mem _ hz))) ?_
    split
    · exact Nat.le_refl _
    · rename_i hn
      have h1 := muF_with (h0 y (by simp)) (by simpa using hn)
      have h2 := withL_len p.1 y
      simp only
      omega
theorem reachF_len (bs : Nat → St) (hok : ∀ j, j < 4 → StOk (bs j)) : ∀ (n : Nat) (out todo : List ByteArray), (reachF bs n out todo).length + muF (reachF bs n out todo) ≤ out.length + muF out
  | 0, out, todo => by unfold reachF; exact Nat.le_refl _
  | n + 1, out, [] => by unfold reachF; exact Nat.le_refl _
  | n + 1, out, x :: rest => by
    unfold reachF
    refine Nat.le_trans (reachF_len bs hok n _ _) ?_
    exact addR_len (callsL bs (fnIx x)) (out, rest) (calls_fn hok (fnIx_lt x))
theorem reachL_len (bs : Nat → St) (hok : ∀ j, j < 4 → StOk (bs j)) {f : Nat} (hf : f < 4) : (reachL bs f).length ≤ 4 := by
  have h1 := reachF_len bs hok 5 [fnN f] [fnN f]
  have h2 := muF_one hf
  unfold reachL
  simp at h1
  omega
/-- the Sites of one function -/
def tf (bs : Nat → St) (r : ByteArray) : List (Nat × Nat) := (List.range (ptsN (bs (fnIx r)))).map fun j => (fnIx r, j)
def tlK (bs : Nat → St) (i k : Nat) : List (Nat × Nat) := ((reachL bs i).take k).flatMap (tf bs)
def tl (bs : Nat → St) (i : Nat) : List (Nat × Nat) := (reachL bs i).flatMap (tf bs)
theorem tf_len (bs : Nat → St) (r : ByteArray) : (tf bs r).length = ptsN (bs (fnIx r)) := by simp [tf]
theorem tf_at (bs : Nat → St) (r : ByteArray) {j : Nat} (h : j < (tf bs r).length) : (tf bs r)[j] = (fnIx r, j) := by simp [tf]
theorem tlK_zero (bs : Nat → St) (i : Nat) : tlK bs i 0 = [] := rfl
theorem tlK_all (bs : Nat → St) (i : Nat) : tlK bs i (reachL bs i).length = tl bs i := by unfold tlK tl; rw [List.take_length]
theorem tlK_succ (bs : Nat → St) (i : Nat) {k : Nat} (h : k < (reachL bs i).length) : tlK bs i (k + 1) = tlK bs i k ++ tf bs (reachL bs i)[k] := by
  unfold tlK
  rw [List.take_succ_eq_append_getElem h, List.flatMap_append]
  simp
theorem flat_len (bs : Nat → St) (hcnt : ∀ j, j < 4 → (bs j).cnt ≤ 200) : ∀ l : List ByteArray, (l.flatMap (tf bs)).length ≤ l.length * 200
  | [] => Nat.le_refl _
  | x :: l => by
    have h1 := flat_len bs hcnt l
    have h2 := hcnt _ (fnIx_lt x)
    have h3 := ptsN_le (bs (fnIx x))
    simp only [List.flatMap_cons, List.length_append, tf_len, List.length_cons]
    omega
theorem tlK_len (bs : Nat → St) (hok : ∀ j, j < 4 → StOk (bs j)) (hcnt : ∀ j, j < 4 → (bs j).cnt ≤ 200) {i : Nat} (hi : i < 4) (k : Nat) : (tlK bs i k).length ≤ 800 := by
  have h1 := flat_len bs hcnt ((reachL bs i).take k)
  have h2 := reachL_len bs hok hi
  have h3 : ((reachL bs i).take k).length ≤ 4 := by rw [List.length_take]; omega
  unfold tlK
  omega
theorem tl_len (bs : Nat → St) (hok : ∀ j, j < 4 → StOk (bs j)) (hcnt : ∀ j, j < 4 → (bs j).cnt ≤ 200) {i : Nat} (hi : i < 4) : (tl bs i).length ≤ 800 := by
  rw [← tlK_all]; exact tlK_len bs hok hcnt hi _
/-- what is told of Sites, as it lies -/
def ToOk (xs : List Value) (L : List (Nat × Nat)) : Prop :=
  ∀ i, ∀ h : i < L.length, ∃ (k x : Int) (nm : ByteArray) (va vb : Value) (E : List Int), xs[i * 8]? = some (.string (fnN L[i].1)) ∧ xs[i * 8 + 1]? = some (.int .i64 (L[i].2 : Nat)) ∧ xs[i * 8 + 2]? = some (.int .i64 k) ∧ xs[i * 8 + 3]? = some (.int .i64 x) ∧
    xs[i * 8 + 4]? = some (.string nm) ∧ xs[i * 8 + 5]? = some va ∧ xs[i * 8 + 6]? = some vb ∧ xs[i * 8 + 7]? = some (.string (st E)) ∧ Ef 3 E ∧ nm.size ≤ 4 ∧ va.oneCell' = true ∧ vb.oneCell' = true
theorem ToOk.nil : ToOk [] [] := fun i h => by simp at h
theorem ToOk.snoc {xs : List Value} {L : List (Nat × Nat)} (h : ToOk xs L) (hl : xs.length = L.length * 8) {f j : Nat} {k x : Int} {nm : ByteArray} {va vb : Value} {E : List Int} (hE : Ef 3 E) (hn : nm.size ≤ 4) (ha : va.oneCell' = true) (hb : vb.oneCell' = true) :
    ToOk (xs ++ [.string (fnN f), .int .i64 (j : Nat), .int .i64 k, .int .i64 x, .string nm, va, vb, .string (st E)]) (L ++ [(f, j)]) := by
  intro i hi
  by_cases c : i < L.length
  · obtain ⟨k', x', nm', va', vb', E', h0, h1, h2, h3, h4, h5, h6, h7, h8⟩ := h i c
    have e : (L ++ [(f, j)])[i] = L[i] := List.getElem_append_left c
    rw [e]
    refine ⟨k', x', nm', va', vb', E', ?_, ?_, ?_, ?_, ?_, ?_, ?_, ?_, h8⟩ <;> (rw [List.getElem?_append_left (by omega)]; assumption)
  · have e : i = L.length := by simp at hi; omega
    subst e
    have e2 : (L ++ [(f, j)])[L.length] = (f, j) := by simp
    rw [e2]
    refine ⟨k, x, nm, va, vb, E, ?_, ?_, ?_, ?_, ?_, ?_, ?_, ?_, hE, hn, ha, hb⟩
    · rw [List.getElem?_append_right (by omega), hl, Nat.sub_self]; rfl
    all_goals (rw [List.getElem?_append_right (by omega), hl, Nat.add_sub_cancel_left]; rfl)
theorem ToOk.set {xs : List Value} {L : List (Nat × Nat)} {n : Nat} (h : ToOk xs L) (hl : xs.length = L.length * 8) (hn : n < L.length) {E : List Int} (hE : Ef 3 E) : ToOk (xs.set (n * 8 + 7) (.string (st E))) L := by
  intro i hi
  obtain ⟨k', x', nm', va', vb', E', h0, h1, h2, h3, h4, h5, h6, h7, h8, h9⟩ := h i hi
  by_cases c : i = n
  · subst c
    refine ⟨k', x', nm', va', vb', E, ?_, ?_, ?_, ?_, ?_, ?_, ?_, ?_, hE, h9⟩
    · rw [List.getElem?_set_ne (by omega)]; exact h0
    · rw [List.getElem?_set_ne (by omega)]; exact h1
    · rw [List.getElem?_set_ne (by omega)]; exact h2
    · rw [List.getElem?_set_ne (by omega)]; exact h3
    · rw [List.getElem?_set_ne (by omega)]; exact h4
    · rw [List.getElem?_set_ne (by omega)]; exact h5
    · rw [List.getElem?_set_ne (by omega)]; exact h6
    · rw [List.getElem?_set_self (by omega)]
  · refine ⟨k', x', nm', va', vb', E', ?_, ?_, ?_, ?_, ?_, ?_, ?_, ?_, h8, h9⟩ <;> (rw [List.getElem?_set_ne (by omega)]; assumption)
theorem to_one {f : ByteArray} {j k x : Int} {nm e : ByteArray} {va vb : Value} (ha : va.oneCell' = true) (hb : vb.oneCell' = true) : ∀ u ∈ [Value.string f, .int .i64 j, .int .i64 k, .int .i64 x, .string nm, va, vb, .string e], u.oneCell' = true := by
  intro u hu
  simp only [List.mem_cons, List.not_mem_nil, or_false] at hu
  rcases hu with rfl | rfl | rfl | rfl | rfl | rfl | rfl | rfl <;> first | assumption | rfl
/-- while one row is laid: it, above all that lay -/
structure Ld (wR W : World) (v : Value) (L : List (Nat × Nat)) : Prop where
  hB : Below wR.heap.size wR W
  ex : ∃ xs, W.ownsRow wR.heap.size 102 8 v L.length xs ∧ ToOk xs L
theorem Ld.start (wR : World) : Ld wR wR (.slice none 0 0) [] := ⟨Below.refl _ _, [], own_nil _ _ _ _, ToOk.nil⟩
theorem Ld.below {wR W W' : World} {v : Value} {L : List (Nat × Nat)} (h : Ld wR W v L) (hb : Below W.heap.size W W') : Ld wR W' v L := by
  obtain ⟨h1, xs, h2, h3⟩ := h
  exact ⟨bl_then h1 h1.size hb, xs, own_below h2 hb, h3⟩
/-- the rows of all functions so far, each by itself -/
structure AllS (W0 W : World) (bs : Nat → St) (va : Value) (vl : List Value) : Prop where
  hB : Below W0.heap.size W0 W
  oa : W.ownsRow W0.heap.size 98 1 va vl.length vl
  ot : ∀ j, ∀ h : j < vl.length, ∃ xs, W.ownsRow W0.heap.size 102 8 vl[j] (tl bs j).length xs ∧ ToOk xs (tl bs j)
  na : ∀ j, ∀ h : j < vl.length, ∀ b, vl[j].ownBlock = some b → va.ownBlock ≠ some b
  nt : ∀ i j, ∀ h : i < vl.length, ∀ h2 : j < vl.length, i ≠ j → ∀ b, vl[i].ownBlock = some b → vl[j].ownBlock ≠ some b
theorem AllS.start (W0 : World) (bs : Nat → St) : AllS W0 W0 bs (.slice none 0 0) [] :=
  ⟨Below.refl _ _, own_nil _ _ _ _, (fun j h => by simp at h), (fun j h => by simp at h), (fun i j h => by simp at h)⟩
theorem AllS.below {W0 W W' : World} {bs : Nat → St} {va : Value} {vl : List Value} (h : AllS W0 W bs va vl) (hb : Below W.heap.size W W') : AllS W0 W' bs va vl :=
  ⟨bl_then h.hB h.hB.size hb, own_below h.oa hb, (fun j hj => by obtain ⟨xs, q1, q2⟩ := h.ot j hj; exact ⟨xs, own_below q1 hb, q2⟩), h.na, h.nt⟩
/-- one row more -/
theorem AllS.grow {W0 W wR W1 W2 : World} {bs : Nat → St} {va va2 v : Value} {vl : List Value} (h : AllS W0 W bs va vl) (hR : Below W.heap.size W wR) (hL : Ld wR W1 v (tl bs vl.length))
    (o2 : W2.ownsRow W0.heap.size 98 1 va2 (vl.length + 1) (vl ++ [v])) (b2 : Below W0.heap.size W0 W2) (g2 : W1.grownBy W2 va.ownBlock) (a2 : va2.ownBlock = va.ownBlock ∨ ∃ b, va2.ownBlock = some b ∧ W1.heap.size ≤ b) : AllS W0 W2 bs va2 (vl ++ [v]) := by
  have h1 := (h.below hR).below hL.hB
  obtain ⟨xs, q1, q2⟩ := hL.ex
  have hva : ∀ b, va.ownBlock = some b → b < wR.heap.size := fun b e => by
    have := (h.oa.lt b e).2
    have := hR.size
    omega
  have hold : ∀ j, ∀ hj : j < vl.length, ∀ b, vl[j].ownBlock = some b → b < wR.heap.size := fun j hj b e => by
    obtain ⟨ys, p1, -⟩ := h.ot j hj
    have := (p1.lt b e).2
    have := hR.size
    omega
  have hnew : ∀ b, v.ownBlock = some b → wR.heap.size ≤ b ∧ b < W1.heap.size := fun b e => q1.lt b e
  have hlast : ∀ j, ∀ hj : j < (vl ++ [v]).length, j < vl.length ∨ (j = vl.length ∧ (vl ++ [v])[j] = v) := fun j hj => by
    by_cases c : j < vl.length
    · exact .inl c
    · have e : j = vl.length := by simp at hj; omega
      subst e
      exact .inr ⟨rfl, by simp⟩
  have hva2 : ∀ b, va2.ownBlock = some b → va.ownBlock = some b ∨ W1.heap.size ≤ b := fun b e => by
    rcases a2 with a2 | ⟨c, a2, hc⟩
    · exact .inl (by rw [← a2]; exact e)
    · rw [a2] at e; cases e; exact .inr hc
  refine ⟨b2, by simpa using o2, fun j hj => ?_, fun j hj b hb e => ?_, fun i j hi hj hne b hb e => ?_⟩
  · rcases hlast j hj with c | ⟨rfl, e⟩
    · rw [List.getElem_append_left c]
      obtain ⟨ys, p1, p2⟩ := h1.ot j c
      exact ⟨ys, own_kept2 p1 g2 (fun b e e2 => h.na j c b e2 e), p2⟩
    · rw [e]
      refine ⟨xs, own_kept2 (own_weaken q1 ?_) g2 (fun b e e2 => ?_), q2⟩
      · have := hR.size; have := h.hB.size; omega
      · have := hva b e; have := hnew b e2; omega
  · rcases hlast j hj with c | ⟨rfl, e3⟩
    · rw [List.getElem_append_left c] at hb
      rcases hva2 b e with e4 | e4
      · exact h.na j c b hb e4
      · have := hold j c b hb; have := hL.hB.size; omega
    · rw [e3] at hb
      rcases hva2 b e with e4 | e4
      · have := hva b e4; have := hnew b hb; omega
      · have := hnew b hb; omega
  · rcases hlast i hi with c | ⟨rfl, e3⟩ <;> rcases hlast j hj with d | ⟨rfl, e4⟩
    · rw [List.getElem_append_left c] at hb
      rw [List.getElem_append_left d] at e
      exact h.nt i j c d hne b hb e
    · rw [List.getElem_append_left c] at hb
      rw [e4] at e
      have := hold i c b hb; have := hnew b e; omega
    · rw [e3] at hb
      rw [List.getElem_append_left d] at e
      have := hold j d b e; have := hnew b hb; omega
    · exact hne rfl
end Go.Proofs.Ytdhklfbelplbcaa
namespace Go.Proofs.Ytdhklfbelplbcaa
set_option linter.unusedVariables false
open Go.RowKit

theorem info86 : (Try.prog.info? 86).map (fun i => (i.zero, i.size, i.bytes)) = some (some (.agg #[.string ⟨#[]⟩, .string ⟨#[]⟩, .int .i64 0, .string ⟨#[]⟩, .int .i64 0]), 5, 64) := by kernel_rfl
/-- races, as they lie -/
def RcOk (xs : List Value) (n : Nat) : Prop :=
  ∀ i, i < n → ∃ (v f1 f2 : ByteArray) (n1 n2 : Int), xs[i * 5]? = some (.string v) ∧ xs[i * 5 + 1]? = some (.string f1) ∧ xs[i * 5 + 2]? = some (.int .i64 n1) ∧ xs[i * 5 + 3]? = some (.string f2) ∧ xs[i * 5 + 4]? = some (.int .i64 n2) ∧ v.size ≤ 4
theorem RcOk.nil : RcOk [] 0 := fun i h => by omega
theorem RcOk.app {xs ys : List Value} {n m : Nat} (h : RcOk xs n) (hl : xs.length = n * 5) (k : RcOk ys m) : RcOk (xs ++ ys) (n + m) := by
  intro i hi
  by_cases c : i < n
  · obtain ⟨v, f1, f2, n1, n2, h0, h1, h2, h3, h4, h5⟩ := h i c
    refine ⟨v, f1, f2, n1, n2, ?_, ?_, ?_, ?_, ?_, h5⟩ <;> (rw [List.getElem?_append_left (by omega)]; assumption)
  · obtain ⟨v, f1, f2, n1, n2, h0, h1, h2, h3, h4, h5⟩ := k (i - n) (by omega)
    refine ⟨v, f1, f2, n1, n2, ?_, ?_, ?_, ?_, ?_, h5⟩
    · rw [List.getElem?_append_right (by omega), hl]; rwa [show i * 5 - n * 5 = (i - n) * 5 by omega]
    · rw [List.getElem?_append_right (by omega), hl]; rwa [show i * 5 + 1 - n * 5 = (i - n) * 5 + 1 by omega]
    · rw [List.getElem?_append_right (by omega), hl]; rwa [show i * 5 + 2 - n * 5 = (i - n) * 5 + 2 by omega]
    · rw [List.getElem?_append_right (by omega), hl]; rwa [show i * 5 + 3 - n * 5 = (i - n) * 5 + 3 by omega]
    · rw [List.getElem?_append_right (by omega), hl]; rwa [show i * 5 + 4 - n * 5 = (i - n) * 5 + 4 by omega]
theorem RcOk.one (v f1 f2 : ByteArray) (n1 n2 : Int) (hv : v.size ≤ 4) : RcOk [.string v, .string f1, .int .i64 n1, .string f2, .int .i64 n2] 1 := by
  intro i hi
  have e : i = 0 := by omega
  subst e
  exact ⟨v, f1, f2, n1, n2, rfl, rfl, rfl, rfl, rfl, hv⟩
theorem RcOk.take {xs : List Value} {n : Nat} (h : RcOk xs n) (k : Nat) (hk : k ≤ n) : RcOk (xs.take (k * 5)) k := by
  intro i hi
  obtain ⟨v, f1, f2, n1, n2, h0, h1, h2, h3, h4, h5⟩ := h i (by omega)
  refine ⟨v, f1, f2, n1, n2, ?_, ?_, ?_, ?_, ?_, h5⟩ <;> (rw [List.getElem?_take_of_lt (by omega)]; assumption)
theorem RcOk.drop {xs : List Value} {n : Nat} (h : RcOk xs n) (k : Nat) : RcOk (xs.drop (k * 5)) (n - k) := by
  intro i hi
  obtain ⟨v, f1, f2, n1, n2, h0, h1, h2, h3, h4, h5⟩ := h (k + i) (by omega)
  refine ⟨v, f1, f2, n1, n2, ?_, ?_, ?_, ?_, ?_, h5⟩
  · rw [List.getElem?_drop]; rwa [show k * 5 + i * 5 = (k + i) * 5 by omega]
  · rw [List.getElem?_drop]; rwa [show k * 5 + (i * 5 + 1) = (k + i) * 5 + 1 by omega]
  · rw [List.getElem?_drop]; rwa [show k * 5 + (i * 5 + 2) = (k + i) * 5 + 2 by omega]
  · rw [List.getElem?_drop]; rwa [show k * 5 + (i * 5 + 3) = (k + i) * 5 + 3 by omega]
  · rw [List.getElem?_drop]; rwa [show k * 5 + (i * 5 + 4) = (k + i) * 5 + 4 by omega]
/-- a slice of races -/
def SlRc (w : World) (v : Value) (n : Nat) : Prop := ∃ A c xs, v = .slice A n c ∧ n ≤ c ∧ c ≤ 9223372036854775807 ∧ (A = none → n = 0 ∧ c = 0) ∧ Rd w A xs ∧ xs.length = n * 5 ∧ RcOk xs n ∧ ∀ a, A = some a → a = ⟨a.block, 0, none⟩
theorem SlRc.below {w w' : World} {v : Value} {n : Nat} (h : SlRc w v n) (hb : Below w.heap.size w w') : SlRc w' v n := by
  obtain ⟨A, c, xs, h1, h2, h3, h4, h5, h6⟩ := h
  exact ⟨A, c, xs, h1, h2, h3, h4, h5.below hb, h6⟩
theorem SlRc.nil (w : World) : SlRc w (.slice none 0 0) 0 := ⟨none, 0, [], rfl, Nat.le_refl _, by omega, fun _ => ⟨rfl, rfl⟩, Rd.nil _ _, rfl, RcOk.nil, fun a e => by cases e⟩
theorem SlRc.own {w : World} {base n : Nat} {v : Value} {xs : List Value} (h : w.ownsRow base 86 5 v n xs) (hx : RcOk xs n) : SlRc w v n := by
  obtain ⟨A, c, e, h2, h3, h4, h5⟩ := Rd.own h
  refine ⟨A, c, xs, e, h2, h3, h5, h4, h.1, hx, fun a ha => ?_⟩
  rcases h.2 with ⟨h6, -⟩ | ⟨g', cap, cur, h6, -⟩
  · rw [e] at h6; simp only [Value.slice.injEq] at h6; rw [h6.1] at ha; cases ha
  · rw [e] at h6; simp only [Value.slice.injEq] at h6; rw [h6.1] at ha; cases ha; rfl
end Go.Proofs.Ytdhklfbelplbcaa
