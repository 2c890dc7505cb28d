/- Words for the walks: slices that read as lists, slices of the call's own, appends. No program's text. -/
import Derived.WalkKit
import Derived.WalkSpells
import Derived.WalkLawsBesides
import Derived.Deep.QuietTactic
import Derived.BigQuiet
import Derived.Lib.Hide
import Derived.Deep.DeepCutAuto
import Derived.Deep.CutBlock
import Derived.Maps.AppendAt
import Derived.Laws.AppendOwnNone
import Derived.Deep.AppendLies
import Derived.Deep.OwnRows
import Derived.Laws.CopyOwn
namespace Go.Proofs.Ytjlhajnficneoaa
set_option linter.unusedVariables false
set_option linter.unusedSimpArgs false
open Go.RowKit

theorem ret_int {k : IntKind} {a b : Int} (h : a = b) : Ending.returned (.int k a) = .returned (.int k b) := by rw [h]
theorem ret_bool {a b : Bool} (h : a = b) : Ending.returned (.bool a) = .returned (.bool b) := by rw [h]

/-! ### worlds -/
theorem bl_alloc {w W : World} (h : Below w.heap.size w W) (o : Obj) : Below w.heap.size w (W.alloc o) := h.alloc h.size o
theorem bl_drewN {B : Nat} {w W : World} (h : Below B w W) (n : Nat) : Below B w (W.drewN n) := ⟨h.os, h.tape, h.output, h.size, h.block⟩
theorem bl_then {B : Nat} {w w1 w2 : World} (h : Below B w w1) (hB : B ≤ w1.heap.size) (k : Below w1.heap.size w1 w2) : Below B w w2 :=
  h.trans ⟨k.os, k.tape, k.output, k.size, fun i hi => k.block i (Nat.lt_of_lt_of_le hi hB)⟩
theorem bl_cell {w w1 : World} (h : Below w.heap.size w w1) {a : Addr} {v : Value} (hc : w.cell? a = some v) : w1.cell? a = some v := (h.cell (World.block_lt_of_cell? w a hc)).trans hc
theorem bcell {W w1 : World} (hb : Below W.heap.size W w1) : (∀ b o, b < W.heap.size → w1.cell? ⟨b, o, none⟩ = W.cell? ⟨b, o, none⟩) ∧ (∀ b o, b < W.heap.size → w1.frozen? ⟨b, o, none⟩ = W.frozen? ⟨b, o, none⟩) :=
  ⟨fun b o h => hb.cell (p := ⟨b, o, none⟩) h, fun b o h => hb.frozen (p := ⟨b, o, none⟩) h⟩
theorem add_plain (g j : Nat) : (⟨g, 0, none⟩ : Addr).add j = ⟨g, j, none⟩ := by unfold Addr.add; split <;> simp_all

/-- a callee's contract, met in a region that draws its order: it draws nothing -/
theorem quiet_same {P : Program} {f : FuncId} {args : Array Value} {w : World} {n : Nat} {v : Value}
    (h : Calls P f args (w.drewN n) fun e w' => e = .returned v ∧ w.drewN n = w') : Calls P f args (w.drewN n) fun e w'' => e = .returned v ∧ ∃ m, w'' = w.drewN m :=
  h.mono fun _ _ ⟨he, hm⟩ => ⟨he, n, hm.symm⟩

theorem quiet_add {P : Program} {f : FuncId} {args : Array Value} {w : World} {a n : Nat} {v : Value}
    (h : Calls P f args (w.drewN (a + n)) fun e w' => e = .returned v ∧ w.drewN (a + n) = w') :
    Calls P f args (w.drewN (a + n)) fun e w'' => e = .returned v ∧ ∃ m, w'' = w.drewN (a + m) :=
  h.mono fun _ _ ⟨he, hm⟩ => ⟨he, n, hm.symm⟩

theorem blk_alloc {w : World} {g : Nat} {o : Obj} (h : w.heap[g]? = some o) (o' : Obj) : (w.alloc o').heap[g]? = some o := (Below.heap_alloc w o' g (Array.getElem?_eq_some_iff.1 h).1).trans h

/-! ### rows of the call's own -/
theorem own_drewN {w : World} {B e size n : Nat} {v : Value} {xs : List Value} (h : w.ownsRow B e size v n xs) (q : Nat) : (w.drewN q).ownsRow B e size v n xs := h
theorem own_nil (w : World) (base : Nat) (e : TypeId) (size : Nat) : w.ownsRow base e size (.slice none 0 0) 0 [] := ⟨by simp, .inl ⟨rfl, rfl⟩⟩
theorem own_base {w : World} {base : Nat} {e : TypeId} {size n : Nat} {v : Value} {xs : List Value} (h : w.ownsRow base e size v n xs) : ∀ k, v.ownBlock = some k → base ≤ k := fun k hk => (h.lt k hk).1
theorem own_below {w w1 : World} {base : Nat} {e : TypeId} {size n : Nat} {v : Value} {xs : List Value} (h : w.ownsRow base e size v n xs) (hb : Below w.heap.size w w1) : w1.ownsRow base e size v n xs :=
  h.kept (row := none) ⟨hb.os, hb.tape, hb.output, hb.size, fun i hi _ => hb.block i hi⟩ (by cases v.ownBlock <;> simp)
theorem own_weaken {w : World} {base base' : Nat} {e : TypeId} {size n : Nat} {v : Value} {xs : List Value} (h : w.ownsRow base e size v n xs) (hb : base' ≤ base) : w.ownsRow base' e size v n xs := by
  obtain ⟨h1, h2⟩ := h
  refine ⟨h1, ?_⟩
  rcases h2 with h2 | ⟨g, cap, cur, h3, h4, h5⟩
  · exact .inl h2
  · exact .inr ⟨g, cap, cur, h3, by omega, h5⟩

theorem own_lit (W : World) (base : Nat) (e : TypeId) (size n : Nat) (xs : List Value) (hb : base ≤ W.heap.size) (hl : xs.length = n * size) (hm : n ≤ 9223372036854775807) :
    (W.alloc (.cells xs.toArray e)).ownsRow base e size (.slice (some ⟨W.heap.size, 0, none⟩) n n) n xs :=
  ⟨hl, .inr ⟨W.heap.size, n, xs.toArray, rfl, hb, heap_alloc_new W _, Nat.le_refl _, by simp only [maxLen]; omega, by simpa using hl, by rw [← hl]; simp⟩⟩

theorem grown_refl (w : World) (row : Option Nat) : w.grownBy w row := ⟨rfl, rfl, rfl, Nat.le_refl _, fun _ _ _ => rfl⟩
theorem grown_then {a b c : World} {row row1 : Option Nat} (h : a.grownBy b row) (hr : row1 = row ∨ ∃ k, row1 = some k ∧ a.heap.size ≤ k) (k : b.grownBy c row1) : a.grownBy c row := by
  refine ⟨k.os.trans h.os, k.tape.trans h.tape, k.output.trans h.output, Nat.le_trans h.size k.size, fun i hi hne => ?_⟩
  refine (k.block i (Nat.lt_of_lt_of_le hi h.size) ?_).trans (h.block i hi hne)
  rcases hr with rfl | ⟨j, rfl, hj⟩
  · exact hne
  · intro e; cases e; omega
theorem at_then {a b : World} {v v1 v2 : Value} (hs : a.heap.size ≤ b.heap.size) (h : v1.ownBlock = v.ownBlock ∨ ∃ k, v1.ownBlock = some k ∧ a.heap.size ≤ k) (k : v2.ownBlock = v1.ownBlock ∨ ∃ j, v2.ownBlock = some j ∧ b.heap.size ≤ j) :
    v2.ownBlock = v.ownBlock ∨ ∃ k, v2.ownBlock = some k ∧ a.heap.size ≤ k := by
  rcases k with k | ⟨j, k, hj⟩
  · rw [k]; exact h
  · exact .inr ⟨j, k, by omega⟩

theorem own_row {W : World} {base g : Nat} {e : TypeId} {size n : Nat} {xs : List Value} (h : W.heap[g]? = some (.cells xs.toArray e (0, 0))) (hb : base ≤ g) (hl : xs.length = n * size) (hm : n ≤ 9223372036854775807) :
    W.ownsRow base e size (.slice (some ⟨g, 0, none⟩) n n) n xs :=
  ⟨hl, .inr ⟨g, n, xs.toArray, rfl, hb, h, Nat.le_refl _, by simp only [maxLen]; omega, by simpa using hl, by rw [← hl]; simp⟩⟩

/-! ### slices that read as values -/
/-- from this address on these cells lie -/
def Rd (w : World) (A : Option Addr) (xs : List Value) : Prop := ∀ i, ∀ h : i < xs.length, ∃ ad, A = some ad ∧ w.cell? (ad.add i) = some xs[i]
theorem Rd.below {w w' : World} {A : Option Addr} {xs : List Value} (h : Rd w A xs) (hb : Below w.heap.size w w') : Rd w' A xs := by
  intro i hi
  obtain ⟨ad, h1, h2⟩ := h i hi
  exact ⟨ad, h1, bl_cell hb h2⟩
theorem Rd.nil (w : World) (A : Option Addr) : Rd w A [] := fun i hi => by simp at hi
theorem Rd.get {w : World} {ad : Addr} {xs : List Value} (h : Rd w (some ad) xs) (i : Nat) (hi : i < xs.length) : w.cell? (ad.add i) = some xs[i] := by
  obtain ⟨ad', h1, h2⟩ := h i hi
  cases h1; exact h2
theorem Rd.own {w : World} {base n : Nat} {e : TypeId} {size : Nat} {v : Value} {xs : List Value} (h : w.ownsRow base e size v n xs) :
    ∃ A c, v = .slice A n c ∧ n ≤ c ∧ c ≤ 9223372036854775807 ∧ Rd w A xs ∧ (A = none → n = 0 ∧ c = 0) := by
  have hl := h.1
  rcases h.2 with ⟨rfl, rfl⟩ | ⟨g, cap, cur, rfl, hb, hg, hc, hm, _⟩
  · exact ⟨none, 0, rfl, Nat.le_refl _, by omega, fun i hi => by omega, fun _ => ⟨rfl, rfl⟩⟩
  · exact ⟨_, cap, rfl, hc, by simp only [maxLen] at hm; omega, fun i hi => ⟨_, rfl, h.cells rfl i _ (by simp [hi])⟩, fun e => by cases e⟩
theorem rd_new (w : World) (xs : List Value) (t : TypeId) : Rd (w.alloc (.cells xs.toArray t)) (some ⟨w.heap.size, 0, none⟩) xs := by
  intro i hi
  refine ⟨_, rfl, ?_⟩
  rw [add_plain, cell_of_row _ _ i xs.toArray t (0, 0) (heap_alloc_new w _)]
  simp [hi]

theorem Rd.take {w : World} {A : Option Addr} {xs : List Value} (h : Rd w A xs) (k : Nat) : Rd w A (xs.take k) := by
  intro i hi
  obtain ⟨ad, h1, h2⟩ := h i (by simp at hi; omega)
  exact ⟨ad, h1, by rw [List.getElem_take]; exact h2⟩
theorem Rd.drop {w : World} {g off : Nat} {xs : List Value} (h : Rd w (some ⟨g, off, none⟩) xs) (k : Nat) : Rd w (some ⟨g, off + k, none⟩) (xs.drop k) := by
  intro i hi
  simp at hi
  have h2 := h.get (k + i) (by omega)
  refine ⟨_, rfl, ?_⟩
  have e : (⟨g, off + k, none⟩ : Addr).add i = (⟨g, off, none⟩ : Addr).add (k + i) := by unfold Addr.add; split <;> split <;> simp_all <;> omega
  rw [e, h2, List.getElem_drop]
theorem add_add (a : Addr) (k i : Nat) : (a.add k).add i = a.add (k + i) := by
  unfold Addr.add
  by_cases hk : k = 0 <;> by_cases hi : i = 0 <;> simp [hk, hi] <;> omega
theorem Rd.dropA {w : World} {ad : Addr} {xs : List Value} (h : Rd w (some ad) xs) (k : Nat) : Rd w (some (ad.add k)) (xs.drop k) := by
  intro i hi
  simp at hi
  have h2 := h.get (k + i) (by omega)
  exact ⟨_, rfl, by rw [add_add, h2, List.getElem_drop]⟩
theorem Rd.cells {w : World} {ad : Addr} {xs : List Value} (h : Rd w (some ad) xs) : ∀ j u, xs[j]? = some u → w.cell? (ad.add j) = some u := by
  intro j u hj
  obtain ⟨hj1, hj2⟩ := List.getElem?_eq_some_iff.1 hj
  rw [h.get j hj1, hj2]

theorem rd_row {w : World} {g : Nat} {xs : List Value} {t : TypeId} (h : w.heap[g]? = some (.cells xs.toArray t (0, 0))) : Rd w (some ⟨g, 0, none⟩) xs := by
  intro i hi
  refine ⟨_, rfl, ?_⟩
  rw [add_plain, cell_of_row _ _ i xs.toArray t (0, 0) h]
  simp [hi]
theorem bl_row {w w' : World} {g : Nat} {o : Obj} (hb : Below w.heap.size w w') (h : w.heap[g]? = some o) : w'.heap[g]? = some o := (hb.block g (Array.getElem?_eq_some_iff.1 h).1).trans h

/-- a slice of values of one cell each, told by a function -/
def enc {α : Type} (f : α → Value) (l : List α) : List Value := l.map f
theorem enc_length {α : Type} (f : α → Value) (l : List α) : (enc f l).length = l.length := by simp [enc]
theorem enc_append {α : Type} (f : α → Value) (l m : List α) : enc f (l ++ m) = enc f l ++ enc f m := by simp [enc]
theorem Rd.at {α : Type} {f : α → Value} {w : World} {A : Option Addr} {l : List α} (h : Rd w A (enc f l)) (i : Nat) (hi : i < l.length) : ∃ ad x, A = some ad ∧ w.cell? (ad.add i) = some (f x) ∧ x = l[i] := by
  obtain ⟨ad, h1, h2⟩ := h i (by simpa [enc] using hi)
  exact ⟨ad, _, h1, by simpa [enc] using h2, rfl⟩

/-! ### make -/
def zer (z : Value) (n : Nat) : List Value := List.replicate n z
theorem zer_length (z : Value) (n : Nat) : (zer z n).length = n := by simp [zer]
theorem mk_row {P : Program} (t e : TypeId) (z : Value) (bytes : Nat) (ht : P.underlying t = some (.slice e)) (hinfo : (P.info? e).map (fun i => (i.zero, i.size, i.bytes)) = some (some z, 1, bytes)) (hz1 : z.cells = #[z])
    (n : Nat) (hbytes : bytes * n ≤ 281474976710656) (h63 : n ≤ 9223372036854775807) (w : World) :
    (Instr.makeSlice t (.int .i64 (n : Int)) (.int .i64 (n : Int))).run P w = .ok (.slice (some ⟨w.heap.size, 0, none⟩) n n) (w.alloc (.cells (zer z n).toArray e)) := by
  rw [run_make_row' t e z bytes ht hinfo hz1 .i64 .i64 n hbytes h63 w]
  have : madeCells #[z] n = (zer z n).toArray := by
    have := toList_madeCells_one z n
    unfold zer
    rw [← this]
  rw [this]

/-! ### append -/
section
variable {P : Program} {ops : Array Oper} {rest : List Oper} {o : Oper} {a : Act} {Q : Exit → Act → World → Prop}
/-- append(s, x...) onto a row of the call's own -/
theorem app_src {w0 W : World} (base : Nat) (hw : Region.wanted o (yielded ops a.tmps) = true) (s x : Operand) (t e : TypeId) (z : Value) (size bytes : Nat)
    (ho : o.op = .call { callee := .builtin .append, args := #[s, x], argTypes := #[t, t] })
    (ht : P.underlying t = some (.slice e)) (hinfo : (P.info? e).map (fun i => (i.zero, i.size, i.bytes)) = some (some z, size, bytes)) (hz : z.cells.size = size) (hsz : 0 < size) (hb0 : 0 < bytes)
    (v : Value) (n : Nat) (xs : List Value) (hs : a.eval s = v) (HO : W.ownsRow base e size v n xs) (HB : Below base w0 W) (hbase : base ≤ W.heap.size)
    (A : Option Addr) (m c : Nat) (news : List Value) (hx : a.eval x = .slice A m c) (hl : news.length = m * size) (hnews : Rd W A news) (hA : A = none → m = 0 ∧ c = 0) (h1 : ∀ u ∈ news, u.oneCell' = true)
    (hbytes : (n + m) * bytes ≤ 140737488355328)
    (h : ∀ v1 w1, w1.ownsRow base e size v1 (n + m) (xs ++ news) → Below base w0 w1 → W.grownBy w1 v.ownBlock → (v1.ownBlock = v.ownBlock ∨ ∃ b, v1.ownBlock = some b ∧ W.heap.size ≤ b) → wpList P ops Q rest (a.put o.dst v1) w1) :
    wpList P ops Q (o :: rest) a W := by
  obtain ⟨i0, hi, hzz⟩ := Option.map_eq_some_iff.1 hinfo
  simp only [Prod.mk.injEq] at hzz
  obtain ⟨hz0, hz1, hz2⟩ := hzz
  have hlen : n + m ≤ 140737488355328 := Nat.le_trans (Nat.le_mul_of_pos_right _ hb0) hbytes
  refine wpList_step fun K hK => ?_
  rw [if_pos hw]
  cases A with
  | none =>
    obtain ⟨rfl, rfl⟩ := hA rfl
    have hn : news = [] := List.eq_nil_of_length_eq_zero (by simpa using hl)
    subst hn
    have hrun := run_append_owned_none (P := P) (w := W) base t o.type e i0 size ht hi v n xs HO
    unfold Oper.wp
    simp [execOp, ho, resolve, invoke, builtin, hs, hx, hrun, Result.andThen]
    exact hK _ _ (h v W (by simpa using HO) HB ⟨rfl, rfl, rfl, Nat.le_refl _, fun _ _ _ => rfl⟩ (.inl rfl))
  | some ad =>
    have hn' : ∀ j u, news[j]? = some u → W.cell? (ad.add j) = some u := by
      intro j u hj
      obtain ⟨hj1, hj2⟩ := List.getElem?_eq_some_iff.1 hj
      rw [hnews.get j hj1, hj2]
    obtain ⟨v1, w1, hr, hown, hg, _, hat⟩ := run_append_own_at (P := P) W base t o.type e i0 z size bytes ht hi hz0 hz1 hz2 hz hsz v n xs HO ad m c news hl hn' h1 (by simp only [maxLen]; omega) hbytes hbase
    unfold Oper.wp execOp
    simp only [ho, resolve, invoke, builtin, Sem.run_bind, Sem.run_pure, Result.andThen_ok, List.map_toArray, List.map_cons, List.map_nil, hs, hx, hr]
    refine hK _ _ (h v1 w1 hown (HB.grown hg hbase (own_base HO)) hg ?_)
    rcases hat with hat | hat
    · exact .inl hat
    · exact .inr ⟨_, hat, Nat.le_refl _⟩

/-- append(s, y1, y2 ..): what is laid behind it lies in a block of its own, new -/
theorem app_lit {w0 W : World} (base : Nat) (hw : Region.wanted o (yielded ops a.tmps) = true) (s x : Operand) (t e : TypeId) (z : Value) (size bytes : Nat)
    (ho : o.op = .call { callee := .builtin .append, args := #[s, x], argTypes := #[t, t] })
    (ht : P.underlying t = some (.slice e)) (hinfo : (P.info? e).map (fun i => (i.zero, i.size, i.bytes)) = some (some z, size, bytes)) (hz : z.cells.size = size) (hsz : 0 < size) (hb0 : 0 < bytes)
    (v : Value) (n : Nat) (xs : List Value) (hs : a.eval s = v) (HO : W.ownsRow base e size v n xs) (HB : Below base w0 W) (hbase : base ≤ W.heap.size)
    (m c : Nat) (news : List Value) (hx : a.eval x = .slice (some ⟨W.heap.size, 0, none⟩) m c) (hl : news.length = m * size) (h1 : ∀ u ∈ news, u.oneCell' = true)
    (hbytes : (n + m) * bytes ≤ 140737488355328)
    (h : ∀ v1 w1, w1.ownsRow base e size v1 (n + m) (xs ++ news) → Below base w0 w1 → W.grownBy w1 v.ownBlock → (v1.ownBlock = v.ownBlock ∨ ∃ b, v1.ownBlock = some b ∧ W.heap.size ≤ b) → wpList P ops Q rest (a.put o.dst v1) w1) :
    wpList P ops Q (o :: rest) a (W.alloc (.cells news.toArray e)) := by
  refine app_src (w0 := w0) base hw s x t e z size bytes ho ht hinfo hz hsz hb0 v n xs hs (HO.alloc _) (HB.alloc hbase _) (by simp; omega) _ m c news hx hl (rd_new W news e) (fun e => by cases e) h1 hbytes ?_
  intro v1 w1 hown hB hg hat
  refine h v1 w1 hown hB (World.grownBy.trans (World.grownBy_alloc W _ _) hg) ?_
  rcases hat with hat | ⟨b, hb1, hb2⟩
  · exact .inl hat
  · exact .inr ⟨b, hb1, by simp at hb2; omega⟩
end

/-! ### a struct stored into the middle of a row -/
theorem run_store_mid {P : Program} (w : World) (g off : Nat) (t ty : TypeId) (cur : List Value) (cells : Array Value) (hg : w.heap[g]? = some (.cells cur.toArray t (0, 0))) (hi : (P.info? ty).map (·.size) = some cells.size)
    (hfit : off + cells.size ≤ cur.length) (h1 : cells.all (·.oneCell') = true) :
    (storeVar ty ⟨g, off, none⟩ (.agg cells)).run P w = .ok () (w.setRow g (splice cur off cells.toList).toArray) := by
  have := run_storeCells_at (P := P) g off t cells.toList 0 cur.toArray w hg (by simpa using hfit) (fun v hv => (Array.all_eq_true_iff_forall_mem.1 h1) v (by simpa using hv))
  cases hq : P.info? ty with
  | none => simp [hq] at hi
  | some i =>
    have hs : cells.size = i.size := by simp [hq] at hi; omega
    simp [storeVar, sizeOf, typeInfo, hq, Value.cells, hs, this, splice]
section
variable {P : Program} {ops : Array Oper} {rest : List Oper} {o : Oper} {a : Act} {Q : Exit → Act → World → Prop}
theorem store_mid {w : World} (hw : Region.wanted o (yielded ops a.tmps) = true) (ty : TypeId) (x y : Operand) (ho : o.op = .store ty x y)
    (g off : Nat) (cells : Array Value) (hx : a.eval x = .pointer (some ⟨g, off, none⟩)) (hy : a.eval y = .agg cells)
    (t : TypeId) (cur : List Value) (hg : w.heap[g]? = some (.cells cur.toArray t (0, 0))) (hi : (P.info? ty).map (·.size) = some cells.size)
    (hfit : off + cells.size ≤ cur.length) (h1 : cells.all (·.oneCell') = true)
    (h : wpList P ops Q rest (a.put o.dst undef) (w.setRow g (splice cur off cells.toList).toArray)) : wpList P ops Q (o :: rest) a w := by
  refine wpList_step fun K hK => ?_
  rw [if_pos hw]
  unfold Oper.wp execOp
  simp only [ho, hx, hy, Instr.storeAt, Instr.sureAddr, Sem.run_bind, Sem.run_pure, Result.andThen_ok, run_store_mid w g off t ty cur cells hg hi hfit h1]
  exact hK _ _ h
end

/-! ### results that lie in memory -/
section
variable {P : Program}
theorem res_c {fn : Func} {p : Tmp} {ty : TypeId} (h : fn.results = #[.cell p ty]) (tmps : Array Value) (w : World) (g : Nat) (t : TypeId) (cs : Array Value) (fr : Nat × Nat) (d : TypeDesc)
    (hp : tmps.getD p undef = .pointer (some ⟨g, 0, none⟩)) (hg : w.heap[g]? = some (.cells cs t fr))
    (hu : P.underlying ty = some d) (hd : (match d with | .struct _ | .array _ _ => true | _ => false) = true) (hi : (P.info? ty).map (·.size) = some cs.size) :
    (results fn tmps).run P w = .ok (.agg cs) w := by
  have hp' : tmps[p]?.getD undef = .pointer (some ⟨g, 0, none⟩) := by simpa using hp
  simp [results, h, hp', asAddr, run_loadVar_row w g t ty cs fr d hg hu hd hi]
theorem res_ct {fn : Func} {p u : Tmp} {ty : TypeId} (h : fn.results = #[.cell p ty, .tmp u]) (tmps : Array Value) (w : World) (g : Nat) (t : TypeId) (cs : Array Value) (fr : Nat × Nat) (d : TypeDesc)
    (hp : tmps.getD p undef = .pointer (some ⟨g, 0, none⟩)) (hg : w.heap[g]? = some (.cells cs t fr))
    (hu : P.underlying ty = some d) (hd : (match d with | .struct _ | .array _ _ => true | _ => false) = true) (hi : (P.info? ty).map (·.size) = some cs.size) :
    (results fn tmps).run P w = .ok (.tuple #[.agg cs, tmps.getD u undef]) w := by
  have hp' : tmps[p]?.getD undef = .pointer (some ⟨g, 0, none⟩) := by simpa using hp
  simp [results, h, hp', asAddr, run_loadVar_row w g t ty cs fr d hg hu hd hi]
end
end Go.Proofs.Ytjlhajnficneoaa
