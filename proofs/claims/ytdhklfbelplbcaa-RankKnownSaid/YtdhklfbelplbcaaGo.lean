/- The walk of races: findings out of numbers. -/
import Derived.Test.YtdhklfbelplbcaaGm
import Derived.Deep.RegionLaw
namespace Go.Proofs.Ytdhklfbelplbcaa
set_option linter.unusedVariables false
set_option linter.unusedSimpArgs false
open Go.RowKit
section
variable {P : Program} {ops : Array Oper} {rest : List Oper} {o : Oper} {a : Act} {Q : Exit → Act → World → Prop}
/-- the same, as one step of a region that draws its order -/
theorem step_app {W : World} {K : Act → World → Prop} {E : Prop} (base : Nat) (hgd : o.guard = none) (s x : Operand) (t e : TypeId) (z : Value) (size bytes : Nat)
    (ho : o.op = .call { callee := .builtin .append, args := #[s, x], argTypes := #[t, t] })
    (ht : P.underlying t = some (.slice e)) (hinfo : (P.info? e).map (fun i => (i.zero, i.size, i.bytes)) = some (some z, size, bytes)) (hz : z.cells.size = size) (hsz : 0 < size) (hb0 : 0 < bytes)
    (v : Value) (n : Nat) (xs : List Value) (hs : a.eval s = v) (HO : W.ownsRow base e size v n xs) (hbase : base ≤ W.heap.size)
    (A : Option Addr) (m c : Nat) (news : List Value) (hx : a.eval x = .slice A m c) (hl : news.length = m * size) (hnews : Rd W A news) (hA : A = none → m = 0 ∧ c = 0) (h1 : ∀ u ∈ news, u.oneCell' = true)
    (hbytes : (n + m) * bytes ≤ 140737488355328)
    (h : ∀ v1 w1, w1.ownsRow base e size v1 (n + m) (xs ++ news) → Below base W w1 → W.grownBy w1 v.ownBlock → (v1.ownBlock = v.ownBlock ∨ ∃ b, v1.ownBlock = some b ∧ W.heap.size ≤ b) → K (a.put o.dst v1) w1) :
    if Region.wanted o (yielded ops a.tmps) = true then Oper.wp P o a W K Q else E := by
  have hw : Region.wanted o (yielded ops a.tmps) = true := by simp [Region.wanted, hgd]
  obtain ⟨i0, hi, hzz⟩ := Option.map_eq_some_iff.1 hinfo
  simp only [Prod.mk.injEq] at hzz
  obtain ⟨hz0, hz1, hz2⟩ := hzz
  have hlen : n + m ≤ 140737488355328 := Nat.le_trans (Nat.le_mul_of_pos_right _ hb0) hbytes
  rw [if_pos hw]
  cases A with
  | none =>
    obtain ⟨rfl, rfl⟩ := hA rfl
    have hn : news = [] := List.eq_nil_of_length_eq_zero (by simpa using hl)
    subst hn
    have hrun := run_append_owned_none (P := P) (w := W) base t o.type e i0 size ht hi v n xs HO
    unfold Oper.wp
    simp [execOp, ho, resolve, invoke, builtin, hs, hx, hrun, Result.andThen]
    exact h v W (by simpa using HO) (Below.refl _ _) ⟨rfl, rfl, rfl, Nat.le_refl _, fun _ _ _ => rfl⟩ (.inl rfl)
  | some ad =>
    have hn' : ∀ j u, news[j]? = some u → W.cell? (ad.add j) = some u := by
      intro j u hj
      obtain ⟨hj1, hj2⟩ := List.getElem?_eq_some_iff.1 hj
      rw [hnews.get j hj1, hj2]
    obtain ⟨v1, w1, hr, hown, hg, _, hat⟩ := run_append_own_at (P := P) W base t o.type e i0 z size bytes ht hi hz0 hz1 hz2 hz hsz v n xs HO ad m c news hl hn' h1 (by simp only [maxLen]; omega) hbytes hbase
    unfold Oper.wp execOp
    simp only [ho, resolve, invoke, builtin, Sem.run_bind, Sem.run_pure, Result.andThen_ok, List.map_toArray, List.map_cons, List.map_nil, hs, hx, hr]
    refine h v1 w1 hown ((Below.refl _ _).grown hg hbase (own_base HO)) hg ?_
    rcases hat with hat | hat
    · exact .inl hat
    · exact .inr ⟨_, hat, Nat.le_refl _⟩

end

/-- the variable of a number -/
def nmN (m : Nat) : ByteArray := if m = 0 then ⟨#[97]⟩ else if m = 1 then ⟨#[98]⟩ else if m = 2 then ⟨#[99]⟩ else ⟨#[100]⟩
def nm (x : Int) : ByteArray := nmN (x % 4).toNat
def fN : ByteArray := ⟨#[102]⟩
def eN : ByteArray := ⟨#[]⟩
def raceC (s : ByteArray) (i : Nat) : List Value := [.string s, .string ⟨#[102]⟩, .int .i64 (i : Nat), .string ⟨#[]⟩, .int .i64 0]
def RaceIn (xs : List Value) (ns : List ByteArray) : Prop :=
  xs.length = ns.length * 5 ∧ ∀ i, ∀ h : i < ns.length, ∃ s1 x1 s2 x2, xs[i * 5]? = some (.string ns[i]) ∧ xs[i * 5 + 1]? = some (.string s1) ∧ xs[i * 5 + 2]? = some (.int .i64 x1) ∧ xs[i * 5 + 3]? = some (.string s2) ∧ xs[i * 5 + 4]? = some (.int .i64 x2)
theorem RaceIn.snoc {xs : List Value} {ns : List ByteArray} (h : RaceIn xs ns) (s : ByteArray) (k : Nat) : RaceIn (xs ++ raceC s k) (ns ++ [s]) := by
  obtain ⟨hl, hx⟩ := h
  refine ⟨by simp [raceC, hl]; omega, fun i hi => ?_⟩
  by_cases c : i < ns.length
  · obtain ⟨s1, x1, s2, x2, h0, h1, h2, h3, h4⟩ := hx i c
    refine ⟨s1, x1, s2, x2, ?_, ?_, ?_, ?_, ?_⟩
    · rw [List.getElem?_append_left (by omega), List.getElem_append_left c]; exact h0
    all_goals (rw [List.getElem?_append_left (by omega)]; assumption)
  · have e : i = ns.length := by simp at hi; omega
    subst e
    refine ⟨⟨#[102]⟩, (k : Nat), ⟨#[]⟩, 0, ?_, ?_, ?_, ?_, ?_⟩
    · rw [List.getElem?_append_right (by omega), hl, Nat.sub_self]; simp [raceC]
    · rw [List.getElem?_append_right (by omega), hl, Nat.add_sub_cancel_left]; rfl
    · rw [List.getElem?_append_right (by omega), hl, Nat.add_sub_cancel_left]; rfl
    · rw [List.getElem?_append_right (by omega), hl, Nat.add_sub_cancel_left]; rfl
    · rw [List.getElem?_append_right (by omega), hl, Nat.add_sub_cancel_left]; rfl
theorem RaceIn.nil : RaceIn [] [] := ⟨rfl, fun i hi => by simp at hi⟩
/-- while the findings are laid -/
structure FndSt (w W : World) (v : Value) (ns : List ByteArray) : Prop where
  hB : Below w.heap.size w W
  c2 : W.heap[w.heap.size]? = some (.cells #[.slice none 0 0, .slice none 0 0, .slice none 0 0] 48 (0, 0))
  c3 : W.heap[w.heap.size + 1]? = some (.cells #[v, .slice none 0 0, .slice none 0 0] 48 (0, 0))
  own : ∃ xs, W.ownsRow (w.heap.size + 2) 86 5 v ns.length xs ∧ RaceIn xs ns
  sz : w.heap.size + 2 ≤ W.heap.size
theorem info86 : (Try.prog.info? 86).map (fun i => (i.zero, i.size, i.bytes)) = some (some (.agg #[.string ⟨#[]⟩, .string ⟨#[]⟩, .int .i64 0, .string ⟨#[]⟩, .int .i64 0]), 5, 64) := by kernel_rfl
theorem FndSt.start (w : World) : FndSt w ((w.alloc (.cells #[.slice none 0 0, .slice none 0 0, .slice none 0 0] 48)).alloc (.cells #[.slice none 0 0, .slice none 0 0, .slice none 0 0] 48)) (.slice none 0 0) [] := by
  refine ⟨bl_alloc (bl_alloc (Below.refl _ _) _) _, ?_, ?_, ⟨[], own_nil _ _ _ _, RaceIn.nil⟩, by simp⟩
  · rw [Below.heap_alloc _ _ _ (by simp)]; exact heap_alloc_new w _
  · have := heap_alloc_new (w.alloc (.cells #[.slice none 0 0, .slice none 0 0, .slice none 0 0] 48)) (.cells #[.slice none 0 0, .slice none 0 0, .slice none 0 0] 48)
    simpa using this

theorem own_some {w : World} {base n e size : Nat} {v : Value} {cells : List Value} (h : w.ownsRow base e size v n cells) (hn : 0 < n) : ∃ g cap, v = .slice (some ⟨g, 0, none⟩) n cap ∧ n ≤ cap ∧ base ≤ g := by
  rcases h.2 with ⟨_, h2⟩ | ⟨g, cap, cur, h3, h4, h5, h6, _⟩
  · omega
  · exact ⟨g, cap, h3, h6, h4⟩
/-- the heap holds the two structs -/
def base_le (w wr : World) : Prop := w.heap.size + 2 ≤ wr.heap.size
theorem step_facts {w wr W w1 : World} {v : Value} {k : Nat} {ys : List Value} (y1 : wr.cell? ⟨w.heap.size + 1, 0, none⟩ = some v) (y2 : wr.frozen? ⟨w.heap.size + 1, 0, none⟩ = false) (hown : wr.ownsRow (w.heap.size + 2) 86 5 v k ys) (hbs : base_le w wr) (hb : Below wr.heap.size wr W) (hg : W.grownBy w1 v.ownBlock) :
    w1.cell? ⟨w.heap.size + 1, 0, none⟩ = some v ∧ w1.frozen? ⟨w.heap.size + 1, 0, none⟩ = false := by
  have e : w1.heap[w.heap.size + 1]? = wr.heap[w.heap.size + 1]? := by
    unfold base_le at hbs
    have hs := hb.size
    rw [hg.block _ (by omega) (fun h => by have := (hown.lt _ h.symm).1; omega), hb.block _ (by omega)]
  exact ⟨by rw [← y1]; simp [World.cell?, e], by rw [← y2]; simp [World.frozen?, e]⟩

theorem FndSt.step {w wr W w1 : World} {v v1 : Value} {ns : List ByteArray} {ys : List Value} {s : ByteArray} {k : Nat} (hF : FndSt w wr v ns) (hown : wr.ownsRow (w.heap.size + 2) 86 5 v k ys) (hri : RaceIn ys ns) (hk : ns.length = k) (hb : Below wr.heap.size wr W)
    (ho1 : w1.ownsRow (w.heap.size + 2) 86 5 v1 (k + 1) (ys ++ raceC s k)) (hg : W.grownBy w1 v.ownBlock) : FndSt w (w1.setCell ⟨w.heap.size + 1, 0, none⟩ v1) v1 (ns ++ [s]) := by
  have hs := hF.sz
  have hs2 := hb.size
  have hs3 := hg.size
  have hB0 := hF.hB.size
  have hBW : Below w.heap.size w W := bl_then hF.hB hB0 hb
  have hne : ∀ j, j < w.heap.size + 2 → some j ≠ v.ownBlock := fun j hj e => by have := (hown.lt j e.symm).1; omega
  have hbl : ∀ j, j < w.heap.size + 2 → w1.heap[j]? = wr.heap[j]? := fun j hj => by rw [hg.block j (by omega) (hne j hj), hb.block j (by omega)]
  have e3 : w1.heap[w.heap.size + 1]? = some (.cells #[v, .slice none 0 0, .slice none 0 0] 48 (0, 0)) := by rw [hbl _ (by omega)]; exact hF.c3
  have e2 : w1.heap[w.heap.size]? = some (.cells #[.slice none 0 0, .slice none 0 0, .slice none 0 0] 48 (0, 0)) := by rw [hbl _ (by omega)]; exact hF.c2
  have hst : w1.setCell ⟨w.heap.size + 1, 0, none⟩ v1 = w1.setRow (w.heap.size + 1) #[v1, .slice none 0 0, .slice none 0 0] := by
    rw [setCell_eq_setRow w1 (w.heap.size + 1) 0 _ 48 (0, 0) _ e3]; rfl
  have hB1 : Below w.heap.size w w1 := hBW.grown hg (by omega) (fun j hj => by have := (hown.lt j hj).1; omega)
  refine ⟨hB1.setCell (by simp) _, ?_, ?_, ⟨ys ++ raceC s k, ?_, ?_⟩, ?_⟩
  · rw [hst, setRow_other _ _ _ _ (by omega)]; exact e2
  · rw [hst]; exact setRow_heap w1 _ _ _ 48 _ e3
  · rw [List.length_append, hk]
    refine ho1.kept (row := some (w.heap.size + 1)) ⟨rfl, rfl, rfl, by rw [hst]; simp [World.setRow], fun j hj hj2 => ?_⟩ ?_
    · rw [hst, setRow_other _ _ _ _ (fun e => hj2 (by rw [e]))]
    · refine .inr fun e => ?_
      have := (ho1.lt _ e).1
      omega
  · exact hri.snoc s k
  · rw [hst]; simp [World.setRow]; omega

theorem set3 (W : World) (g : Nat) (a b c v1 v2 v3 : Value) (t : TypeId) (h : W.heap[g]? = some (.cells #[a, b, c] t (0, 0))) :
    let W3 := ((W.setCell ⟨g, 0, none⟩ v1).setCell ⟨g, 1, none⟩ v2).setCell ⟨g, 2, none⟩ v3
    W3.heap[g]? = some (.cells #[v1, v2, v3] t (0, 0)) ∧ (∀ j, j ≠ g → W3.heap[j]? = W.heap[j]?) ∧ W3.heap.size = W.heap.size := by
  intro W3
  have e1 : W.setCell ⟨g, 0, none⟩ v1 = W.setRow g #[v1, b, c] := by rw [setCell_eq_setRow W g 0 _ t (0, 0) _ h]; rfl
  have h1 : (W.setRow g #[v1, b, c]).heap[g]? = some (.cells #[v1, b, c] t (0, 0)) := setRow_heap W _ _ _ t _ h
  have e2 : (W.setRow g #[v1, b, c]).setCell ⟨g, 1, none⟩ v2 = (W.setRow g #[v1, b, c]).setRow g #[v1, v2, c] := by rw [setCell_eq_setRow _ g 1 _ t (0, 0) _ h1]; rfl
  have h2 : ((W.setRow g #[v1, b, c]).setRow g #[v1, v2, c]).heap[g]? = some (.cells #[v1, v2, c] t (0, 0)) := setRow_heap _ _ _ _ t _ h1
  have e3 : ((W.setRow g #[v1, b, c]).setRow g #[v1, v2, c]).setCell ⟨g, 2, none⟩ v3 = ((W.setRow g #[v1, b, c]).setRow g #[v1, v2, c]).setRow g #[v1, v2, v3] := by rw [setCell_eq_setRow _ g 2 _ t (0, 0) _ h2]; rfl
  have e : W3 = ((W.setRow g #[v1, b, c]).setRow g #[v1, v2, c]).setRow g #[v1, v2, v3] := by show ((W.setCell ⟨g, 0, none⟩ v1).setCell ⟨g, 1, none⟩ v2).setCell ⟨g, 2, none⟩ v3 = _; rw [e1, e2, e3]
  rw [e]
  refine ⟨setRow_heap _ _ _ _ t _ h2, fun j hj => ?_, by simp [World.setRow]⟩
  rw [setRow_other _ _ _ _ hj, setRow_other _ _ _ _ hj, setRow_other _ _ _ _ hj]
theorem RaceIn.race {W : World} {base : Nat} {v : Value} {xs : List Value} {ns : List ByteArray} (h : RaceIn xs ns) (ho : W.ownsRow base 86 5 v ns.length xs) : ∃ A c, v = .slice A ns.length c ∧ ns.length ≤ c ∧ c ≤ 9223372036854775807 ∧ RaceR W A ns := by
  obtain ⟨A, c, hv, h1, h2, h3, h4⟩ := Rd.own ho
  refine ⟨A, c, hv, h1, h2, fun i hi => ?_⟩
  obtain ⟨g, cap, hv2, -, -⟩ := own_some ho (by omega)
  rw [hv] at hv2
  cases hv2
  obtain ⟨hl, hx⟩ := h
  obtain ⟨s1, x1, s2, x2, q0, q1, q2, q3, q4⟩ := hx i hi
  have hc := h3.cells
  simp only [add_plain] at hc
  refine ⟨_, s1, x1, s2, x2, rfl, ?_, ?_, ?_, ?_, ?_⟩
  · rw [add_plain]; exact hc _ _ q0
  · rw [add_plain]; exact hc _ _ q1
  · rw [add_plain]; exact hc _ _ q2
  · rw [add_plain]; exact hc _ _ q3
  · rw [add_plain]; exact hc _ _ q4
theorem take_min (xs : List Int) (k : Nat) (h : k = min xs.length 30) : (xs.take k).map nm = (xs.map nm).take 30 := by
  rw [List.map_take, List.take_eq_take_iff, List.length_map]
  omega
/-- the findings stand in the result's struct -/
theorem FndSt.fin {w wr : World} {A : Option Addr} {c1 k : Nat} {ns : List ByteArray} (hF : FndSt w wr (.slice A k c1) ns) (hk : ns.length = k) :
    let W3 := ((wr.setCell ⟨w.heap.size, 0, none⟩ (.slice A k c1)).setCell ⟨w.heap.size, 1, none⟩ (.slice none 0 0)).setCell ⟨w.heap.size, 2, none⟩ (.slice none 0 0)
    W3.heap[w.heap.size]? = some (.cells #[.slice A k c1, .slice none 0 0, .slice none 0 0] 48 (0, 0)) ∧ RaceR W3 A ns ∧ k ≤ c1 ∧ c1 ≤ 9223372036854775807 ∧ Below w.heap.size w W3 := by
  intro W3
  obtain ⟨hg, ho, hz⟩ := set3 wr w.heap.size _ _ _ (.slice A k c1) (.slice none 0 0) (.slice none 0 0) 48 hF.c2
  obtain ⟨ys, hown, hri⟩ := hF.own
  have hB : Below w.heap.size w W3 := ((hF.hB.setCell (by simp) _).setCell (by simp) _).setCell (by simp) _
  have hown3 : W3.ownsRow (w.heap.size + 2) 86 5 (.slice A k c1) ns.length ys := by
    refine hown.kept (row := some w.heap.size) ⟨rfl, rfl, rfl, Nat.le_of_eq hz.symm, fun j hj hj2 => ho j (fun e => hj2 (by rw [e]))⟩ (.inr fun e => ?_)
    have := (hown.lt _ e).1
    omega
  obtain ⟨A', c', hv, h1, h2, hR⟩ := hri.race hown3
  cases hv
  exact ⟨hg, hR, by omega, h2, hB⟩

set_option maxHeartbeats 4000000 in
set_option maxRecDepth 100000 in
theorem races_any (w : World) (A : Option Addr) (c : Nat) (xs : List Int) (hr : Rd w A (ints xs)) (hn : xs.length ≤ c) (hc : c ≤ 9223372036854775807) :
    Calls Try.prog 25 #[.slice A xs.length c] w fun e w' => ∃ B d ns, e = .returned (.agg #[.slice B ns.length d, .slice none 0 0, .slice none 0 0]) ∧ RaceR w' B ns ∧ ns.length ≤ d ∧ d ≤ 9223372036854775807 ∧ ns = (xs.take 30).map nm ∧ Below w.heap.size w w' := by
  have hr' := Lib.hid hr
  clear hr
  go_enter Try.func25, Try.ntmps25
  go_wp2_with fail
  go_loopw [4] (fun i wr => ∃ (k : Nat) (v : Value), i = .int .i64 (k : Nat) ∧ k ≤ xs.length ∧ k ≤ 30 ∧ FndSt w wr v ((xs.take k).map nm)) (fun i _ => 30 - (intOf i).toNat)
  case atStart => exact ⟨0, _, rfl, Nat.zero_le _, Nat.zero_le _, FndSt.start _⟩
  case round =>
    obtain ⟨k, v, rfl, hk, hk3, hF⟩ := hrel
    by_cases hlt : k < xs.length ∧ k < 30
    · obtain ⟨h1, h2⟩ := hlt
      have hd1 : decide (k < xs.length) = true := by simpa using h1
      have hd1b : decide ((k : Int) < (xs.length : Int)) = true := by simp; omega
      have hd2 : decide ((k : Int) < 30) = true := by simp; omega
      obtain ⟨ad, x, rfl, hx, hxe⟩ := (hr'.out.below hF.hB).at k h1
      obtain ⟨m, hm, hmi⟩ : ∃ m : Nat, m < 4 ∧ x % 4 = (m : Int) := ⟨(x % 4).toNat, by omega, by omega⟩
      have hcs : (wr.alloc (.cells #[.string ⟨#[97]⟩, .string ⟨#[98]⟩, .string ⟨#[99]⟩, .string ⟨#[100]⟩] 9)).cell? ⟨wr.heap.size, m, none⟩ = some (.string (nmN m)) := by
        rw [cell_of_row _ wr.heap.size m _ 9 (0, 0) (heap_alloc_new wr _)]
        rcases (by omega : m = 0 ∨ m = 1 ∨ m = 2 ∨ m = 3) with rfl | rfl | rfl | rfl <;> rfl
      have y1 : wr.cell? ⟨w.heap.size + 1, 0, none⟩ = some v := by rw [cell_of_row _ _ 0 _ 48 (0, 0) hF.c3]; rfl
      have y2 : wr.frozen? ⟨w.heap.size + 1, 0, none⟩ = false := by simp [World.frozen?, hF.c3]
      have y3 : (wr.alloc (.cells #[.string ⟨#[97]⟩, .string ⟨#[98]⟩, .string ⟨#[99]⟩, .string ⟨#[100]⟩] 9)).cell? ⟨w.heap.size + 1, 0, none⟩ = some v := bl_cell (bl_alloc (Below.refl _ _) _) y1
      have y4 : ((wr.alloc (.cells #[.string ⟨#[97]⟩, .string ⟨#[98]⟩, .string ⟨#[99]⟩, .string ⟨#[100]⟩] 9)).alloc (.cells #[.string (nmN m), .string ⟨#[102]⟩, .int .i64 (k : Nat), .string ⟨#[]⟩, .int .i64 0] 86)).cell? ⟨w.heap.size + 1, 0, none⟩ = some v := bl_cell (bl_alloc (bl_alloc (Below.refl _ _) _) _) y1
      have hxa := bl_cell (bl_alloc (Below.refl wr.heap.size wr) (.cells #[.string ⟨#[97]⟩, .string ⟨#[98]⟩, .string ⟨#[99]⟩, .string ⟨#[100]⟩] 9)) hx
      have k1 : (0 : Int) ≤ (k : Int) := by omega
      have k2 : (k : Int) < (xs.length : Int) := by omega
      have k3 : (0 : Int) ≤ (m : Int) := by omega
      have k4 : (m : Int) < 4 := by omega
      obtain ⟨ys, hown, hri⟩ := hF.own
      have hlk : ((xs.take k).map nm).length = k := by simp; omega
      rw [hlk] at hown
      replace hown := Lib.hid hown
      replace hri := Lib.hid hri
      replace hlk := Lib.hid hlk
      have hFs := hF.sz
      have hrn := rd_new (wr.alloc (.cells #[.string ⟨#[97]⟩, .string ⟨#[98]⟩, .string ⟨#[99]⟩, .string ⟨#[100]⟩] 9)) (raceC (nmN m) k) 86
      rw [show (wr.alloc (.cells #[.string ⟨#[97]⟩, .string ⟨#[98]⟩, .string ⟨#[99]⟩, .string ⟨#[100]⟩] 9)).heap.size = wr.heap.size + 1 by simp] at hrn
      replace hrn := Lib.hid hrn
      replace hF := Lib.hid hF
      replace hxe := Lib.hid hxe
      go_upto_region 5 with fail
      have hbs : base_le w wr := hFs
      go_region_law (first
        | (refine step_app (w.heap.size + 2) rfl _ _ 44 86 (.agg #[.string ⟨#[]⟩, .string ⟨#[]⟩, .int .i64 0, .string ⟨#[]⟩, .int .i64 0]) 5 64 rfl Try.underlying44 info86 rfl (by decide) (by decide) v k ys rfl (own_below hown.out (by repeat (with_reducible (first | exact Below.refl _ _ | apply bl_alloc | apply Below.drew)))) (by simp; omega) (some ⟨wr.heap.size + 1, 0, none⟩) 1 1 (raceC (nmN m) k) rfl rfl hrn.out (fun e => by cases e) (by simp [raceC, Value.oneCell']) (by omega) ?_; intro v1 w1 ho1 hb1 hg1 hat1; obtain ⟨z1, z2⟩ := step_facts y1 y2 hown.out hbs (by repeat (with_reducible (first | exact Below.refl _ _ | apply bl_alloc | apply Below.drew))) hg1; obtain ⟨g1, cap1, rfl, hcap1, hgb1⟩ := own_some ho1 (by omega); replace ho1 := Lib.hid ho1; replace hb1 := Lib.hid hb1; replace hg1 := Lib.hid hg1; replace hat1 := Lib.hid hat1)
        | (go_simp; go_wp2_with (go_at_call 18; with_reducible refine (within_any _ 4 _ (by omega) (by omega)).mono ?_; rintro e' w' ⟨rfl, rfl⟩; rw [hmi])))
      all_goals
        (go_wp2_with fail
         have hst := hF.out.step hown.out hri.out hlk.out (by repeat (with_reducible (first | exact Below.refl _ _ | apply bl_alloc | apply Below.drew))) ho1.out hg1.out
         refine ⟨⟨k + 1, .slice (some ⟨g1, 0, none⟩) (k + 1) cap1, by go_num, by omega, by omega, ?_⟩, by simp [intOf]; omega⟩
         rw [show (xs.take (k + 1)).map nm = (xs.take k).map nm ++ [nmN m] by rw [List.take_succ_eq_append_getElem h1, List.map_append, List.map_cons, List.map_nil, ← hxe.out, nm, hmi]; rfl]
         exact hst)
    · have hk2 : k = min xs.length 30 := by omega
      have hF' := Lib.hid hF
      obtain ⟨ys, hown, hri⟩ := hF.own
      have hc2 := hF.c2
      have hc3 := hF.c3
      have hlk : ((xs.take k).map nm).length = k := by simp; omega
      obtain ⟨A1, c1, rfl, hn1, hc1, hr1, hA1⟩ := Rd.own hown
      rw [hlk] at hn1 hown
      have y1 : wr.cell? ⟨w.heap.size + 1, 0, none⟩ = some (.slice A1 k c1) := by rw [cell_of_row _ _ 0 _ 48 (0, 0) hc3, hlk]; rfl
      have y2 : wr.cell? ⟨w.heap.size + 1, 1, none⟩ = some (.slice none 0 0) := by rw [cell_of_row _ _ 1 _ 48 (0, 0) hc3]; rfl
      have y3 : wr.cell? ⟨w.heap.size + 1, 2, none⟩ = some (.slice none 0 0) := by rw [cell_of_row _ _ 2 _ 48 (0, 0) hc3]; rfl
      have z1 : wr.cell? ⟨w.heap.size, 0, none⟩ = some (.slice none 0 0) := by rw [cell_of_row _ _ 0 _ 48 (0, 0) hc2]; rfl
      have z2 : wr.cell? ⟨w.heap.size, 1, none⟩ = some (.slice none 0 0) := by rw [cell_of_row _ _ 1 _ 48 (0, 0) hc2]; rfl
      have z3 : wr.cell? ⟨w.heap.size, 2, none⟩ = some (.slice none 0 0) := by rw [cell_of_row _ _ 2 _ 48 (0, 0) hc2]; rfl
      have f0 : wr.frozen? ⟨w.heap.size, 0, none⟩ = false := by simp [World.frozen?, hc2]
      have f1 : wr.frozen? ⟨w.heap.size, 1, none⟩ = false := by simp [World.frozen?, hc2]
      have f2 : wr.frozen? ⟨w.heap.size, 2, none⟩ = false := by simp [World.frozen?, hc2]
      have hb0 : Hid (Below w.heap.size w wr) := Lib.hid hF'.out.hB
      have hsz := hF.sz
      rw [hlk] at hF
      replace hF := Lib.hid hF
      replace hk2 := Lib.hid hk2
      replace hlk := Lib.hid hlk
      replace hr1 := Lib.hid hr1
      replace hri := Lib.hid hri
      replace hA1 := Lib.hid hA1
      replace hown := Lib.hid hown
      replace hc2 := Lib.hid hc2
      replace hc3 := Lib.hid hc3
      have hd : decide (k < xs.length) = false ∨ (decide (k < xs.length) = true ∧ decide ((k : Int) < 30) = false) := by
        by_cases e : k < xs.length
        · exact .inr ⟨by simpa using e, by simp; omega⟩
        · exact .inl (by simpa using e)
      rcases hd with hd | ⟨hd, hd3⟩
      · have hd2 : decide ((k : Int) < (xs.length : Int)) = false := by simp at hd; simp; omega
        go_wp2_with fail
        obtain ⟨q1, q2, q3, q4, q5⟩ := hF.out.fin hlk.out
        refine bodyPost_ret (v := .agg #[.slice A1 k c1, .slice none 0 0, .slice none 0 0]) (res_c rfl _ _ w.heap.size 48 _ (0, 0) _ rfl q1 Try.underlying48 rfl (by kernel_rfl)) rfl ⟨A1, c1, (xs.take k).map nm, by rw [hlk.out], q2, by rw [hlk.out]; exact q3, q4, ?_, q5⟩
        rw [take_min xs k hk2.out, List.map_take]
      · have hd2 : decide ((k : Int) < (xs.length : Int)) = true := by simp at hd; simp; omega
        go_wp2_with fail
        obtain ⟨q1, q2, q3, q4, q5⟩ := hF.out.fin hlk.out
        refine bodyPost_ret (v := .agg #[.slice A1 k c1, .slice none 0 0, .slice none 0 0]) (res_c rfl _ _ w.heap.size 48 _ (0, 0) _ rfl q1 Try.underlying48 rfl (by kernel_rfl)) rfl ⟨A1, c1, (xs.take k).map nm, by rw [hlk.out], q2, by rw [hlk.out]; exact q3, q4, ?_, q5⟩
        rw [take_min xs k hk2.out, List.map_take]
end Go.Proofs.Ytdhklfbelplbcaa
