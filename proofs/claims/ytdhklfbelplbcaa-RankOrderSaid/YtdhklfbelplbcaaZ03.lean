/-
  Raw statements and statements, as trees in memory; what becomes of them.
  The walks: how many raw statements, the statements out of them.
-/
import Derived.Test.YtdhklfbelplbcaaZ02
namespace Go.Proofs.Ytdhklfbelplbcaa
set_option linter.unusedVariables false
set_option linter.unusedSimpArgs false
open Go.RowKit

/-- a row of raw statements -/
inductive RT where
  | nil : RT
  | cons (k n : Int) (a b r : RT) : RT
namespace RT
def len : RT → Nat
  | nil => 0
  | cons _ _ _ _ r => r.len + 1
def cnt : RT → Nat
  | nil => 0
  | cons _ _ a b r => 1 + a.cnt + b.cnt + r.cnt
theorem len_le : ∀ t : RT, t.len ≤ t.cnt
  | nil => Nat.le_refl _
  | cons _ _ a b r => by have := len_le r; unfold len cnt; omega
end RT
/-! ### what of memory is seen -/
/-- all that the one sees the other sees alike -/
def Le (f g : Addr → Option Value) : Prop := ∀ a v, f a = some v → g a = some v
theorem Le.refl (f : Addr → Option Value) : Le f f := fun _ _ h => h
theorem Le.trans {f g h : Addr → Option Value} (a : Le f g) (b : Le g h) : Le f h := fun x v e => b x v (a x v e)
open Classical in
/-- the cells of some blocks alone -/
noncomputable def vis (P : Nat → Prop) (w : World) : Addr → Option Value := fun a => if P a.block then w.cell? a else none
theorem vis_of {P : Nat → Prop} {w : World} {a : Addr} {v : Value} (hp : P a.block) (h : w.cell? a = some v) : vis P w a = some v := by unfold vis; rw [if_pos hp]; exact h
theorem vis_at {P : Nat → Prop} {w : World} {a : Addr} {v : Value} (h : vis P w a = some v) : P a.block ∧ w.cell? a = some v := by
  unfold vis at h
  split at h
  · exact ⟨by assumption, h⟩
  · cases h
theorem vis_le (P : Nat → Prop) (w : World) : Le (vis P w) w.cell? := fun a v h => (vis_at h).2
theorem vis_mono {P Q : Nat → Prop} (w : World) (h : ∀ b, b < w.heap.size → P b → Q b) : Le (vis P w) (vis Q w) := fun a v e => by
  have := vis_at e
  exact vis_of (h _ (World.block_lt_of_cell? w a this.2) this.1) this.2
theorem cell_le {w w' : World} (hb : Below w.heap.size w w') : Le w.cell? w'.cell? := fun a v h => bl_cell hb h
theorem vis_below {P : Nat → Prop} {w w' : World} (hb : Below w.heap.size w w') : Le (vis P w) (vis P w') := fun a v e => vis_of (vis_at e).1 (bl_cell hb (vis_at e).2)
theorem cell_block {w w' : World} {a : Addr} (h : w'.heap[a.block]? = w.heap[a.block]?) : w'.cell? a = w.cell? a := by
  unfold World.cell?; rw [h]
theorem vis_grown {P : Nat → Prop} {w w' : World} {row : Option Nat} (hg : w.grownBy w' row) (hne : ∀ b, b < w.heap.size → P b → row ≠ some b) : Le (vis P w) (vis P w') := fun a v e => by
  obtain ⟨h1, h2⟩ := vis_at e
  have hlt := World.block_lt_of_cell? w a h2
  refine vis_of h1 ?_
  rw [cell_block (hg.block _ hlt (fun e => hne _ hlt h1 e.symm))]
  exact h2

/-- from place i on these raw statements lie -/
def RdRT (f : Addr → Option Value) : RT → Option Addr → Nat → Prop
  | .nil, _, _ => True
  | .cons k n a b r, A, i => (∃ ad A1 c1 A2 c2, A = some ad ∧ f (ad.add (i * 4)) = some (.int .i64 k) ∧ f ⟨(ad.add (i * 4)).block, (ad.add (i * 4)).off + 1, none⟩ = some (.int .i64 n) ∧
      f ⟨(ad.add (i * 4)).block, (ad.add (i * 4)).off + 2, none⟩ = some (.slice A1 a.len c1) ∧ f ⟨(ad.add (i * 4)).block, (ad.add (i * 4)).off + 3, none⟩ = some (.slice A2 b.len c2) ∧
      a.len ≤ c1 ∧ c1 ≤ 9223372036854775807 ∧ b.len ≤ c2 ∧ c2 ≤ 9223372036854775807 ∧ RdRT f a A1 0 ∧ RdRT f b A2 0) ∧ RdRT f r A (i + 1)
theorem RdRT.mono {f g : Addr → Option Value} (hb : Le f g) : ∀ (t : RT) (A : Option Addr) (i : Nat), RdRT f t A i → RdRT g t A i := by
  intro t
  induction t with
  | nil => intro A i _; trivial
  | cons k n a b r iha ihb ihr =>
    intro A i h
    obtain ⟨⟨ad, A1, c1, A2, c2, hA, h0, h1, h2, h3, l1, l2, l3, l4, ha, hbb⟩, hr⟩ := h
    exact ⟨⟨ad, A1, c1, A2, c2, hA, hb _ _ h0, hb _ _ h1, hb _ _ h2, hb _ _ h3, l1, l2, l3, l4, iha _ _ ha, ihb _ _ hbb⟩, ihr _ _ hr⟩
theorem RdRT.below {w w' : World} (hb : Below w.heap.size w w') (t : RT) (A : Option Addr) (i : Nat) (h : RdRT w.cell? t A i) : RdRT w'.cell? t A i := RdRT.mono (cell_le hb) t A i h

/-- a row of statements -/
inductive St where
  | nil : St
  | cons (k : Int) (nm : ByteArray) (a b r : St) : St
namespace St
def len : St → Nat
  | nil => 0
  | cons _ _ _ _ r => r.len + 1
def cnt : St → Nat
  | nil => 0
  | cons _ _ a b r => 1 + a.cnt + b.cnt + r.cnt
theorem len_le : ∀ t : St, t.len ≤ t.cnt
  | nil => Nat.le_refl _
  | cons _ _ a b r => by have := len_le r; unfold len cnt; omega
def app : St → St → St
  | nil, t => t
  | cons k nm a b r, t => cons k nm a b (r.app t)
def snoc (t : St) (k : Int) (nm : ByteArray) (a b : St) : St := t.app (cons k nm a b nil)
theorem app_nil : ∀ t : St, t.app nil = t
  | nil => rfl
  | cons k nm a b r => by unfold app; rw [app_nil r]
theorem snoc_app (t : St) (k : Int) (nm : ByteArray) (a b r : St) : (t.snoc k nm a b).app r = t.app (cons k nm a b r) := by
  unfold snoc
  induction t with
  | nil => rfl
  | cons k' nm' a' b' r' _ _ ih => show cons _ _ _ _ _ = cons _ _ _ _ _; rw [ih]
theorem len_app : ∀ t s : St, (t.app s).len = t.len + s.len
  | nil, s => by simp [app, len]
  | cons k nm a b r, s => by show (r.app s).len + 1 = r.len + 1 + s.len; rw [len_app r s]; omega
end St
/-- from place i on these statements lie -/
def RdSt (f : Addr → Option Value) : St → Option Addr → Nat → Prop
  | .nil, _, _ => True
  | .cons k nm a b r, A, i => (∃ ad x A1 c1 A2 c2, A = some ad ∧ f (ad.add (i * 5)) = some (.int .i64 k) ∧ f ⟨(ad.add (i * 5)).block, (ad.add (i * 5)).off + 1, none⟩ = some (.int .i64 x) ∧ f ⟨(ad.add (i * 5)).block, (ad.add (i * 5)).off + 2, none⟩ = some (.string nm) ∧
      f ⟨(ad.add (i * 5)).block, (ad.add (i * 5)).off + 3, none⟩ = some (.slice A1 a.len c1) ∧ f ⟨(ad.add (i * 5)).block, (ad.add (i * 5)).off + 4, none⟩ = some (.slice A2 b.len c2) ∧
      a.len ≤ c1 ∧ c1 ≤ 9223372036854775807 ∧ b.len ≤ c2 ∧ c2 ≤ 9223372036854775807 ∧ RdSt f a A1 0 ∧ RdSt f b A2 0) ∧ RdSt f r A (i + 1)
theorem RdSt.mono {f g : Addr → Option Value} (hb : Le f g) : ∀ (t : St) (A : Option Addr) (i : Nat), RdSt f t A i → RdSt g t A i := by
  intro t
  induction t with
  | nil => intro A i _; trivial
  | cons k n a b r iha ihb ihr =>
    intro A i h
    obtain ⟨⟨ad, x, A1, c1, A2, c2, hA, h0, h1, h2, h3, h4, l1, l2, l3, l4, ha, hbb⟩, hr⟩ := h
    exact ⟨⟨ad, x, A1, c1, A2, c2, hA, hb _ _ h0, hb _ _ h1, hb _ _ h2, hb _ _ h3, hb _ _ h4, l1, l2, l3, l4, iha _ _ ha, ihb _ _ hbb⟩, ihr _ _ hr⟩
theorem RdSt.below {w w' : World} (hb : Below w.heap.size w w') (t : St) (A : Option Addr) (i : Nat) (h : RdSt w.cell? t A i) : RdSt w'.cell? t A i := RdSt.mono (cell_le hb) t A i h
/-- a slice of statements -/
def SlSt (f : Addr → Option Value) (t : St) (v : Value) : Prop := ∃ A c, v = .slice A t.len c ∧ t.len ≤ c ∧ c ≤ 9223372036854775807 ∧ RdSt f t A 0
theorem SlSt.mono {f g : Addr → Option Value} {t : St} {v : Value} (hb : Le f g) (h : SlSt f t v) : SlSt g t v := by
  obtain ⟨A, c, h1, h2, h3, h4⟩ := h
  exact ⟨A, c, h1, h2, h3, RdSt.mono hb _ _ _ h4⟩
theorem SlSt.nil (f : Addr → Option Value) : SlSt f .nil (.slice none 0 0) := ⟨none, 0, rfl, Nat.le_refl _, by omega, trivial⟩
/-- these cells are these statements -/
def StIn (f : Addr → Option Value) : St → List Value → Prop
  | .nil, xs => xs = []
  | .cons k nm a b r, xs => ∃ x va vb ys, xs = [.int .i64 k, .int .i64 x, .string nm, va, vb] ++ ys ∧ SlSt f a va ∧ SlSt f b vb ∧ StIn f r ys
theorem StIn.mono {f g : Addr → Option Value} (hb : Le f g) : ∀ (t : St) (xs : List Value), StIn f t xs → StIn g t xs := by
  intro t
  induction t with
  | nil => intro xs h; exact h
  | cons k n a b r iha ihb ihr =>
    intro xs h
    obtain ⟨x, va, vb, ys, h1, h2, h3, h4⟩ := h
    exact ⟨x, va, vb, ys, h1, h2.mono hb, h3.mono hb, ihr _ h4⟩
theorem StIn.snoc {f : Addr → Option Value} {k : Int} {nm : ByteArray} {a b : St} {x : Int} {va vb : Value} (ha : SlSt f a va) (hb : SlSt f b vb) : ∀ (t : St) (xs : List Value), StIn f t xs → StIn f (t.snoc k nm a b) (xs ++ [.int .i64 k, .int .i64 x, .string nm, va, vb]) := by
  intro t
  induction t with
  | nil => intro xs h; have h' : xs = [] := h; subst h'; exact ⟨x, va, vb, [], by simp, ha, hb, rfl⟩
  | cons k' n' a' b' r' _ _ ihr =>
    intro xs h
    obtain ⟨x', va', vb', ys, h1, h2, h3, h4⟩ := h
    exact ⟨x', va', vb', _, by rw [h1, List.append_assoc], h2, h3, ihr _ h4⟩
theorem StIn.len {f : Addr → Option Value} : ∀ (t : St) (xs : List Value), StIn f t xs → xs.length = t.len * 5 := by
  intro t
  induction t with
  | nil => intro xs h; have h' : xs = [] := h; subst h'; rfl
  | cons k' n' a' b' r' _ _ ihr =>
    intro xs h
    obtain ⟨x', va', vb', ys, h1, h2, h3, h4⟩ := h
    have := ihr _ h4
    rw [h1, List.length_append, this]
    simp only [List.length_cons, List.length_nil, St.len]
    omega
theorem StIn.rd {f : Addr → Option Value} {g : Nat} (cells : List Value) (hc : ∀ j v, cells[j]? = some v → f ⟨g, j, none⟩ = some v) : ∀ (t : St) (xs pre : List Value) (i : Nat), cells = pre ++ xs → pre.length = i * 5 → StIn f t xs → RdSt f t (some ⟨g, 0, none⟩) i := by
  intro t
  induction t with
  | nil => intro xs pre i _ _ _; trivial
  | cons k' n' a' b' r' _ _ ihr =>
    intro xs pre i e hl h
    obtain ⟨x', va', vb', ys, h1, ⟨A1, c1, rfl, l1, l2, q1⟩, ⟨A2, c2, rfl, l3, l4, q2⟩, h4⟩ := h
    subst h1
    have hat : ∀ j v, [Value.int .i64 k', .int .i64 x', .string n', .slice A1 a'.len c1, .slice A2 b'.len c2][j]? = some v → f ⟨g, i * 5 + j, none⟩ = some v := by
      intro j v hj
      have hj5 : j < 5 := by have := (List.getElem?_eq_some_iff.1 hj).1; simpa using this
      exact hc (i * 5 + j) v (by rw [e, List.getElem?_append_right (by omega), hl, Nat.add_sub_cancel_left, List.getElem?_append_left (by simpa using hj5)]; exact hj)
    refine ⟨⟨⟨g, 0, none⟩, x', A1, c1, A2, c2, rfl, ?_, ?_, ?_, ?_, ?_, l1, l2, l3, l4, q1, q2⟩, ihr ys (pre ++ [.int .i64 k', .int .i64 x', .string n', .slice A1 a'.len c1, .slice A2 b'.len c2]) (i + 1) (by rw [e, List.append_assoc]) (by simp [hl]; omega) h4⟩
    · rw [add_plain]; exact hat 0 _ rfl
    · rw [add_plain]; exact hat 1 _ rfl
    · rw [add_plain]; exact hat 2 _ rfl
    · rw [add_plain]; exact hat 3 _ rfl
    · rw [add_plain]; exact hat 4 _ rfl
theorem own_some {w : World} {base n e size : Nat} {v : Value} {cells : List Value} (h : w.ownsRow base e size v n cells) (hn : 0 < n) : ∃ g cap, v = .slice (some ⟨g, 0, none⟩) n cap ∧ n ≤ cap ∧ base ≤ g := by
  rcases h.2 with ⟨_, h2⟩ | ⟨g, cap, cur, h3, h4, h5, h6, _⟩
  · omega
  · exact ⟨g, cap, h3, h6, h4⟩
/-- a row of the call's own is seen where its block is -/
theorem own_vis {w : World} {base n e size g cap : Nat} {cells : List Value} {P : Nat → Prop} (h : w.ownsRow base e size (.slice (some ⟨g, 0, none⟩) n cap) n cells) (hp : P g) : ∀ j v, cells[j]? = some v → vis P w ⟨g, j, none⟩ = some v := by
  intro j v hj
  obtain ⟨A, c, hv, -, -, hr, -⟩ := Rd.own h
  cases hv
  have := hr.cells j v hj
  rw [add_plain] at this
  exact vis_of hp this
theorem StIn.sl {w : World} {base : Nat} {v : Value} {xs : List Value} {t : St} {P : Nat → Prop} (ho : w.ownsRow base 100 5 v t.len xs) (hP : ∀ b, base ≤ b → P b) (h : StIn (vis P w) t xs) : SlSt (vis P w) t v := by
  obtain ⟨A, c, hv, h1, h2, h3, h4⟩ := Rd.own ho
  cases t with
  | nil => exact ⟨A, c, hv, h1, h2, trivial⟩
  | cons k nm a b r =>
    obtain ⟨g, cap, hv2, -, hg⟩ := own_some ho (by simp [St.len])
    rw [hv2] at ho
    refine ⟨_, cap, hv2, ?_, ?_, StIn.rd xs (own_vis ho (hP g hg)) _ xs [] 0 rfl rfl h⟩
    · rw [hv] at hv2; cases hv2; exact h1
    · rw [hv] at hv2; cases hv2; exact h2

/-! ### names -/
def nm1 (x : Nat) : ByteArray := ⟨#[UInt8.ofNat x]⟩
def fnN (j : Nat) : ByteArray := if j = 0 then ⟨#[109, 97, 105, 110]⟩ else if j = 1 then ⟨#[102]⟩ else if j = 2 then ⟨#[103]⟩ else ⟨#[104]⟩
def vrN (j : Nat) : ByteArray := if j = 0 then ⟨#[120]⟩ else if j = 1 then ⟨#[121]⟩ else ⟨#[122]⟩
def lkN (j : Nat) : ByteArray := if j = 0 then ⟨#[108]⟩ else if j = 1 then ⟨#[109]⟩ else ⟨#[110]⟩
/-- the names of calls: f, g, h, main -/
def clN (j : Nat) : ByteArray := if j = 0 then ⟨#[102]⟩ else if j = 1 then ⟨#[103]⟩ else if j = 2 then ⟨#[104]⟩ else ⟨#[109, 97, 105, 110]⟩
def FN (s : ByteArray) : Prop := ∃ j, j < 4 ∧ s = fnN j
theorem clN_fn (j : Nat) (h : j < 4) : FN (clN j) := by
  rcases (by omega : j = 0 ∨ j = 1 ∨ j = 2 ∨ j = 3) with rfl | rfl | rfl | rfl
  · exact ⟨1, by omega, rfl⟩
  · exact ⟨2, by omega, rfl⟩
  · exact ⟨3, by omega, rfl⟩
  · exact ⟨0, by omega, rfl⟩
/-- what becomes of raw statements -/
def blockM : RT → St
  | .nil => .nil
  | .cons k n a b r =>
    if k % 8 = 0 ∨ k % 8 = 1 then .cons (1 + k % 8) (vrN (n % 3).toNat) .nil .nil (blockM r)
    else if k % 8 = 2 ∨ k % 8 = 3 then .cons (1 + k % 8) (lkN (n % 3).toNat) .nil .nil (blockM r)
    else if k % 8 = 4 ∨ k % 8 = 5 then .cons (1 + k % 8) (clN (n % 4).toNat) .nil .nil (blockM r)
    else if k % 8 = 6 then .cons 7 ⟨#[]⟩ (blockM a) (blockM b) (blockM r)
    else .cons 8 ⟨#[]⟩ (blockM a) .nil (blockM r)
/-- statements as they should be: names are short, what is called or spawned is one of the four -/
def StOk : St → Prop
  | .nil => True
  | .cons k nm a b r => nm.size ≤ 4 ∧ (k = 5 ∨ k = 6 → FN nm) ∧ StOk a ∧ StOk b ∧ StOk r
theorem vrN_size (j : Nat) : (vrN j).size ≤ 4 := by unfold vrN; split <;> (try split) <;> decide
theorem lkN_size (j : Nat) : (lkN j).size ≤ 4 := by unfold lkN; split <;> (try split) <;> decide
theorem clN_size (j : Nat) : (clN j).size ≤ 4 := by unfold clN; split <;> (try split) <;> (try split) <;> decide
theorem fnN_size (j : Nat) : (fnN j).size ≤ 4 := by unfold fnN; split <;> (try split) <;> (try split) <;> decide
theorem blockM_ok : ∀ t : RT, StOk (blockM t)
  | .nil => trivial
  | .cons k n a b r => by
    have ha := blockM_ok a
    have hb := blockM_ok b
    have hr := blockM_ok r
    unfold blockM
    split
    · exact ⟨vrN_size _, fun h => by omega, trivial, trivial, hr⟩
    · split
      · exact ⟨lkN_size _, fun h => by omega, trivial, trivial, hr⟩
      · split
        · exact ⟨clN_size _, fun _ => clN_fn _ (by omega), trivial, trivial, hr⟩
        · split
          · exact ⟨by decide, fun h => by omega, ha, hb, hr⟩
          · exact ⟨by decide, fun h => by omega, ha, trivial, hr⟩
theorem blockM_cnt : ∀ t : RT, (blockM t).cnt ≤ t.cnt
  | .nil => Nat.le_refl _
  | .cons k n a b r => by
    have ha := blockM_cnt a
    have hb := blockM_cnt b
    have hr := blockM_cnt r
    unfold blockM
    split
    · simp only [St.cnt, RT.cnt]; omega
    · split
      · simp only [St.cnt, RT.cnt]; omega
      · split
        · simp only [St.cnt, RT.cnt]; omega
        · split
          · simp only [St.cnt, RT.cnt]; omega
          · simp only [St.cnt, RT.cnt]; omega

/-! ### how many -/
/-- what size reckons, from so many on -/
def szM : RT → Nat → Int → Int
  | .nil, _, n => n
  | .cons _ _ a b r, d, n => if n ≤ 40 then szM r d (n + 1 + (if 12 < d + 1 then 1000 else szM a (d + 1) 0) + (if 12 < d + 1 then 1000 else szM b (d + 1) 0)) else n
def sizeM (t : RT) (d : Nat) : Int := if 12 < d then 1000 else szM t d 0
def bdM : Nat → Int
  | 0 => 1000
  | k + 1 => 41 + 2 * bdM k
theorem bdM_big : ∀ k, 1000 ≤ bdM k
  | 0 => by decide
  | k + 1 => by have := bdM_big k; unfold bdM; omega
theorem bdM_13 : ∀ k, k ≤ 13 → bdM k ≤ 100000000 := by decide
theorem szM_bd : ∀ (t : RT) (k d : Nat) (n : Int), d + (k + 1) = 13 → 0 ≤ n → n ≤ bdM (k + 1) → n ≤ szM t d n ∧ szM t d n ≤ bdM (k + 1)
  | .nil, k, d, n, _, h0, h1 => ⟨Int.le_refl _, h1⟩
  | .cons _ _ a b r, k, d, n, hd, h0, h1 => by
    unfold szM
    have hb := bdM_big k
    have key : ∀ x : RT, (∀ (k d : Nat) (n : Int), d + (k + 1) = 13 → 0 ≤ n → n ≤ bdM (k + 1) → n ≤ szM x d n ∧ szM x d n ≤ bdM (k + 1)) → 0 ≤ (if 12 < d + 1 then (1000 : Int) else szM x (d + 1) 0) ∧ (if 12 < d + 1 then (1000 : Int) else szM x (d + 1) 0) ≤ bdM k := by
      intro x hx
      split
      · exact ⟨by omega, hb⟩
      · cases k with
        | zero => omega
        | succ k => exact hx k (d + 1) 0 (by omega) (Int.le_refl _) (by have := bdM_big (k + 1); omega)
    have ka := key a (szM_bd a)
    have kb := key b (szM_bd b)
    split
    · have := szM_bd r k d (n + 1 + (if 12 < d + 1 then (1000 : Int) else szM a (d + 1) 0) + (if 12 < d + 1 then (1000 : Int) else szM b (d + 1) 0)) hd (by omega) (by unfold bdM; omega)
      exact ⟨by omega, this.2⟩
    · exact ⟨Int.le_refl _, h1⟩
theorem sizeM_bd (t : RT) (d : Nat) (h : d ≤ 13) : 0 ≤ sizeM t d ∧ sizeM t d ≤ 100000000 := by
  unfold sizeM
  split
  · omega
  · obtain ⟨k, hk⟩ : ∃ k, d + (k + 1) = 13 := ⟨12 - d, by omega⟩
    have h1 := szM_bd t k d 0 hk (Int.le_refl _) (by have := bdM_big (k + 1); omega)
    have h2 := bdM_13 (k + 1) (by omega)
    omega
theorem szM_cnt : ∀ (t : RT) (d : Nat) (n : Int), 0 ≤ n → d ≤ 12 → szM t d n ≤ 40 → n + t.cnt ≤ szM t d n
  | .nil, d, n, h0, hd, h => by simp [szM, RT.cnt]
  | .cons _ _ a b r, d, n, h0, hd, h => by
    unfold szM at h ⊢
    split at h
    · rename_i hn
      rw [if_pos hn]
      have ga := sizeM_bd a (d + 1) (by omega)
      have gb := sizeM_bd b (d + 1) (by omega)
      unfold sizeM at ga gb
      have hr := szM_cnt r d _ (by omega) hd h
      have ha : ¬ 12 < d + 1 := by
        intro c
        rw [if_pos c, if_pos c] at hr h
        omega
      rw [if_neg ha] at ga gb
      rw [if_neg ha, if_neg ha] at hr h ⊢
      have h1 := szM_cnt a (d + 1) 0 (Int.le_refl _) (by omega) (by omega)
      have h2 := szM_cnt b (d + 1) 0 (Int.le_refl _) (by omega) (by omega)
      unfold RT.cnt
      omega
    · omega
theorem few_cnt {t : RT} (h : sizeM t 0 ≤ 40) : t.cnt ≤ 40 := by
  unfold sizeM at h
  rw [if_neg (by omega)] at h
  have := szM_cnt t 0 0 (Int.le_refl _) (by omega) h
  omega
end Go.Proofs.Ytdhklfbelplbcaa
namespace Go.Proofs.Ytdhklfbelplbcaa
set_option linter.unusedVariables false
set_option linter.unusedSimpArgs false
open Go.RowKit

theorem drewN_add (w : World) (a b : Nat) : (w.drewN a).drewN b = w.drewN (a + b) := by
  unfold World.drewN; simp [Nat.add_assoc]
/-- a callee that draws, met in a quiet region -/
theorem quiet_draw {P : Program} {f : FuncId} {args : Array Value} {w : World} {n : Nat} {v : Value}
    (h : Calls P f args (w.drewN n) fun e w' => e = .returned v ∧ ∃ x, w' = (w.drewN n).drewN x) : Calls P f args (w.drewN n) fun e w'' => e = .returned v ∧ ∃ m, w'' = w.drewN m :=
  h.mono fun _ _ ⟨he, x, hx⟩ => ⟨he, n + x, by rw [hx, drewN_add]⟩
theorem bl_dr (w : World) (q : Nat) : Below w.heap.size w (w.drewN q) := bl_drewN (Below.refl _ _) q

theorem within33 (a n : Int) (w : World) (h : 1 ≤ n) (h2 : n ≤ 9223372036854775807) :
    Calls Try.prog 33 #[.int .i64 a, .int .i64 n] w fun e w' => e = .returned (.int .i64 (a % n)) ∧ w = w' := by
  have hb := tmod_bd a n h
  have hm := Lib.hid (tmod_mod a n h)
  go_enter Try.func33, Try.ntmps33
  go_wp2
  all_goals go_ret
  · have g : a.tmod n < 0 := by assumption
    exact ⟨ret_int (by rw [← hm.out, if_pos g]), rfl⟩
  · have g : 0 ≤ a.tmod n := by assumption
    exact ⟨ret_int (by rw [← hm.out, if_neg (by omega)]), rfl⟩

set_option maxHeartbeats 4000000 in
set_option maxRecDepth 100000 in
theorem size_any : ∀ (m : Nat) (t : RT), t.cnt ≤ m → ∀ (A : Option Addr) (c d : Nat) (w : World), RdRT w.cell? t A 0 → t.len ≤ c → c ≤ 9223372036854775807 → d ≤ 13 →
    Calls Try.prog 32 #[.slice A t.len c, .int .i64 (d : Nat)] w fun e w' => e = .returned (.int .i64 (sizeM t d)) ∧ ∃ x, w' = w.drewN x := by
  intro m
  induction m with
  | zero =>
    intro t ht A c d w hr hl hc hd
    have h0 : t = .nil := by cases t with
      | nil => rfl
      | cons k n a b r => simp [RT.cnt] at ht
    subst h0
    by_cases h : 12 < d
    · have e1 : decide (12 < (d : Int)) = true := by simp; omega
      have hs : Hid (sizeM .nil d = 1000) := Lib.hid (by unfold sizeM; rw [if_pos h])
      go_enter Try.func32, Try.ntmps32
      go_wp2_with fail
      go_ret
      exact ⟨ret_int hs.out.symm, 0, rfl⟩
    · have e1 : decide (12 < (d : Int)) = false := by simp; omega
      have hs : Hid (sizeM .nil d = 0) := Lib.hid (by unfold sizeM; rw [if_neg h]; rfl)
      have hl0 : Hid (RT.nil.len = 0) := Lib.hid rfl
      rw [hl0.out]
      go_enter Try.func32, Try.ntmps32
      go_wp2_with fail
      go_loopw [5, 6] (fun v i wr => v = .int .i64 0 ∧ i = .int .i64 0 ∧ wr = w) (fun _ _ _ => 0)
      case atStart => exact ⟨rfl, rfl, rfl⟩
      case round =>
        obtain ⟨rfl, rfl, rfl⟩ := hrel
        go_wp2_with fail
        go_ret
        exact ⟨ret_int hs.out.symm, 0, rfl⟩
  | succ m ih =>
    intro t ht A c d w hr hl hc hd
    by_cases h : 12 < d
    · have e1 : decide (12 < (d : Int)) = true := by simp; omega
      have hs : Hid (sizeM t d = 1000) := Lib.hid (by unfold sizeM; rw [if_pos h])
      clear hr ih
      go_enter Try.func32, Try.ntmps32
      go_wp2_with fail
      go_ret
      exact ⟨ret_int hs.out.symm, 0, rfl⟩
    · have e1 : decide (12 < (d : Int)) = false := by simp; omega
      obtain ⟨k, hk⟩ : ∃ k, d + (k + 1) = 13 := ⟨12 - d, by omega⟩
      have hs : Hid (sizeM t d = szM t d 0) := Lib.hid (by unfold sizeM; rw [if_neg h])
      have hr' := Lib.hid hr
      have ih' := Lib.hid ih
      have hB13 := bdM_13 (k + 1) (by omega)
      have hB0 := bdM_big k
      have hBk : bdM (k + 1) = 41 + 2 * bdM k := rfl
      rw [hBk] at hB13
      replace hBk := Lib.hid hBk
      replace hk := Lib.hid hk
      clear hr ih
      go_enter Try.func32, Try.ntmps32
      go_wp2_with fail
      go_loopw [5, 6] (fun v i wr => ∃ (j : Nat) (s : RT) (n : Int), v = .int .i64 n ∧ i = .int .i64 (j : Nat) ∧ Hid (j + s.len = t.len) ∧ s.cnt ≤ m + 1 ∧ Hid (RdRT w.cell? s A j) ∧ Hid (szM s d n = szM t d 0) ∧ 0 ≤ n ∧ n ≤ 41 + 2 * bdM k ∧ Hid (∃ q, wr = w.drewN q)) (fun _ i _ => t.len - (intOf i).toNat)
      case atStart => exact ⟨0, t, 0, rfl, rfl, Lib.hid (by omega), ht, hr', Lib.hid rfl, by omega, by omega, Lib.hid ⟨0, rfl⟩⟩
      case round =>
        obtain ⟨j, s, n, rfl, rfl, hj, hcnt, hrs, hsz, n0, n1, hq⟩ := hrel
        obtain ⟨q, hq'⟩ := hq.out
        cases s with
        | nil =>
          have hjl : j = t.len := by have := hj.out; simp only [RT.len] at this; omega
          subst hjl
          have d1 : decide (t.len < t.len) = false := by simp
          have d2 : decide ((t.len : Int) < (t.len : Int)) = false := by simp
          have hz : Hid (n = sizeM t d) := Lib.hid (by rw [hs.out, ← hsz.out]; rfl)
          replace hq' := Lib.hid hq'
          go_wp2_with fail
          go_ret
          exact ⟨ret_int hz.out, q, hq'.out⟩
        | cons kk nn a b r =>
          have hjl : j < t.len := by have := hj.out; simp only [RT.len] at this; omega
          have d1 : decide (j < t.len) = true := by simpa using hjl
          have d2 : decide ((j : Int) < (t.len : Int)) = true := by simp; omega
          by_cases hn : n ≤ 40
          · have d3 : decide (n ≤ 40) = true := by simpa using hn
            have j1 : (0 : Int) ≤ (j : Int) := by omega
            have j2 : (j : Int) < (t.len : Int) := by omega
            have hBw : Below w.heap.size w wr := by rw [hq']; exact bl_dr w q
            obtain ⟨⟨ad, A1, c1, A2, c2, rfl, f0, f1, f2, f3, l1, l2, l3, l4, ra, rb⟩, rr⟩ := RdRT.below hBw _ _ _ hrs.out
            have ga := sizeM_bd a (d + 1) (by have := hk.out; omega)
            have gb := sizeM_bd b (d + 1) (by have := hk.out; omega)
            simp only [RT.cnt] at hcnt
            have hca : Hid (∀ x, Calls Try.prog 32 #[.slice A1 a.len c1, .int .i64 ((d : Int) + 1)] (wr.drewN x) fun e w' => e = .returned (.int .i64 (sizeM a (d + 1))) ∧ ∃ y, w' = (wr.drewN x).drewN y) := Lib.hid (fun x => ih'.out a (by omega) A1 c1 (d + 1) _ (RdRT.below (bl_dr wr x) _ _ _ ra) l1 l2 (by have := hk.out; omega))
            have hcb : Hid (∀ x, Calls Try.prog 32 #[.slice A2 b.len c2, .int .i64 ((d : Int) + 1)] (wr.drewN x) fun e w' => e = .returned (.int .i64 (sizeM b (d + 1))) ∧ ∃ y, w' = (wr.drewN x).drewN y) := Lib.hid (fun x => ih'.out b (by omega) A2 c2 (d + 1) _ (RdRT.below (bl_dr wr x) _ _ _ rb) l3 l4 (by have := hk.out; omega))
            have hst : Hid (szM r d (n + 1 + sizeM a (d + 1) + sizeM b (d + 1)) = szM t d 0) := Lib.hid (by rw [← hsz.out, szM, if_pos hn]; rfl)
            have hbd : Hid (sizeM a (d + 1) ≤ bdM k ∧ sizeM b (d + 1) ≤ bdM k) := Lib.hid (by
              have key : ∀ x : RT, sizeM x (d + 1) ≤ bdM k := by
                intro x
                have hk' := hk.out
                unfold sizeM
                split
                · exact hB0
                · obtain ⟨k', hk2⟩ : ∃ k', k = k' + 1 := ⟨k - 1, by omega⟩
                  subst hk2
                  exact (szM_bd x k' (d + 1) 0 (by omega) (Int.le_refl _) (by have := bdM_big (k' + 1); omega)).2
              exact ⟨key a, key b⟩)
            generalize sizeM a (d + 1) = sa at *
            generalize sizeM b (d + 1) = sb at *
            have hrs' : Hid (RdRT w.cell? r (some ad) (j + 1)) := Lib.hid hrs.out.2
            have hj' : Hid (j + 1 + r.len = t.len) := Lib.hid (by have := hj.out; simp only [RT.len] at this; omega)
            have hcr : r.cnt ≤ m + 1 := by omega
            have hd1 : IntKind.i64.wrap ((d : Int) + 1) = (d : Int) + 1 := IntWalk.i64_in _ (by omega)
            have hw1 : IntKind.i64.wrap (n + 1) = n + 1 := IntWalk.i64_in _ (by omega)
            have hw2 : IntKind.i64.wrap (n + 1 + sa) = n + 1 + sa := IntWalk.i64_in _ (by omega)
            have hw3 : IntKind.i64.wrap (n + 1 + sa + sb) = n + 1 + sa + sb := IntWalk.i64_in _ (by omega)
            clear f0 f1 ra rb rr hrs hsz hj hBw hcnt hq
            replace hq' := Lib.hid hq'
            go_wp2_with fail
            go_quiet ((first | (go_at_call_of 32 (Value.slice A1 a.len c1); exact quiet_draw (hca.out _)) | (go_at_call_of 32 (Value.slice A2 b.len c2); exact quiet_draw (hcb.out _))))
            clear hd1 hw1 hw2 hw3
            go_wp2_with fail
            exact ⟨⟨j + 1, r, n + 1 + sa + sb, rfl, by go_num, hj', hcr, hrs', hst, by omega, by have := hbd.out; omega, Lib.hid ⟨q + nq, by rw [hq'.out, drewN_add]⟩⟩, by simp [intOf]; omega⟩
          · have d3 : decide (n ≤ 40) = false := by simpa using hn
            have hz : Hid (n = sizeM t d) := Lib.hid (by rw [hs.out, ← hsz.out]; unfold szM; rw [if_neg hn])
            replace hq' := Lib.hid hq'
            clear hrs hsz hj
            go_wp2_with fail
            go_ret
            exact ⟨ret_int hz.out, q, hq'.out⟩

theorem few_any (t : RT) (A : Option Addr) (c : Nat) (w : World) (hr : RdRT w.cell? t A 0) (hl : t.len ≤ c) (hc : c ≤ 9223372036854775807) :
    Calls Try.prog 19 #[.slice A t.len c] w fun e w' => e = .returned (.bool (decide (sizeM t 0 ≤ 40))) ∧ ∃ x, w' = w.drewN x := by
  have hcall := Lib.hid (size_any t.cnt t (Nat.le_refl _) A c 0 w hr hl hc (by omega))
  generalize sizeM t 0 = n at *
  clear hr
  go_enter Try.func19, Try.ntmps19
  go_wp2_with (go_at_call 32; refine hcall.out.mono ?_; rintro e w1 ⟨rfl, hx⟩; replace hx := Lib.hid hx)
  go_ret
  exact ⟨rfl, hx.out⟩
end Go.Proofs.Ytdhklfbelplbcaa
