/-
  The walk of Block: statements out of raw ones.
-/
import Derived.Test.YtdhklfbelplbcaaZ03
namespace Go.Proofs.Ytdhklfbelplbcaa
set_option linter.unusedVariables false
set_option linter.unusedSimpArgs false
open Go.RowKit

theorem info100 : (Try.prog.info? 100).map (fun i => (i.zero, i.size, i.bytes)) = some (some (.agg #[.int .i64 0, .int .i64 0, .string ⟨#[]⟩, .slice none 0 0, .slice none 0 0]), 5, 80) := by kernel_rfl
/-- what is seen stays so when a row of the call's own grows -/
theorem le_app {w wr W w3 : World} {v v1 : Value} {P : Nat → Prop} (hb : Below wr.heap.size wr W) (hg : W.grownBy w3 v.ownBlock) (hat : v1.ownBlock = v.ownBlock ∨ ∃ b, v1.ownBlock = some b ∧ W.heap.size ≤ b)
    (hP : ∀ b, P b → v.ownBlock ≠ some b) : Le (vis P W) (vis (fun b => P b ∧ v1.ownBlock ≠ some b) w3) := by
  refine Le.trans (vis_mono (Q := fun b => P b ∧ b < W.heap.size) W fun b hb h => ⟨h, hb⟩) ?_
  refine Le.trans (vis_grown hg fun b _ h => hP b h.1) ?_
  refine vis_mono _ fun b _ h => ⟨h.1, ?_⟩
  rcases hat with hat | ⟨c, hat, hc⟩
  · rw [hat]; exact hP b h.1
  · rw [hat]; intro e; cases e; omega
/-- a field of a struct in a block of its own is laid -/
theorem set_field (W : World) (g i : Nat) (cs : List Value) (v : Value) (t : TypeId) (h : W.heap[g]? = some (.cells cs.toArray t (0, 0))) :
    (W.setCell ⟨g, i, none⟩ v).heap[g]? = some (.cells (cs.set i v).toArray t (0, 0)) ∧ W.grownBy (W.setCell ⟨g, i, none⟩ v) (some g) := by
  have e : W.setCell ⟨g, i, none⟩ v = W.setRow g (cs.set i v).toArray := by
    rw [setCell_eq_setRow W g i _ t (0, 0) _ h, List.setIfInBounds_toArray]
  rw [e]
  refine ⟨setRow_heap W g _ _ t _ h, rfl, rfl, rfl, by simp [World.setRow], fun k hk hne => ?_⟩
  rw [setRow_other _ _ _ _ (fun e => hne (by rw [e]))]
theorem vis_new {W W' : World} {g : Nat} (hg : W.grownBy W' (some g)) {B : Nat} (hB : g < B) : Le (vis (fun b => B ≤ b) W) (vis (fun b => B ≤ b) W') := vis_grown hg fun b _ h e => by cases e; omega
theorem five_cells {W : World} {g : Nat} {a b c d e : Value} {t : TypeId} (h : W.heap[g]? = some (.cells [a, b, c, d, e].toArray t (0, 0))) :
    W.cell? ⟨g, 0, none⟩ = some a ∧ W.cell? ⟨g, 1, none⟩ = some b ∧ W.cell? ⟨g, 2, none⟩ = some c ∧ W.cell? ⟨g, 3, none⟩ = some d ∧ W.cell? ⟨g, 4, none⟩ = some e ∧ ∀ i, W.frozen? ⟨g, i, none⟩ = false := by
  refine ⟨?_, ?_, ?_, ?_, ?_, fun i => by simp [World.frozen?, h]⟩ <;> (rw [cell_of_row W g _ _ t (0, 0) h]; rfl)
theorem blk_step {w wr W w3 : World} {v v1 : Value} {dn : St} {xs : List Value} {j : Nat} {k x : Int} {nm : ByteArray} {a b : St} {va vb : Value}
    (hin : StIn (vis (fun b => w.heap.size ≤ b ∧ v.ownBlock ≠ some b) wr) dn xs) (hown : wr.ownsRow w.heap.size 100 5 v j xs) (hsz : w.heap.size ≤ wr.heap.size) (hb : Below wr.heap.size wr W)
    (ha : SlSt (vis (fun b => wr.heap.size ≤ b) W) a va) (hbv : SlSt (vis (fun b => wr.heap.size ≤ b) W) b vb)
    (hg : W.grownBy w3 v.ownBlock) (hat : v1.ownBlock = v.ownBlock ∨ ∃ b, v1.ownBlock = some b ∧ W.heap.size ≤ b) :
    StIn (vis (fun b => w.heap.size ≤ b ∧ v1.ownBlock ≠ some b) w3) (dn.snoc k nm a b) (xs ++ [.int .i64 k, .int .i64 x, .string nm, va, vb]) := by
  have hl := le_app (w := w) hb hg hat (P := fun b => w.heap.size ≤ b ∧ v.ownBlock ≠ some b) (fun b h => h.2)
  have hl2 : Le (vis (fun b => w.heap.size ≤ b ∧ v.ownBlock ≠ some b) W) (vis (fun b => w.heap.size ≤ b ∧ v1.ownBlock ≠ some b) w3) := Le.trans hl (vis_mono _ fun b _ h => ⟨h.1.1, h.2⟩)
  have hc : Le (vis (fun b => wr.heap.size ≤ b) W) (vis (fun b => w.heap.size ≤ b ∧ v.ownBlock ≠ some b) W) := vis_mono _ fun b _ h => ⟨by omega, fun e => by have := (hown.lt _ e).2; omega⟩
  exact StIn.snoc (ha.mono (hc.trans hl2)) (hbv.mono (hc.trans hl2)) _ _ (StIn.mono ((vis_below hb).trans hl2) _ _ hin)
theorem cons_app {t : RT} {k n : Int} {a b r : RT} {dn : St} {kk : Int} {nm : ByteArray} {a' b' : St} (hap : dn.app (blockM (.cons k n a b r)) = blockM t) (h : blockM (.cons k n a b r) = .cons kk nm a' b' (blockM r)) : (dn.snoc kk nm a' b').app (blockM r) = blockM t := by
  rw [St.snoc_app, ← h]; exact hap

theorem blockM_0 {k n : Int} {a b r : RT} (h : k % 8 = 0) : blockM (.cons k n a b r) = .cons 1 (vrN (n % 3).toNat) .nil .nil (blockM r) := by rw [blockM]; simp [h]
theorem blockM_1 {k n : Int} {a b r : RT} (h : k % 8 = 1) : blockM (.cons k n a b r) = .cons 2 (vrN (n % 3).toNat) .nil .nil (blockM r) := by rw [blockM]; simp [h]
theorem blockM_2 {k n : Int} {a b r : RT} (h : k % 8 = 2) : blockM (.cons k n a b r) = .cons 3 (lkN (n % 3).toNat) .nil .nil (blockM r) := by rw [blockM]; simp [h]
theorem blockM_3 {k n : Int} {a b r : RT} (h : k % 8 = 3) : blockM (.cons k n a b r) = .cons 4 (lkN (n % 3).toNat) .nil .nil (blockM r) := by rw [blockM]; simp [h]
theorem blockM_4 {k n : Int} {a b r : RT} (h : k % 8 = 4) : blockM (.cons k n a b r) = .cons 5 (clN (n % 4).toNat) .nil .nil (blockM r) := by rw [blockM]; simp [h]
theorem blockM_5 {k n : Int} {a b r : RT} (h : k % 8 = 5) : blockM (.cons k n a b r) = .cons 6 (clN (n % 4).toNat) .nil .nil (blockM r) := by rw [blockM]; simp [h]
theorem blockM_6 {k n : Int} {a b r : RT} (h : k % 8 = 6) : blockM (.cons k n a b r) = .cons 7 ⟨#[]⟩ (blockM a) (blockM b) (blockM r) := by rw [blockM]; simp [h]
theorem blockM_7 {k n : Int} {a b r : RT} (h : k % 8 = 7) : blockM (.cons k n a b r) = .cons 8 ⟨#[]⟩ (blockM a) .nil (blockM r) := by rw [blockM]; simp [h]
set_option maxHeartbeats 16000000 in
set_option maxRecDepth 100000 in
theorem block_any : ∀ (m : Nat) (t : RT), t.cnt ≤ m → t.cnt ≤ 1000 → ∀ (A : Option Addr) (c : Nat) (w : World), RdRT w.cell? t A 0 → t.len ≤ c → c ≤ 9223372036854775807 →
    Calls Try.prog 34 #[.slice A t.len c] w fun e w' => ∃ v, e = .returned v ∧ SlSt (vis (fun b => w.heap.size ≤ b) w') (blockM t) v ∧ Below w.heap.size w w' := by
  intro m
  induction m with
  | zero =>
    intro t ht ht2 A c w hr hl hc
    have h0 : t = .nil := by cases t with
      | nil => rfl
      | cons k n a b r => simp [RT.cnt] at ht
    subst h0
    have hl0 : Hid (RT.nil.len = 0) := Lib.hid rfl
    rw [hl0.out]
    go_enter Try.func34, Try.ntmps34
    go_wp2_with fail
    go_loopw [3, 4] (fun v i wr => v = .slice none 0 0 ∧ i = .int .i64 0 ∧ wr = w) (fun _ _ _ => 0)
    case atStart => exact ⟨rfl, rfl, rfl⟩
    case round =>
      obtain ⟨rfl, rfl, rfl⟩ := hrel
      go_wp2_with fail
      go_ret
      exact ⟨_, rfl, SlSt.nil _, Below.refl _ _⟩
  | succ m ih =>
    intro t ht ht2 A c w hr hl hc
    have hr' := Lib.hid hr
    have ih' := Lib.hid ih
    have hlc := RT.len_le t
    clear hr ih
    go_enter Try.func34, Try.ntmps34
    go_wp2_with fail
    go_loopw [3, 4] (fun v i wr => ∃ (j : Nat) (s : RT) (dn : St) (xs : List Value), i = .int .i64 (j : Nat) ∧ Hid (j + s.len = t.len) ∧ s.cnt ≤ m + 1 ∧ s.cnt ≤ 1000 ∧ Hid (RdRT w.cell? s A j) ∧ Hid (dn.app (blockM s) = blockM t) ∧ Hid (dn.len = j) ∧ Hid (wr.ownsRow w.heap.size 100 5 v j xs) ∧ Hid (StIn (vis (fun b => w.heap.size ≤ b ∧ v.ownBlock ≠ some b) wr) dn xs) ∧ Hid (Below w.heap.size w wr)) (fun _ i _ => t.len - (intOf i).toNat)
    case atStart => exact ⟨0, t, .nil, [], rfl, Lib.hid (by omega), ht, ht2, hr', Lib.hid rfl, Lib.hid rfl, Lib.hid (own_nil _ _ _ _), Lib.hid rfl, Lib.hid (Below.refl _ _)⟩
    case round =>
      obtain ⟨j, s, dn, xs, rfl, hj, hc1, hc2, hrs, hap, hdl, hown, hin, hB⟩ := hrel
      cases s with
      | nil =>
        have hjl : j = t.len := by have := hj.out; simp only [RT.len] at this; omega
        subst hjl
        have d1 : decide (t.len < t.len) = false := by simp
        have d2 : decide ((t.len : Int) < (t.len : Int)) = false := by simp
        have hdn : Hid (dn = blockM t) := Lib.hid (by have := hap.out; unfold blockM at this; rw [St.app_nil] at this; rw [this]; cases t <;> rfl)
        go_wp2_with fail
        go_ret
        refine ⟨_, rfl, ?_, hB.out⟩
        rw [← hdn.out]
        exact StIn.sl (by rw [hdl.out]; exact hown.out) (fun b h => h) (StIn.mono (vis_mono _ fun b _ h => h.1) _ _ hin.out)
      | cons k n a b r =>
        have hjl : j < t.len := by have := hj.out; simp only [RT.len] at this; omega
        have d1 : decide (j < t.len) = true := by simpa using hjl
        have d2 : decide ((j : Int) < (t.len : Int)) = true := by simp; omega
        have j1 : (0 : Int) ≤ (j : Int) := by omega
        have j2 : (j : Int) < (t.len : Int) := by omega
        obtain ⟨⟨ad, A1, q1, A2, q2, rfl, f0, f1, f2, f3, l1, l2, l3, l4, ra, rb⟩, rr⟩ := RdRT.below hB.out _ _ _ hrs.out
        simp only [RT.cnt] at hc1 hc2
        have hsz := hB.out.size
        have hj' : Hid (j + 1 + r.len = t.len) := Lib.hid (by have := hj.out; simp only [RT.len] at this; omega)
        have hrs' : Hid (RdRT w.cell? r (some ad) (j + 1)) := Lib.hid hrs.out.2
        have hcr : r.cnt ≤ m + 1 := by omega
        have hcr2 : r.cnt ≤ 1000 := by omega
        replace ra := Lib.hid ra
        replace rb := Lib.hid rb
        clear rr hj hrs
        obtain ⟨K, hK, K0, K7⟩ : ∃ K : Int, k % 8 = K ∧ 0 ≤ K ∧ K < 8 := ⟨k % 8, rfl, by omega, by omega⟩
        replace hK := Lib.hid hK
        rcases (by omega : K = 0 ∨ K = 1 ∨ K = 2 ∨ K = 3 ∨ K = 4 ∨ K = 5 ∨ K = 6 ∨ K = 7) with rfl | rfl | rfl | rfl | rfl | rfl | rfl | rfl
        · obtain ⟨x, hx, hx3⟩ : ∃ x : Nat, n % 3 = (x : Int) ∧ x < 3 := ⟨(n % 3).toNat, by omega, by omega⟩
          replace hx := Lib.hid hx
          have g0 := bl_cell (bl_alloc (Below.refl wr.heap.size wr) (.cells #[.int .i64 1, .int .i64 0, .string ⟨#[]⟩, .slice none 0 0, .slice none 0 0] 100)) f0
          have g1 := bl_cell (bl_alloc (Below.refl wr.heap.size wr) (.cells #[.int .i64 1, .int .i64 0, .string ⟨#[]⟩, .slice none 0 0, .slice none 0 0] 100)) f1
          have hnc : ∀ W : World, (W.alloc (.cells #[.string ⟨#[120]⟩, .string ⟨#[121]⟩, .string ⟨#[122]⟩] 9)).cell? ⟨W.heap.size, x, none⟩ = some (.string (vrN x)) := by
            intro W
            rw [cell_of_row _ W.heap.size x _ 9 (0, 0) (heap_alloc_new W _)]
            rcases (by omega : x = 0 ∨ x = 1 ∨ x = 2) with rfl | rfl | rfl <;> rfl
          have hn1 := hnc (wr.alloc (.cells #[.int .i64 1, .int .i64 0, .string ⟨#[]⟩, .slice none 0 0, .slice none 0 0] 100))
          rw [World.size_alloc] at hn1
          have x1 : (0 : Int) ≤ (x : Int) := by omega
          have x2 : (x : Int) < 3 := by omega
          have hcons : Hid (blockM (.cons k n a b r) = .cons 1 (vrN x) .nil .nil (blockM r)) := Lib.hid (by rw [blockM_0 hK.out, hx.out]; rfl)
          clear hnc f2 f3
          go_wp2_with (first
            | (go_at_call_of 33 (Value.int .i64 8); refine (within33 _ _ _ (by omega) (by omega)).mono ?_; rintro e w' ⟨rfl, rfl⟩; rw [hK.out])
            | (go_at_call_of 33 (Value.int .i64 3); refine (within33 _ _ _ (by omega) (by omega)).mono ?_; rintro e w' ⟨rfl, rfl⟩; rw [hx.out])
            | (at_builtin; refine app_lit (w0 := w) w.heap.size rfl _ _ 69 100 (.agg #[.int .i64 0, .int .i64 0, .string ⟨#[]⟩, .slice none 0 0, .slice none 0 0]) 5 80 rfl Try.underlying69 info100 rfl (by decide) (by decide) u3 j xs rfl (own_below hown.out (by repeat (with_reducible (first | exact Below.refl _ _ | apply bl_alloc | apply Below.drew)))) (bl_then hB.out hsz (by repeat (with_reducible (first | exact Below.refl _ _ | apply bl_alloc | apply Below.drew)))) (by first | omega | (simp; omega)) 1 1 [.int .i64 1, .int .i64 0, .string (vrN x), .slice none 0 0, .slice none 0 0] (by first | rfl | (simp only [World.size_alloc]; rfl)) rfl (by simp [Value.oneCell']) (by omega) ?_; intro v3 w3 hown3 hb3 hg3 hat3; replace hown3 := Lib.hid hown3; replace hb3 := Lib.hid hb3; replace hg3 := Lib.hid hg3; replace hat3 := Lib.hid hat3))
          exact ⟨⟨j + 1, r, dn.snoc 1 (vrN x) .nil .nil, xs ++ [.int .i64 1, .int .i64 0, .string (vrN x), .slice none 0 0, .slice none 0 0], by go_num, hj', hcr, hcr2, hrs', Lib.hid (cons_app hap.out (by exact hcons.out)), Lib.hid (by rw [St.snoc, St.len_app, hdl.out]; rfl), hown3, Lib.hid (blk_step hin.out hown.out hsz (by repeat (with_reducible (first | exact Below.refl _ _ | apply bl_alloc | apply Below.drew))) (SlSt.nil _) (SlSt.nil _) hg3.out hat3.out), hb3⟩, by simp [intOf]; omega⟩
        · obtain ⟨x, hx, hx3⟩ : ∃ x : Nat, n % 3 = (x : Int) ∧ x < 3 := ⟨(n % 3).toNat, by omega, by omega⟩
          replace hx := Lib.hid hx
          have g0 := bl_cell (bl_alloc (Below.refl wr.heap.size wr) (.cells #[.int .i64 2, .int .i64 0, .string ⟨#[]⟩, .slice none 0 0, .slice none 0 0] 100)) f0
          have g1 := bl_cell (bl_alloc (Below.refl wr.heap.size wr) (.cells #[.int .i64 2, .int .i64 0, .string ⟨#[]⟩, .slice none 0 0, .slice none 0 0] 100)) f1
          have hnc : ∀ W : World, (W.alloc (.cells #[.string ⟨#[120]⟩, .string ⟨#[121]⟩, .string ⟨#[122]⟩] 9)).cell? ⟨W.heap.size, x, none⟩ = some (.string (vrN x)) := by
            intro W
            rw [cell_of_row _ W.heap.size x _ 9 (0, 0) (heap_alloc_new W _)]
            rcases (by omega : x = 0 ∨ x = 1 ∨ x = 2) with rfl | rfl | rfl <;> rfl
          have hn1 := hnc (wr.alloc (.cells #[.int .i64 2, .int .i64 0, .string ⟨#[]⟩, .slice none 0 0, .slice none 0 0] 100))
          rw [World.size_alloc] at hn1
          have x1 : (0 : Int) ≤ (x : Int) := by omega
          have x2 : (x : Int) < 3 := by omega
          have hcons : Hid (blockM (.cons k n a b r) = .cons 2 (vrN x) .nil .nil (blockM r)) := Lib.hid (by rw [blockM_1 hK.out, hx.out]; rfl)
          clear hnc f2 f3
          go_wp2_with (first
            | (go_at_call_of 33 (Value.int .i64 8); refine (within33 _ _ _ (by omega) (by omega)).mono ?_; rintro e w' ⟨rfl, rfl⟩; rw [hK.out])
            | (go_at_call_of 33 (Value.int .i64 3); refine (within33 _ _ _ (by omega) (by omega)).mono ?_; rintro e w' ⟨rfl, rfl⟩; rw [hx.out])
            | (at_builtin; refine app_lit (w0 := w) w.heap.size rfl _ _ 69 100 (.agg #[.int .i64 0, .int .i64 0, .string ⟨#[]⟩, .slice none 0 0, .slice none 0 0]) 5 80 rfl Try.underlying69 info100 rfl (by decide) (by decide) u3 j xs rfl (own_below hown.out (by repeat (with_reducible (first | exact Below.refl _ _ | apply bl_alloc | apply Below.drew)))) (bl_then hB.out hsz (by repeat (with_reducible (first | exact Below.refl _ _ | apply bl_alloc | apply Below.drew)))) (by first | omega | (simp; omega)) 1 1 [.int .i64 2, .int .i64 0, .string (vrN x), .slice none 0 0, .slice none 0 0] (by first | rfl | (simp only [World.size_alloc]; rfl)) rfl (by simp [Value.oneCell']) (by omega) ?_; intro v3 w3 hown3 hb3 hg3 hat3; replace hown3 := Lib.hid hown3; replace hb3 := Lib.hid hb3; replace hg3 := Lib.hid hg3; replace hat3 := Lib.hid hat3))
          exact ⟨⟨j + 1, r, dn.snoc 2 (vrN x) .nil .nil, xs ++ [.int .i64 2, .int .i64 0, .string (vrN x), .slice none 0 0, .slice none 0 0], by go_num, hj', hcr, hcr2, hrs', Lib.hid (cons_app hap.out (by exact hcons.out)), Lib.hid (by rw [St.snoc, St.len_app, hdl.out]; rfl), hown3, Lib.hid (blk_step hin.out hown.out hsz (by repeat (with_reducible (first | exact Below.refl _ _ | apply bl_alloc | apply Below.drew))) (SlSt.nil _) (SlSt.nil _) hg3.out hat3.out), hb3⟩, by simp [intOf]; omega⟩
        · obtain ⟨x, hx, hx3⟩ : ∃ x : Nat, n % 3 = (x : Int) ∧ x < 3 := ⟨(n % 3).toNat, by omega, by omega⟩
          replace hx := Lib.hid hx
          have g0 := bl_cell (bl_alloc (Below.refl wr.heap.size wr) (.cells #[.int .i64 3, .int .i64 0, .string ⟨#[]⟩, .slice none 0 0, .slice none 0 0] 100)) f0
          have g1 := bl_cell (bl_alloc (Below.refl wr.heap.size wr) (.cells #[.int .i64 3, .int .i64 0, .string ⟨#[]⟩, .slice none 0 0, .slice none 0 0] 100)) f1
          have hnc : ∀ W : World, (W.alloc (.cells #[.string ⟨#[108]⟩, .string ⟨#[109]⟩, .string ⟨#[110]⟩] 9)).cell? ⟨W.heap.size, x, none⟩ = some (.string (lkN x)) := by
            intro W
            rw [cell_of_row _ W.heap.size x _ 9 (0, 0) (heap_alloc_new W _)]
            rcases (by omega : x = 0 ∨ x = 1 ∨ x = 2) with rfl | rfl | rfl <;> rfl
          have hn1 := hnc (wr.alloc (.cells #[.int .i64 3, .int .i64 0, .string ⟨#[]⟩, .slice none 0 0, .slice none 0 0] 100))
          rw [World.size_alloc] at hn1
          have x1 : (0 : Int) ≤ (x : Int) := by omega
          have x2 : (x : Int) < 3 := by omega
          have hcons : Hid (blockM (.cons k n a b r) = .cons 3 (lkN x) .nil .nil (blockM r)) := Lib.hid (by rw [blockM_2 hK.out, hx.out]; rfl)
          clear hnc f2 f3
          go_wp2_with (first
            | (go_at_call_of 33 (Value.int .i64 8); refine (within33 _ _ _ (by omega) (by omega)).mono ?_; rintro e w' ⟨rfl, rfl⟩; rw [hK.out])
            | (go_at_call_of 33 (Value.int .i64 3); refine (within33 _ _ _ (by omega) (by omega)).mono ?_; rintro e w' ⟨rfl, rfl⟩; rw [hx.out])
            | (at_builtin; refine app_lit (w0 := w) w.heap.size rfl _ _ 69 100 (.agg #[.int .i64 0, .int .i64 0, .string ⟨#[]⟩, .slice none 0 0, .slice none 0 0]) 5 80 rfl Try.underlying69 info100 rfl (by decide) (by decide) u3 j xs rfl (own_below hown.out (by repeat (with_reducible (first | exact Below.refl _ _ | apply bl_alloc | apply Below.drew)))) (bl_then hB.out hsz (by repeat (with_reducible (first | exact Below.refl _ _ | apply bl_alloc | apply Below.drew)))) (by first | omega | (simp; omega)) 1 1 [.int .i64 3, .int .i64 0, .string (lkN x), .slice none 0 0, .slice none 0 0] (by first | rfl | (simp only [World.size_alloc]; rfl)) rfl (by simp [Value.oneCell']) (by omega) ?_; intro v3 w3 hown3 hb3 hg3 hat3; replace hown3 := Lib.hid hown3; replace hb3 := Lib.hid hb3; replace hg3 := Lib.hid hg3; replace hat3 := Lib.hid hat3))
          exact ⟨⟨j + 1, r, dn.snoc 3 (lkN x) .nil .nil, xs ++ [.int .i64 3, .int .i64 0, .string (lkN x), .slice none 0 0, .slice none 0 0], by go_num, hj', hcr, hcr2, hrs', Lib.hid (cons_app hap.out (by exact hcons.out)), Lib.hid (by rw [St.snoc, St.len_app, hdl.out]; rfl), hown3, Lib.hid (blk_step hin.out hown.out hsz (by repeat (with_reducible (first | exact Below.refl _ _ | apply bl_alloc | apply Below.drew))) (SlSt.nil _) (SlSt.nil _) hg3.out hat3.out), hb3⟩, by simp [intOf]; omega⟩
        · obtain ⟨x, hx, hx3⟩ : ∃ x : Nat, n % 3 = (x : Int) ∧ x < 3 := ⟨(n % 3).toNat, by omega, by omega⟩
          replace hx := Lib.hid hx
          have g0 := bl_cell (bl_alloc (Below.refl wr.heap.size wr) (.cells #[.int .i64 4, .int .i64 0, .string ⟨#[]⟩, .slice none 0 0, .slice none 0 0] 100)) f0
          have g1 := bl_cell (bl_alloc (Below.refl wr.heap.size wr) (.cells #[.int .i64 4, .int .i64 0, .string ⟨#[]⟩, .slice none 0 0, .slice none 0 0] 100)) f1
          have hnc : ∀ W : World, (W.alloc (.cells #[.string ⟨#[108]⟩, .string ⟨#[109]⟩, .string ⟨#[110]⟩] 9)).cell? ⟨W.heap.size, x, none⟩ = some (.string (lkN x)) := by
            intro W
            rw [cell_of_row _ W.heap.size x _ 9 (0, 0) (heap_alloc_new W _)]
            rcases (by omega : x = 0 ∨ x = 1 ∨ x = 2) with rfl | rfl | rfl <;> rfl
          have hn1 := hnc (wr.alloc (.cells #[.int .i64 4, .int .i64 0, .string ⟨#[]⟩, .slice none 0 0, .slice none 0 0] 100))
          rw [World.size_alloc] at hn1
          have x1 : (0 : Int) ≤ (x : Int) := by omega
          have x2 : (x : Int) < 3 := by omega
          have hcons : Hid (blockM (.cons k n a b r) = .cons 4 (lkN x) .nil .nil (blockM r)) := Lib.hid (by rw [blockM_3 hK.out, hx.out]; rfl)
          clear hnc f2 f3
          go_wp2_with (first
            | (go_at_call_of 33 (Value.int .i64 8); refine (within33 _ _ _ (by omega) (by omega)).mono ?_; rintro e w' ⟨rfl, rfl⟩; rw [hK.out])
            | (go_at_call_of 33 (Value.int .i64 3); refine (within33 _ _ _ (by omega) (by omega)).mono ?_; rintro e w' ⟨rfl, rfl⟩; rw [hx.out])
            | (at_builtin; refine app_lit (w0 := w) w.heap.size rfl _ _ 69 100 (.agg #[.int .i64 0, .int .i64 0, .string ⟨#[]⟩, .slice none 0 0, .slice none 0 0]) 5 80 rfl Try.underlying69 info100 rfl (by decide) (by decide) u3 j xs rfl (own_below hown.out (by repeat (with_reducible (first | exact Below.refl _ _ | apply bl_alloc | apply Below.drew)))) (bl_then hB.out hsz (by repeat (with_reducible (first | exact Below.refl _ _ | apply bl_alloc | apply Below.drew)))) (by first | omega | (simp; omega)) 1 1 [.int .i64 4, .int .i64 0, .string (lkN x), .slice none 0 0, .slice none 0 0] (by first | rfl | (simp only [World.size_alloc]; rfl)) rfl (by simp [Value.oneCell']) (by omega) ?_; intro v3 w3 hown3 hb3 hg3 hat3; replace hown3 := Lib.hid hown3; replace hb3 := Lib.hid hb3; replace hg3 := Lib.hid hg3; replace hat3 := Lib.hid hat3))
          exact ⟨⟨j + 1, r, dn.snoc 4 (lkN x) .nil .nil, xs ++ [.int .i64 4, .int .i64 0, .string (lkN x), .slice none 0 0, .slice none 0 0], by go_num, hj', hcr, hcr2, hrs', Lib.hid (cons_app hap.out (by exact hcons.out)), Lib.hid (by rw [St.snoc, St.len_app, hdl.out]; rfl), hown3, Lib.hid (blk_step hin.out hown.out hsz (by repeat (with_reducible (first | exact Below.refl _ _ | apply bl_alloc | apply Below.drew))) (SlSt.nil _) (SlSt.nil _) hg3.out hat3.out), hb3⟩, by simp [intOf]; omega⟩
        · obtain ⟨x, hx, hx3⟩ : ∃ x : Nat, n % 4 = (x : Int) ∧ x < 4 := ⟨(n % 4).toNat, by omega, by omega⟩
          replace hx := Lib.hid hx
          have g0 := bl_cell (bl_alloc (Below.refl wr.heap.size wr) (.cells #[.int .i64 5, .int .i64 0, .string ⟨#[]⟩, .slice none 0 0, .slice none 0 0] 100)) f0
          have g1 := bl_cell (bl_alloc (Below.refl wr.heap.size wr) (.cells #[.int .i64 5, .int .i64 0, .string ⟨#[]⟩, .slice none 0 0, .slice none 0 0] 100)) f1
          have hnc : ∀ W : World, (W.alloc (.cells #[.string ⟨#[102]⟩, .string ⟨#[103]⟩, .string ⟨#[104]⟩, .string ⟨#[109, 97, 105, 110]⟩] 9)).cell? ⟨W.heap.size, x, none⟩ = some (.string (clN x)) := by
            intro W
            rw [cell_of_row _ W.heap.size x _ 9 (0, 0) (heap_alloc_new W _)]
            rcases (by omega : x = 0 ∨ x = 1 ∨ x = 2 ∨ x = 3) with rfl | rfl | rfl | rfl <;> rfl
          have hn1 := hnc (wr.alloc (.cells #[.int .i64 5, .int .i64 0, .string ⟨#[]⟩, .slice none 0 0, .slice none 0 0] 100))
          rw [World.size_alloc] at hn1
          have x1 : (0 : Int) ≤ (x : Int) := by omega
          have x2 : (x : Int) < 4 := by omega
          have hcons : Hid (blockM (.cons k n a b r) = .cons 5 (clN x) .nil .nil (blockM r)) := Lib.hid (by rw [blockM_4 hK.out, hx.out]; rfl)
          clear hnc f2 f3
          go_wp2_with (first
            | (go_at_call_of 33 (Value.int .i64 8); refine (within33 _ _ _ (by omega) (by omega)).mono ?_; rintro e w' ⟨rfl, rfl⟩; rw [hK.out])
            | (go_at_call_of 33 (Value.int .i64 4); refine (within33 _ _ _ (by omega) (by omega)).mono ?_; rintro e w' ⟨rfl, rfl⟩; rw [hx.out])
            | (at_builtin; refine app_lit (w0 := w) w.heap.size rfl _ _ 69 100 (.agg #[.int .i64 0, .int .i64 0, .string ⟨#[]⟩, .slice none 0 0, .slice none 0 0]) 5 80 rfl Try.underlying69 info100 rfl (by decide) (by decide) u3 j xs rfl (own_below hown.out (by repeat (with_reducible (first | exact Below.refl _ _ | apply bl_alloc | apply Below.drew)))) (bl_then hB.out hsz (by repeat (with_reducible (first | exact Below.refl _ _ | apply bl_alloc | apply Below.drew)))) (by first | omega | (simp; omega)) 1 1 [.int .i64 5, .int .i64 0, .string (clN x), .slice none 0 0, .slice none 0 0] (by first | rfl | (simp only [World.size_alloc]; rfl)) rfl (by simp [Value.oneCell']) (by omega) ?_; intro v3 w3 hown3 hb3 hg3 hat3; replace hown3 := Lib.hid hown3; replace hb3 := Lib.hid hb3; replace hg3 := Lib.hid hg3; replace hat3 := Lib.hid hat3))
          exact ⟨⟨j + 1, r, dn.snoc 5 (clN x) .nil .nil, xs ++ [.int .i64 5, .int .i64 0, .string (clN x), .slice none 0 0, .slice none 0 0], by go_num, hj', hcr, hcr2, hrs', Lib.hid (cons_app hap.out (by exact hcons.out)), Lib.hid (by rw [St.snoc, St.len_app, hdl.out]; rfl), hown3, Lib.hid (blk_step hin.out hown.out hsz (by repeat (with_reducible (first | exact Below.refl _ _ | apply bl_alloc | apply Below.drew))) (SlSt.nil _) (SlSt.nil _) hg3.out hat3.out), hb3⟩, by simp [intOf]; omega⟩
        · obtain ⟨x, hx, hx3⟩ : ∃ x : Nat, n % 4 = (x : Int) ∧ x < 4 := ⟨(n % 4).toNat, by omega, by omega⟩
          replace hx := Lib.hid hx
          have g0 := bl_cell (bl_alloc (Below.refl wr.heap.size wr) (.cells #[.int .i64 6, .int .i64 0, .string ⟨#[]⟩, .slice none 0 0, .slice none 0 0] 100)) f0
          have g1 := bl_cell (bl_alloc (Below.refl wr.heap.size wr) (.cells #[.int .i64 6, .int .i64 0, .string ⟨#[]⟩, .slice none 0 0, .slice none 0 0] 100)) f1
          have hnc : ∀ W : World, (W.alloc (.cells #[.string ⟨#[102]⟩, .string ⟨#[103]⟩, .string ⟨#[104]⟩, .string ⟨#[109, 97, 105, 110]⟩] 9)).cell? ⟨W.heap.size, x, none⟩ = some (.string (clN x)) := by
            intro W
            rw [cell_of_row _ W.heap.size x _ 9 (0, 0) (heap_alloc_new W _)]
            rcases (by omega : x = 0 ∨ x = 1 ∨ x = 2 ∨ x = 3) with rfl | rfl | rfl | rfl <;> rfl
          have hn1 := hnc (wr.alloc (.cells #[.int .i64 6, .int .i64 0, .string ⟨#[]⟩, .slice none 0 0, .slice none 0 0] 100))
          rw [World.size_alloc] at hn1
          have x1 : (0 : Int) ≤ (x : Int) := by omega
          have x2 : (x : Int) < 4 := by omega
          have hcons : Hid (blockM (.cons k n a b r) = .cons 6 (clN x) .nil .nil (blockM r)) := Lib.hid (by rw [blockM_5 hK.out, hx.out]; rfl)
          clear hnc f2 f3
          go_wp2_with (first
            | (go_at_call_of 33 (Value.int .i64 8); refine (within33 _ _ _ (by omega) (by omega)).mono ?_; rintro e w' ⟨rfl, rfl⟩; rw [hK.out])
            | (go_at_call_of 33 (Value.int .i64 4); refine (within33 _ _ _ (by omega) (by omega)).mono ?_; rintro e w' ⟨rfl, rfl⟩; rw [hx.out])
            | (at_builtin; refine app_lit (w0 := w) w.heap.size rfl _ _ 69 100 (.agg #[.int .i64 0, .int .i64 0, .string ⟨#[]⟩, .slice none 0 0, .slice none 0 0]) 5 80 rfl Try.underlying69 info100 rfl (by decide) (by decide) u3 j xs rfl (own_below hown.out (by repeat (with_reducible (first | exact Below.refl _ _ | apply bl_alloc | apply Below.drew)))) (bl_then hB.out hsz (by repeat (with_reducible (first | exact Below.refl _ _ | apply bl_alloc | apply Below.drew)))) (by first | omega | (simp; omega)) 1 1 [.int .i64 6, .int .i64 0, .string (clN x), .slice none 0 0, .slice none 0 0] (by first | rfl | (simp only [World.size_alloc]; rfl)) rfl (by simp [Value.oneCell']) (by omega) ?_; intro v3 w3 hown3 hb3 hg3 hat3; replace hown3 := Lib.hid hown3; replace hb3 := Lib.hid hb3; replace hg3 := Lib.hid hg3; replace hat3 := Lib.hid hat3))
          exact ⟨⟨j + 1, r, dn.snoc 6 (clN x) .nil .nil, xs ++ [.int .i64 6, .int .i64 0, .string (clN x), .slice none 0 0, .slice none 0 0], by go_num, hj', hcr, hcr2, hrs', Lib.hid (cons_app hap.out (by exact hcons.out)), Lib.hid (by rw [St.snoc, St.len_app, hdl.out]; rfl), hown3, Lib.hid (blk_step hin.out hown.out hsz (by repeat (with_reducible (first | exact Below.refl _ _ | apply bl_alloc | apply Below.drew))) (SlSt.nil _) (SlSt.nil _) hg3.out hat3.out), hb3⟩, by simp [intOf]; omega⟩
        · have hcons : Hid (blockM (.cons k n a b r) = .cons 7 ⟨#[]⟩ (blockM a) (blockM b) (blockM r)) := Lib.hid (by rw [blockM_6 hK.out])
          have g0 := bl_cell (bl_alloc (Below.refl wr.heap.size wr) (.cells #[.int .i64 7, .int .i64 0, .string ⟨#[]⟩, .slice none 0 0, .slice none 0 0] 100)) f0
          have g1 := bl_cell (bl_alloc (Below.refl wr.heap.size wr) (.cells #[.int .i64 7, .int .i64 0, .string ⟨#[]⟩, .slice none 0 0, .slice none 0 0] 100)) f1
          go_upto_region 18 with (first
            | (go_at_call_of 33 (Value.int .i64 8); refine (within33 _ _ _ (by omega) (by omega)).mono ?_; rintro e w' ⟨rfl, rfl⟩; rw [hK.out]))
          obtain ⟨Wa, hWa⟩ : ∃ x, x = wr.alloc (.cells #[.int .i64 7, .int .i64 0, .string ⟨#[]⟩, .slice none 0 0, .slice none 0 0] 100) := ⟨_, rfl⟩
          rw [← hWa]
          have hba : Hid (Below wr.heap.size wr Wa) := Lib.hid (by rw [hWa]; exact bl_alloc (Below.refl _ _) _)
          have hrow : Hid (Wa.heap[wr.heap.size]? = some (.cells [.int .i64 7, .int .i64 0, .string ⟨#[]⟩, .slice none 0 0, .slice none 0 0].toArray 100 (0, 0))) := Lib.hid (by rw [hWa]; exact heap_alloc_new wr _)
          have hsa : Hid (Wa.heap.size = wr.heap.size + 1) := Lib.hid (by rw [hWa]; simp)
          replace hWa := Lib.hid hWa
          have h2 := bl_cell hba.out f2
          have h3 := bl_cell hba.out f3
          clear g0 g1 f0 f1
          have hca := Lib.hid (ih'.out a (by omega) (by omega) A1 q1 Wa.drew (RdRT.below hba.out.drew _ _ _ ra.out) l1 l2)
          have hcb : Hid (∀ w', Below Wa.drew.heap.size Wa.drew w' → Calls Try.prog 34 #[.slice A2 b.len q2] w' fun e w'' => ∃ v, e = .returned v ∧ SlSt (vis (fun b => w'.heap.size ≤ b) w'') (blockM b) v ∧ Below w'.heap.size w' w'') :=
            Lib.hid (fun w' hb => ih'.out b (by omega) (by omega) A2 q2 w' (RdRT.below hb _ _ _ (RdRT.below hba.out.drew _ _ _ rb.out)) l3 l4)
          go_region_with (first
            | (go_at_call_of 34 (Value.slice A1 a.len q1); refine hca.out.mono ?_; rintro e w5 ⟨v5, rfl, hs5, hb5⟩; have hs5' := hs5; obtain ⟨A5, c5, rfl, -⟩ := hs5'; replace hs5 := Lib.hid hs5; have k3 := bl_cell hb5 (show Wa.drew.cell? _ = _ from h3); replace hb5 := Lib.hid hb5)
            | (go_at_call_of 34 (Value.slice A2 b.len q2); refine (hcb.out w5 hb5.out).mono ?_; rintro e w6 ⟨v6, rfl, hs6, hb6⟩; have hs6' := hs6; obtain ⟨A6, c6, rfl, -⟩ := hs6'; replace hs6 := Lib.hid hs6; have hr6 := bl_row hb6 (bl_row hb5.out (show Wa.drew.heap[wr.heap.size]? = _ from hrow.out)); obtain ⟨-, -, -, y3, y4, z3⟩ := five_cells hr6; have z3' := z3 3; have z4' := z3 4; replace hr6 := Lib.hid hr6; replace hb6 := Lib.hid hb6; clear z3))
          all_goals
            (have e1 := set_field w6 wr.heap.size 3 _ (.slice A5 (blockM a).len c5) 100 hr6.out
             have e2 := set_field _ wr.heap.size 4 _ (.slice A6 (blockM b).len c6) 100 e1.1
             have hd5 := hb5.out.size
             have hda : Wa.drew.heap.size = Wa.heap.size := rfl
             have hsa' := hsa.out
             have sa := hs5.out.mono (((vis_below hb6.out).trans ((vis_new e1.2 (by omega)).trans (vis_new e2.2 (by omega)))).trans (vis_mono (Q := fun b => wr.heap.size ≤ b) _ fun b _ h => by omega))
             have sb := hs6.out.mono (((vis_new e1.2 (by omega)).trans (vis_new e2.2 (by omega))).trans (vis_mono (Q := fun b => wr.heap.size ≤ b) _ fun b _ h => by omega))
             have hb9 : Below wr.heap.size wr ((w6.setCell ⟨wr.heap.size, 3, none⟩ (.slice A5 (blockM a).len c5)).setCell ⟨wr.heap.size, 4, none⟩ (.slice A6 (blockM b).len c6)) := ((bl_then (bl_then hba.out.drew (by omega) hb5.out) (by omega) hb6.out).setCell (Nat.le_refl _) _).setCell (Nat.le_refl _) _
             replace e1 := Lib.hid e1
             generalize (w6.setCell ⟨wr.heap.size, 3, none⟩ (.slice A5 (blockM a).len c5)).setCell ⟨wr.heap.size, 4, none⟩ (.slice A6 (blockM b).len c6) = W9 at e2 sa sb hb9 ⊢
             obtain ⟨y0, y1, y2, y3, y4, -⟩ := five_cells (show W9.heap[wr.heap.size]? = some (.cells [.int .i64 7, .int .i64 0, .string ⟨#[]⟩, .slice A5 (blockM a).len c5, .slice A6 (blockM b).len c6].toArray 100 (0, 0)) from e2.1)
             have hsz9 := hb9.size
             replace e2 := Lib.hid e2
             replace sa := Lib.hid sa
             replace sb := Lib.hid sb
             replace hb9 := Lib.hid hb9
             clear hda hsa' hd5
             go_wp2_with (at_builtin; refine app_lit (w0 := w) w.heap.size rfl _ _ 69 100 (.agg #[.int .i64 0, .int .i64 0, .string ⟨#[]⟩, .slice none 0 0, .slice none 0 0]) 5 80 rfl Try.underlying69 info100 rfl (by decide) (by decide) u3 j xs rfl (own_below hown.out hb9.out) (bl_then hB.out hsz hb9.out) (by first | omega | (simp; omega)) 1 1 [.int .i64 7, .int .i64 0, .string ⟨#[]⟩, .slice A5 (blockM a).len c5, .slice A6 (blockM b).len c6] (by first | rfl | (simp only [World.size_alloc]; rfl)) rfl (by simp [Value.oneCell']) (by omega) ?_; intro v3 w3 hown3 hb3 hg3 hat3; replace hown3 := Lib.hid hown3; replace hb3 := Lib.hid hb3; replace hg3 := Lib.hid hg3; replace hat3 := Lib.hid hat3)
             exact ⟨⟨j + 1, r, dn.snoc 7 ⟨#[]⟩ (blockM a) (blockM b), xs ++ [.int .i64 7, .int .i64 0, .string ⟨#[]⟩, .slice A5 (blockM a).len c5, .slice A6 (blockM b).len c6], by go_num, hj', hcr, hcr2, hrs', Lib.hid (cons_app hap.out (by exact hcons.out)), Lib.hid (by rw [St.snoc, St.len_app, hdl.out]; rfl), hown3, Lib.hid (blk_step hin.out hown.out hsz hb9.out sa.out sb.out hg3.out hat3.out), hb3⟩, by simp [intOf]; omega⟩)
        · have hcons : Hid (blockM (.cons k n a b r) = .cons 8 ⟨#[]⟩ (blockM a) .nil (blockM r)) := Lib.hid (by rw [blockM_7 hK.out])
          have g0 := bl_cell (bl_alloc (Below.refl wr.heap.size wr) (.cells #[.int .i64 8, .int .i64 0, .string ⟨#[]⟩, .slice none 0 0, .slice none 0 0] 100)) f0
          have g1 := bl_cell (bl_alloc (Below.refl wr.heap.size wr) (.cells #[.int .i64 8, .int .i64 0, .string ⟨#[]⟩, .slice none 0 0, .slice none 0 0] 100)) f1
          go_upto_region 20 with (first
            | (go_at_call_of 33 (Value.int .i64 8); refine (within33 _ _ _ (by omega) (by omega)).mono ?_; rintro e w' ⟨rfl, rfl⟩; rw [hK.out]))
          obtain ⟨Wa, hWa⟩ : ∃ x, x = wr.alloc (.cells #[.int .i64 8, .int .i64 0, .string ⟨#[]⟩, .slice none 0 0, .slice none 0 0] 100) := ⟨_, rfl⟩
          rw [← hWa]
          have hba : Hid (Below wr.heap.size wr Wa) := Lib.hid (by rw [hWa]; exact bl_alloc (Below.refl _ _) _)
          have hrow : Hid (Wa.heap[wr.heap.size]? = some (.cells [.int .i64 8, .int .i64 0, .string ⟨#[]⟩, .slice none 0 0, .slice none 0 0].toArray 100 (0, 0))) := Lib.hid (by rw [hWa]; exact heap_alloc_new wr _)
          have hsa : Hid (Wa.heap.size = wr.heap.size + 1) := Lib.hid (by rw [hWa]; simp)
          replace hWa := Lib.hid hWa
          have h2 := bl_cell hba.out f2
          have h3 := bl_cell hba.out f3
          clear g0 g1 f0 f1
          have hca := Lib.hid (ih'.out a (by omega) (by omega) A1 q1 Wa (RdRT.below hba.out _ _ _ ra.out) l1 l2)
          go_upto_region 21 with (first
            | (go_at_call_of 34 (Value.slice A1 a.len q1); refine hca.out.mono ?_; rintro e w5 ⟨v5, rfl, hs5, hb5⟩; have hs5' := hs5; obtain ⟨A5, c5, rfl, -⟩ := hs5'; replace hs5 := Lib.hid hs5; have hr6 := bl_row hb5 hrow.out; obtain ⟨-, -, -, y3, y4, z3⟩ := five_cells hr6; have z3' := z3 3; replace hr6 := Lib.hid hr6; replace hb5 := Lib.hid hb5; clear z3))
          have e1 := set_field w5 wr.heap.size 3 _ (.slice A5 (blockM a).len c5) 100 hr6.out
          have hd5 := hb5.out.size
          have hsa' := hsa.out
          have sa := hs5.out.mono ((vis_new e1.2 (by omega)).trans (vis_mono (Q := fun b => wr.heap.size ≤ b) _ fun b _ h => by omega))
          have hb9 : Below wr.heap.size wr (w5.setCell ⟨wr.heap.size, 3, none⟩ (.slice A5 (blockM a).len c5)) := (bl_then hba.out (by omega) hb5.out).setCell (Nat.le_refl _) _
          generalize w5.setCell ⟨wr.heap.size, 3, none⟩ (.slice A5 (blockM a).len c5) = W9 at e1 sa hb9 ⊢
          clear y3 y4 z3'
          obtain ⟨y0, y1, y2, y3, y4, -⟩ := five_cells (show W9.heap[wr.heap.size]? = some (.cells [.int .i64 8, .int .i64 0, .string ⟨#[]⟩, .slice A5 (blockM a).len c5, .slice none 0 0].toArray 100 (0, 0)) from e1.1)
          have hsz9 := hb9.size
          replace e1 := Lib.hid e1
          replace sa := Lib.hid sa
          replace hb9 := Lib.hid hb9
          clear hsa' hd5
          go_wp2_with (at_builtin; refine app_lit (w0 := w) w.heap.size rfl _ _ 69 100 (.agg #[.int .i64 0, .int .i64 0, .string ⟨#[]⟩, .slice none 0 0, .slice none 0 0]) 5 80 rfl Try.underlying69 info100 rfl (by decide) (by decide) u3 j xs rfl (own_below hown.out hb9.out) (bl_then hB.out hsz hb9.out) (by first | omega | (simp; omega)) 1 1 [.int .i64 8, .int .i64 0, .string ⟨#[]⟩, .slice A5 (blockM a).len c5, .slice none 0 0] (by first | rfl | (simp only [World.size_alloc]; rfl)) rfl (by simp [Value.oneCell']) (by omega) ?_; intro v3 w3 hown3 hb3 hg3 hat3; replace hown3 := Lib.hid hown3; replace hb3 := Lib.hid hb3; replace hg3 := Lib.hid hg3; replace hat3 := Lib.hid hat3)
          exact ⟨⟨j + 1, r, dn.snoc 8 ⟨#[]⟩ (blockM a) .nil, xs ++ [.int .i64 8, .int .i64 0, .string ⟨#[]⟩, .slice A5 (blockM a).len c5, .slice none 0 0], by go_num, hj', hcr, hcr2, hrs', Lib.hid (cons_app hap.out (by exact hcons.out)), Lib.hid (by rw [St.snoc, St.len_app, hdl.out]; rfl), hown3, Lib.hid (blk_step hin.out hown.out hsz hb9.out sa.out (SlSt.nil _) hg3.out hat3.out), hb3⟩, by simp [intOf]; omega⟩
end Go.Proofs.Ytdhklfbelplbcaa
