/-
  f7 RankOrder: whatever the input, the law returns true.
-/
import Derived.Test.YtdhklfbelplbcaaZ25
import Derived.Test.YtdhklfbelplbcaaZ33
import Derived.Test.YtdhklfbelplbcaaZ38
import Derived.Test.YtdhklfbelplbcaaZ40
import Derived.Test.YtdhklfbelplbcaaZ41
namespace Go.Proofs.Ytdhklfbelplbcaa
set_option linter.unusedVariables false
set_option linter.unusedSimpArgs false
open Go.RowKit

theorem rd_new2 (w : World) (o : Obj) (xs : List Value) (t : TypeId) : Rd ((w.alloc o).alloc (.cells xs.toArray t)) (some ⟨w.heap.size + 1, 0, none⟩) xs := by
  have := rd_new (w.alloc o) xs t
  rwa [World.size_alloc] at this
theorem info43 : (Try.prog.info? 43).map (fun i => (i.zero, i.size, i.bytes)) = some (some (.agg #[.int .i64 0, .int .i64 0, .slice none 0 0, .slice none 0 0]), 4, 64) := by kernel_rfl
theorem set3r (W : World) (g : Nat) (c0 c1 c2 v0 v1 v2 : Value) (t : TypeId) (h : W.heap[g]? = some (.cells ([c0, c1, c2] : List Value).toArray t (0, 0))) :
    (((W.setCell ⟨g, 0, none⟩ v0).setCell ⟨g, 1, none⟩ v1).setCell ⟨g, 2, none⟩ v2).heap[g]? = some (.cells ([v0, v1, v2] : List Value).toArray t (0, 0)) := by
  have s0 := set_field W g 0 _ v0 t h
  have s1 := set_field _ g 1 _ v1 t s0.1
  have s2 := set_field _ g 2 _ v2 t s1.1
  exact s2.1
theorem grow3 (W : World) (g : Nat) (c0 c1 c2 v0 v1 v2 : Value) (t : TypeId) (h : W.heap[g]? = some (.cells ([c0, c1, c2] : List Value).toArray t (0, 0))) :
    W.grownBy (((W.setCell ⟨g, 0, none⟩ v0).setCell ⟨g, 1, none⟩ v1).setCell ⟨g, 2, none⟩ v2) (some g) := by
  have s0 := set_field W g 0 _ v0 t h
  have s1 := set_field _ g 1 _ v1 t s0.1
  have s2 := set_field _ g 2 _ v2 t s1.1
  exact grown_then (grown_then s0.2 (.inl rfl) s1.2) (.inl rfl) s2.2
theorem bl_set3 {B : Nat} {w W : World} (h : Below B w W) (g : Nat) (hg : B ≤ g) (v0 v1 v2 : Value) : Below B w (((W.setCell ⟨g, 0, none⟩ v0).setCell ⟨g, 1, none⟩ v1).setCell ⟨g, 2, none⟩ v2) :=
  ((h.setCell (p := ⟨g, 0, none⟩) hg v0).setCell (p := ⟨g, 1, none⟩) hg v1).setCell (p := ⟨g, 2, none⟩) hg v2
/-- races do not lie where three slices lie -/
theorem slrc_apart {W : World} {A : Option Addr} {n c g : Nat} {a b d : Value} {t : TypeId} (h : SlRc W (.slice A n c) n) (hr : W.heap[g]? = some (.cells ([a, b, d] : List Value).toArray t (0, 0))) (ha : ∀ s, a ≠ .string s) : 0 < n → ∀ x : Addr, A = some x → some g ≠ some x.block := by
  intro hn x hx e
  obtain ⟨A', c', xs, e1, h2, h3, h4, h5, h6, h7, h8⟩ := h
  cases e1
  obtain ⟨v, f1, f2, n1, n2, e0, -⟩ := h7 0 hn
  have h9 := h8 x hx
  rw [hx, h9] at h5
  have := h5.cells (0 * 5) _ e0
  rw [add_plain] at this
  simp only [Option.some.injEq] at e
  rw [← e, cell_of_row _ _ 0 _ t (0, 0) hr] at this
  simp at this
  exact ha v this
theorem slrc_grown {W W' : World} {A : Option Addr} {n c g : Nat} {a b d : Value} {t : TypeId} (h : SlRc W (.slice A n c) n) (hr : W.heap[g]? = some (.cells ([a, b, d] : List Value).toArray t (0, 0))) (ha : ∀ s, a ≠ .string s) (hg : W.grownBy W' (some g)) : SlRc W' (.slice A n c) n := by
  have hap := slrc_apart h hr ha
  obtain ⟨A', c', xs, e1, h2, h3, h4, h5, h6, h7, h8⟩ := h
  cases e1
  refine ⟨A, c, xs, rfl, h2, h3, h4, ?_, h6, h7, h8⟩
  by_cases hn : 0 < n
  · exact h5.grown hg (hap hn)
  · have : xs = [] := List.eq_nil_of_length_eq_zero (by omega)
    subst this
    exact Rd.nil _ _
theorem slrc_set3 {W : World} {A : Option Addr} {n c g : Nat} {t : TypeId} {v0 v1 v2 : Value} (h : SlRc W (.slice A n c) n) (hr : W.heap[g]? = some (.cells ([.slice none 0 0, .slice none 0 0, .slice none 0 0] : List Value).toArray t (0, 0))) :
    SlRc (((W.setCell ⟨g, 0, none⟩ v0).setCell ⟨g, 1, none⟩ v1).setCell ⟨g, 2, none⟩ v2) (.slice A n c) n :=
  slrc_grown h hr (fun s e => by cases e) (grow3 W g _ _ _ v0 v1 v2 t hr)
/-- the races' names -/
theorem slrc_names {W : World} {A : Option Addr} {n c m : Nat} (h : SlRc W (.slice A n c) n) (hm : m ≤ n) : ∃ ns : List ByteArray, ns.length = m ∧ RaceR W A ns ∧ ∀ x ∈ ns, x.size ≤ maxLen := by
  obtain ⟨A', c', xs, e1, h2, h3, h4, h5, h6, h7, h8⟩ := h
  cases e1
  have key : ∀ m, m ≤ n → ∃ ns : List ByteArray, ns.length = m ∧ (∀ i, ∀ h : i < ns.length, xs[i * 5]? = some (.string ns[i])) ∧ ∀ x ∈ ns, x.size ≤ 4 := by
    intro m
    induction m with
    | zero => exact fun _ => ⟨[], rfl, fun i h => by simp at h, fun x h => by cases h⟩
    | succ m ih =>
      intro hm
      obtain ⟨ns, q1, q2, q3⟩ := ih (by omega)
      obtain ⟨v, f1, f2, n1, n2, e0, -, -, -, -, hv⟩ := h7 m (by omega)
      refine ⟨ns ++ [v], by simp [q1], fun i hi => ?_, fun x hx => ?_⟩
      · by_cases c : i < ns.length
        · rw [List.getElem_append_left c]; exact q2 i c
        · have : i = m := by simp at hi; omega
          subst this
          rw [e0, List.getElem_append_right (by omega)]
          simp [q1]
      · rcases List.mem_append.1 hx with hx | hx
        · exact q3 x hx
        · rw [List.mem_singleton] at hx; subst hx; exact hv
  obtain ⟨ns, q1, q2, q3⟩ := key m hm
  refine ⟨ns, q1, fun i hi => ?_, fun x hx => Nat.le_trans (q3 x hx) (by decide)⟩
  obtain ⟨v, f1, f2, n1, n2, e0, e1, e2, e3, e4, hv⟩ := h7 i (by omega)
  obtain ⟨ad, a1, -⟩ := h5 (i * 5) (by omega)
  have a2 := h8 ad a1
  rw [a1, a2] at h5
  have hat : ∀ o u, xs[i * 5 + o]? = some u → W.cell? ⟨ad.block, i * 5 + o, none⟩ = some u := fun o u hu => by
    have := h5.cells _ u hu
    rwa [add_plain] at this
  refine ⟨⟨ad.block, 0, none⟩, f1, n1, f2, n2, by rw [a1, ← a2], ?_, ?_, ?_, ?_, ?_⟩
  · rw [add_plain]; exact hat 0 _ (q2 i hi)
  · rw [add_plain]; exact hat 1 _ e1
  · rw [add_plain]; exact hat 2 _ e2
  · rw [add_plain]; exact hat 3 _ e3
  · rw [add_plain]; exact hat 4 _ e4
theorem bodies_ok (t0 t1 t2 t3 : RT) : ∀ j, j < 4 → StOk (bodies t0 t1 t2 t3 j) := by
  intro j _
  unfold bodies
  split
  · exact blockM_ok _
  · split
    · exact blockM_ok _
    · split
      · exact blockM_ok _
      · exact blockM_ok _
theorem bodies_cnt (t0 t1 t2 t3 : RT) (n : Nat) (h0 : t0.cnt ≤ n) (h1 : t1.cnt ≤ n) (h2 : t2.cnt ≤ n) (h3 : t3.cnt ≤ n) : ∀ j, j < 4 → (bodies t0 t1 t2 t3 j).cnt ≤ n := by
  intro j _
  unfold bodies
  split
  · exact Nat.le_trans (blockM_cnt _) h0
  · split
    · exact Nat.le_trans (blockM_cnt _) h1
    · split
      · exact Nat.le_trans (blockM_cnt _) h2
      · exact Nat.le_trans (blockM_cnt _) h3
set_option maxHeartbeats 64000000 in
set_option maxRecDepth 100000 in
theorem rankorder_row (W : World) (t0 t1 : RT) (A0 A1 : Option Addr) (c0 c1 : Nat) (h0 : RdRT W.cell? t0 A0 0) (h1 : RdRT W.cell? t1 A1 0) (q0 : A0 = none → t0.len = 0 ∧ c0 = 0) (l0 : t0.len ≤ c0) (m0 : c0 ≤ 9223372036854775807) (l1 : t1.len ≤ c1) (m1 : c1 ≤ 9223372036854775807)
    (A2 : Option Addr) (c2 : Nat) (z2 : List Int) (h2 : Rd W A2 (ints z2)) (l2 : z2.length ≤ c2) (m2 : c2 ≤ 9223372036854775807)
    (A3 : Option Addr) (c3 : Nat) (z3 : List Int) (h3 : Rd W A3 (ints z3)) (l3 : z3.length ≤ c3) (m3 : c3 ≤ 9223372036854775807) (u : Nat) :
    Calls Try.prog 7 #[.slice A0 t0.len c0, .slice A1 t1.len c1, .slice A2 z2.length c2, .slice A3 z3.length c3, .float .f64 u] W fun e W' => e = .returned (.bool true) ∧ Below W.heap.size W W' := by
  have h0' := Lib.hid h0
  have h1' := Lib.hid h1
  have h2' := Lib.hid h2
  have h3' := Lib.hid h3
  have q0' := Lib.hid q0
  obtain ⟨b0, hb0⟩ : ∃ b, decide (sizeM t0 0 ≤ 40) = b := ⟨_, rfl⟩
  obtain ⟨b1, hb1⟩ : ∃ b, decide (sizeM t1 0 ≤ 40) = b := ⟨_, rfl⟩
  have hf0 : Hid (∀ w', Below W.heap.size W w' → Calls Try.prog 19 #[.slice A0 t0.len c0] w' fun e w'' => e = .returned (.bool b0) ∧ ∃ x, w'' = w'.drewN x) := Lib.hid (fun w' hb => by rw [← hb0]; exact few_any t0 A0 c0 w' (RdRT.below hb _ _ _ h0'.out) l0 m0)
  have hf1 : Hid (∀ w', Below W.heap.size W w' → Calls Try.prog 19 #[.slice A1 t1.len c1] w' fun e w'' => e = .returned (.bool b1) ∧ ∃ x, w'' = w'.drewN x) := Lib.hid (fun w' hb => by rw [← hb1]; exact few_any t1 A1 c1 w' (RdRT.below hb _ _ _ h1'.out) l1 m1)
  replace hb0 := Lib.hid hb0
  replace hb1 := Lib.hid hb1
  clear h0 h1 h2 h3 q0
  go_enter Try.func7, Try.ntmps7
  cases b0 with
  | false =>
    go_wp2_with (first | (go_at_call 11; (with_reducible refine (known_any _).mono ?_); rintro e w1 ⟨rfl, hk1⟩; replace hk1 := Lib.hid hk1) | (go_at_call 19; (with_reducible refine (hf0.out _ hk1.out).mono ?_); rintro e w2 ⟨rfl, x, rfl⟩))
    first | go_ret | go_end0
    exact ⟨rfl, bl_drewN hk1.out x⟩
  | true =>
    cases b1 with
    | false =>
      go_wp2_with (first | (go_at_call 11; (with_reducible refine (known_any _).mono ?_); rintro e w1 ⟨rfl, hk1⟩; replace hk1 := Lib.hid hk1) | (go_at_call 19; (with_reducible refine (hf0.out _ hk1.out).mono ?_); rintro e w2 ⟨rfl, x, rfl⟩) | (go_at_call 19; (with_reducible refine (hf1.out _ (bl_drewN hk1.out x)).mono ?_); rintro e w2 ⟨rfl, y, rfl⟩))
      first | go_ret | go_end0
      exact ⟨rfl, bl_drewN hk1.out (x + y)⟩
    | true =>
      have n0 := few_cnt (of_decide_eq_true hb0.out)
      have n1 := few_cnt (of_decide_eq_true hb1.out)
      have hln0 := RT.len_le t0
      go_upto_region 5 with (first | (go_at_call 11; (with_reducible refine (known_any _).mono ?_); rintro e w1 ⟨rfl, hk1⟩; replace hk1 := Lib.hid hk1) | (go_at_call 19; (with_reducible refine (hf0.out _ hk1.out).mono ?_); rintro e w2 ⟨rfl, x, rfl⟩) | (go_at_call 19; (with_reducible refine (hf1.out _ (bl_drewN hk1.out x)).mono ?_); rintro e w2 ⟨rfl, y, rfl⟩))
      obtain ⟨w5, hw5⟩ : ∃ w5, w5 = w1.drewN (x + y) := ⟨_, rfl⟩
      have hB5 : Hid (Below W.heap.size W w5) := Lib.hid (by rw [hw5]; exact bl_drewN hk1.out (x + y))
      rw [← hw5]
      replace hw5 := Lib.hid hw5
      obtain ⟨xs0, hx0, hxc0⟩ := RtIn.of t0 A0 0 (RdRT.below hB5.out _ _ _ h0'.out)
      obtain ⟨hxl, hx1⟩ := RtIn.len t0 xs0 hx0
      have hrd0 : Hid (Rd w5 A0 xs0) := Lib.hid (fun j hj => by
        obtain ⟨ad, e1, e2⟩ := hxc0 j _ (List.getElem?_eq_getElem hj)
        rw [Nat.zero_mul, Nat.zero_add] at e2
        exact ⟨ad, e1, e2⟩)
      replace hx0 := Lib.hid hx0
      replace hxl := Lib.hid hxl
      replace hx1 := Lib.hid hx1
      have hlit : Hid ((w5.alloc (.cells ([.int .i64 5, .int .i64 0, .slice none 0 0, .slice none 0 0, .int .i64 5, .int .i64 0, .slice none 0 0, .slice none 0 0] : List Value).toArray 43)).ownsRow w5.heap.size 43 4 (.slice (some ⟨w5.heap.size, 0, none⟩) 2 2) 2 [.int .i64 5, .int .i64 0, .slice none 0 0, .slice none 0 0, .int .i64 5, .int .i64 0, .slice none 0 0, .slice none 0 0]) := Lib.hid (own_lit w5 w5.heap.size 43 4 2 [.int .i64 5, .int .i64 0, .slice none 0 0, .slice none 0 0, .int .i64 5, .int .i64 0, .slice none 0 0, .slice none 0 0] (Nat.le_refl _) rfl (by omega))
      obtain ⟨T, hT⟩ : ∃ T, T = RT.cons 5 0 .nil .nil (RT.cons 5 0 .nil .nil t0) := ⟨_, rfl⟩
      have hTl : T.len = 2 + t0.len := by rw [hT]; simp only [RT.len]; omega
      have hTn : T.cnt ≤ 42 := by rw [hT]; simp only [RT.cnt]; omega
      have hok := Lib.hid (bodies_ok T t1 t1 .nil)
      have hcn := Lib.hid (bodies_cnt T t1 t1 .nil 42 hTn (by omega) (by omega) (by simp [RT.cnt]))
      replace hT := Lib.hid hT
      have hprog : Hid (∀ (w6 : World) (gb cb : Nat), w6.ownsRow w5.heap.size 43 4 (.slice (some ⟨gb, 0, none⟩) (2 + t0.len) cb) (2 + t0.len) ([.int .i64 5, .int .i64 0, .slice none 0 0, .slice none 0 0, .int .i64 5, .int .i64 0, .slice none 0 0, .slice none 0 0] ++ xs0) → Below w5.heap.size w5 w6 → 2 + t0.len ≤ cb → cb ≤ 9223372036854775807 →
          Hid (Calls Try.prog 20 #[.slice (some ⟨gb, 0, none⟩) (2 + t0.len) cb, .slice A1 t1.len c1, .slice A1 t1.len c1, .slice none 0 0, .int .i64 1] w6 fun e w' => ∃ v, e = .returned v ∧ PrOk (vis (fun b => w6.heap.size ≤ b) w') v (bodies T t1 t1 .nil) ∧ Below w6.heap.size w6 w')) := Lib.hid (fun w6 gb cb o6 hb56 hcb hcm => Lib.hid (by
        have hb6 := bl_then hB5.out hB5.out.size hb56
        have hcl : ∀ j v, ([.int .i64 5, .int .i64 0, .slice none 0 0, .slice none 0 0, .int .i64 5, .int .i64 0, .slice none 0 0, .slice none 0 0] ++ xs0)[j]? = some v → w6.cell? ⟨gb, j, none⟩ = some v := fun j v h => by
          obtain ⟨A', c', e, -, -, h4, -⟩ := Rd.own o6
          cases e
          have := h4.cells j v h
          rwa [add_plain] at this
        have hin : RtIn w6.cell? T ([.int .i64 5, .int .i64 0, .slice none 0 0, .slice none 0 0, .int .i64 5, .int .i64 0, .slice none 0 0, .slice none 0 0] ++ xs0) := by
          rw [hT.out]
          have hn : SlRt w6.cell? .nil (.slice none 0 0) := ⟨none, 0, rfl, Nat.le_refl _, by omega, trivial⟩
          exact ⟨_, _, _, rfl, hn, hn, _, _, xs0, rfl, hn, hn, RtIn.mono (cell_le hb56) t0 xs0 hx0.out⟩
        have hr := RtIn.rd ([.int .i64 5, .int .i64 0, .slice none 0 0, .slice none 0 0, .int .i64 5, .int .i64 0, .slice none 0 0, .slice none 0 0] ++ xs0) hcl T _ [] 0 rfl rfl hin
        rw [← hTl] at hcb ⊢
        exact prog_any w6 T t1 t1 .nil (some ⟨gb, 0, none⟩) A1 A1 none cb c1 c1 0 hr (RdRT.below hb6 _ _ _ h1'.out) (RdRT.below hb6 _ _ _ h1'.out) trivial hcb l1 l1 (Nat.le_refl _) hcm m1 m1 (by omega) (by omega) (by omega) (by omega) (by simp [RT.cnt])))
      clear hxc0
      go_cut [11] (fun v11 wx => ∃ b11 A n c g1 g2, v11 = .pointer (some ⟨b11, 0, none⟩) ∧ Hid (wx.heap[b11]? = some (.cells #[.slice A n c, .slice (some ⟨g1, 0, none⟩) 3 3, .slice (some ⟨g2, 0, none⟩) 4 4] 40 (0, 0))) ∧ Hid (PrOk wx.cell? (.agg #[.slice A n c, .slice (some ⟨g1, 0, none⟩) 3 3, .slice (some ⟨g2, 0, none⟩) 4 4]) (bodies T t1 t1 .nil)) ∧ Hid (Below W.heap.size W wx))
      case first =>
        go_wp2_with (first
          | (at_builtin; refine app_src (w0 := w5) w5.heap.size rfl _ _ 35 43 (.agg #[.int .i64 0, .int .i64 0, .slice none 0 0, .slice none 0 0]) 4 64 rfl Try.underlying35 info43 rfl (by decide) (by decide) (.slice (some ⟨w5.heap.size, 0, none⟩) 2 2) 2 [.int .i64 5, .int .i64 0, .slice none 0 0, .slice none 0 0, .int .i64 5, .int .i64 0, .slice none 0 0, .slice none 0 0] rfl hlit.out (bl_alloc (Below.refl _ _) _) (by simp) A0 t0.len c0 xs0 rfl hxl.out (hrd0.out.below (bl_alloc (Below.refl _ _) _)) q0'.out hx1.out (by omega) ?_; intro v6 w6 o6 b6 g6 a6; obtain ⟨gb, cb, rfl, hcb, -⟩ := own_some o6 (by omega); have hcm : cb ≤ 9223372036854775807 := (by obtain ⟨A', c', e, -, h3, -, -⟩ := Rd.own o6; cases e; exact h3); have hpr := hprog.out w6 gb cb o6 b6 hcb hcm; replace b6 := Lib.hid (bl_then hB5.out hB5.out.size b6); clear o6 g6 a6)
          | (go_at_call 20; (with_reducible refine hpr.out.mono ?_); rintro e w7 ⟨v7, rfl, hp7, hb7⟩; have hp7' := Lib.hid hp7; obtain ⟨Ap, np, cp, g1, g2, rfl, -, -⟩ := hp7; have hB7 := Lib.hid (bl_then b6.out b6.out.size hb7); clear hb7))
        go_meet
        have hBx := bl_alloc hB7.out (.cells #[.slice Ap np cp, .slice (some ⟨g1, 0, none⟩) 3 3, .slice (some ⟨g2, 0, none⟩) 4 4] 40)
        exact ⟨_, Ap, np, cp, g1, g2, rfl, Lib.hid (heap_alloc_new w7 _), Lib.hid (hp7'.out.mono (fun a v e => bl_cell (bl_alloc (Below.refl _ _) _) (vis_at e).2)), Lib.hid hBx⟩
      case rest =>
        obtain ⟨b11, Ap, np, cp, g1, g2, rfl, h11, hpr, hBr⟩ := hcut
        obtain ⟨wr, rfl⟩ : ∃ x, x = wc := ⟨_, rfl⟩
        have hall : Hid (∀ w', Below wr.heap.size wr w' → Calls Try.prog 22 #[(.agg #[.slice Ap np cp, .slice (some ⟨g1, 0, none⟩) 3 3, .slice (some ⟨g2, 0, none⟩) 4 4])] w' (AllPost w')) := Lib.hid (fun w' hb => all_any _ _ w' (hpr.out.mono (cell_le hb)) hok.out (fun j hj => Nat.le_trans (hcn.out j hj) (by omega)))
        have hrep : Hid (∀ vl w', Below wr.heap.size wr w' → SlSum w' vl → Calls Try.prog 21 #[(.agg #[.slice Ap np cp, .slice (some ⟨g1, 0, none⟩) 3 3, .slice (some ⟨g2, 0, none⟩) 4 4]), vl] w' (ReportPost w')) := Lib.hid (fun vl w' hb hs => report_any _ vl _ w' (hpr.out.mono (cell_le hb)) hs hok.out (fun j hj => Nat.le_trans (hcn.out j hj) (by omega)))
        have hSk : Hid (∀ w', Below wr.heap.size wr w' → (w'.cell? ⟨b11, 0, none⟩ = some (.slice Ap np cp) ∧ w'.cell? ⟨b11, 1, none⟩ = some (.slice (some ⟨g1, 0, none⟩) 3 3) ∧ w'.cell? ⟨b11, 2, none⟩ = some (.slice (some ⟨g2, 0, none⟩) 4 4))) := Lib.hid (fun w' hb => by
          have h := bl_row hb h11.out
          refine ⟨?_, ?_, ?_⟩ <;> (rw [cell_of_row _ _ _ _ 40 (0, 0) h]; rfl))
        clear hprog hlit hrd0 hx0 hxl hx1 hf0 hf1 hB5 hk1
        go_upto_region 6 with fail
        go_cut [12] (fun v12 wx => ∃ b12 Ar n cr Ae ne ce Ac nc cc, v12 = .pointer (some ⟨b12, 0, none⟩) ∧ Hid (wx.heap[b12]? = some (.cells ([.slice Ar n cr, .slice Ae ne ce, .slice Ac nc cc] : List Value).toArray 48 (0, 0))) ∧ Hid (SlRc wx (.slice Ar n cr) n) ∧ Hid (Below wr.heap.size wr wx) ∧ Hid (wr.heap.size ≤ b12))
        case first =>
          refine wp_region_heldR (S := fun w' => Below wr.heap.size wr w') opsQ6 _ (by kernel_rfl) liQ6 (by kernel_rfl) nsQ6 ((Below.refl wr.heap.size wr).drew) (fun hops hns hHeld => ?_)
          refine wpAnyH_takeR (i := 0) (v := ?vQ6_1) hops hns rdQ6_0 (by rfl) frQ6_0 rfl (fun _ _ _ h => h) stQ6_0 (Or.inl ⟨by kernel_rfl, ?hyQ6_1⟩) (by assumption) ?restQ6_1
          case hyQ6_1 => (intro w hSw; obtain ⟨y0, y1, y2⟩ := hSk.out _ hSw; clear hSw; go_simp; (try with_reducible rfl))
          try simp only [Act.put, sA, sB, sC]
          refine wpAnyH_takeR (i := 1) (v := ?vQ6_2) hops hns rdQ6_1 (by rfl) frQ6_1 rfl (fun _ _ _ h => h) stQ6_1 (Or.inl ⟨by kernel_rfl, ?hyQ6_2⟩) (by assumption) ?restQ6_2
          case hyQ6_2 => (intro w hSw; obtain ⟨y0, y1, y2⟩ := hSk.out _ hSw; clear hSw; go_simp; (try with_reducible rfl))
          try simp only [Act.put, sA, sB, sC]
          refine wpAnyH_readyR (rs := [2, 4]) hops rdQ6_2 (by simp) (AllReadyH.consR rfl stQ6_3 (fun K hK => ?_) (AllReadyH.consR rfl stQ6_2 (fun K hK => ?_) AllReadyH.nil))
          · skip
            (go_simp; go_wp2_with (go_at_call 22; (with_reducible refine (hall.out _ (by repeat (with_reducible (first | assumption | exact hBo.out | exact Below.refl _ _ | apply bl_alloc | apply Below.drew)))).mono ?_); rintro e w5 ⟨v5, rfl, hs5, hb5⟩; have hBo := Lib.hid (show Below wr.heap.size wr w5 from bl_then (by repeat (with_reducible (first | assumption | exact hBo.out | exact Below.refl _ _ | apply bl_alloc | apply Below.drew))) (by simp) hb5); replace hs5 := Lib.hid hs5; clear hb5))
            refine hK.out _ _ (by exact hBo.out) (fun hHeld => ?_)
            clear hK K
            try simp only [Act.put, sA, sB, sC]
            refine wpAnyH_readyR (rs := [3, 4]) hops rdQ6_3 (by simp) (AllReadyH.consR rfl stQ6_5 (fun K hK => ?_) (AllReadyH.consR rfl stQ6_4 (fun K hK => ?_) AllReadyH.nil))
            · skip
              (go_simp; go_wp2_with (go_at_call 21; (with_reducible refine (hrep.out _ _ (by repeat (with_reducible (first | assumption | exact hBo.out | exact Below.refl _ _ | apply bl_alloc | apply Below.drew))) (hs5.out.below (by repeat (with_reducible (first | exact Below.refl _ _ | apply bl_alloc | apply Below.drew))))).mono ?_); rintro e w6 ⟨vr, ve, vc, n, rfl, hs6, ⟨Ae, ne, ce, rfl⟩, ⟨Ac, nc, cc, rfl⟩, hb6⟩; obtain ⟨Ar, cr, hvr⟩ : ∃ A c, vr = .slice A n c := (by obtain ⟨A, c, x, h, -⟩ := hs6; exact ⟨A, c, h⟩); subst hvr; have hB6 := Lib.hid (show Below wr.heap.size wr w6 from bl_then (by repeat (with_reducible (first | assumption | exact hBo.out | exact Below.refl _ _ | apply bl_alloc | apply Below.drew))) (by first | exact hBo.out.size | (have := hBo.out.size; simp; omega)) hb6); replace hs6 := Lib.hid hs6; clear hb6))
              refine hK.out _ _ (by exact hB6.out) (fun hHeld => ?_)
              clear hK K
              try simp only [Act.put, sA, sB, sC]
              refine wpAnyH_readyR (rs := [4]) hops rdQ6_4 (by simp) (AllReadyH.consR rfl stQ6_6 (fun K hK => ?_) AllReadyH.nil)
              go_simp
              refine hK.out _ _ (by exact bl_alloc hB6.out _) (fun hHeld => ?_)
              clear hK K
              try simp only [Act.put, sA, sB, sC]
              refine wpAnyH_readyR (rs := [5]) hops rdQ6_5 (by simp) (AllReadyH.consR rfl stQ6_7 (fun K hK => ?_) AllReadyH.nil)
              go_simp
              refine hK.out _ _ (by exact bl_alloc hB6.out _) (fun hHeld => ?_)
              clear hK K
              try simp only [Act.put, sA, sB, sC]
              refine wpAnyH_doneR hops rdQ6_6 ?_
              go_wp2_with fail
              go_meet
              exact ⟨_, Ar, n, cr, Ae, ne, ce, Ac, nc, cc, rfl, Lib.hid (heap_alloc_new w6 _), Lib.hid (hs6.out.below (bl_alloc (Below.refl _ _) _)), Lib.hid (bl_alloc hB6.out _), Lib.hid (hB6.out.size)⟩
            · skip
              go_simp
              refine hK.out _ _ (by exact bl_alloc hBo.out _) (fun hHeld => ?_)
              clear hK K
              try simp only [Act.put, sA, sB, sC]
              refine wpAnyH_readyR (rs := [3]) hops rdQ6_7 (by simp) (AllReadyH.consR rfl stQ6_8 (fun K hK => ?_) AllReadyH.nil)
              (go_simp; go_wp2_with (go_at_call 21; (with_reducible refine (hrep.out _ _ (by repeat (with_reducible (first | assumption | exact hBo.out | exact Below.refl _ _ | apply bl_alloc | apply Below.drew))) (hs5.out.below (by repeat (with_reducible (first | exact Below.refl _ _ | apply bl_alloc | apply Below.drew))))).mono ?_); rintro e w6 ⟨vr, ve, vc, n, rfl, hs6, ⟨Ae, ne, ce, rfl⟩, ⟨Ac, nc, cc, rfl⟩, hb6⟩; obtain ⟨Ar, cr, hvr⟩ : ∃ A c, vr = .slice A n c := (by obtain ⟨A, c, x, h, -⟩ := hs6; exact ⟨A, c, h⟩); subst hvr; have hB6 := Lib.hid (show Below wr.heap.size wr w6 from bl_then (by repeat (with_reducible (first | assumption | exact hBo.out | exact Below.refl _ _ | apply bl_alloc | apply Below.drew))) (by first | exact hBo.out.size | (have := hBo.out.size; simp; omega)) hb6); replace hs6 := Lib.hid hs6; have hx := bl_row hb6 (heap_alloc_new w5 _); have f0 : w6.cell? ⟨w5.heap.size, 0, none⟩ = some (.slice none 0 0) := (by rw [cell_of_row _ _ 0 _ 48 (0, 0) hx]; rfl); have g0 : w6.frozen? ⟨w5.heap.size, 0, none⟩ = false := (by simp [World.frozen?, hx]); have f1 : w6.cell? ⟨w5.heap.size, 1, none⟩ = some (.slice none 0 0) := (by rw [cell_of_row _ _ 1 _ 48 (0, 0) hx]; rfl); have g1 : w6.frozen? ⟨w5.heap.size, 1, none⟩ = false := (by simp [World.frozen?, hx]); have f2 : w6.cell? ⟨w5.heap.size, 2, none⟩ = some (.slice none 0 0) := (by rw [cell_of_row _ _ 2 _ 48 (0, 0) hx]; rfl); have g2 : w6.frozen? ⟨w5.heap.size, 2, none⟩ = false := (by simp [World.frozen?, hx]); replace hx := Lib.hid hx; clear hb6; have hzz := hBo.out.size))
              refine hK.out _ _ (by exact hB6.out) (fun hHeld => ?_)
              clear hK K
              try simp only [Act.put, sA, sB, sC]
              refine wpAnyH_readyR (rs := [5]) hops rdQ6_5 (by simp) (AllReadyH.consR rfl stQ6_7 (fun K hK => ?_) AllReadyH.nil)
              go_simp
              refine hK.out _ _ (by exact bl_set3 hB6.out _ (by omega) _ _ _) (fun hHeld => ?_)
              clear hK K
              try simp only [Act.put, sA, sB, sC]
              refine wpAnyH_doneR hops rdQ6_6 ?_
              go_wp2_with fail
              go_meet
              exact ⟨_, Ar, n, cr, Ae, ne, ce, Ac, nc, cc, rfl, Lib.hid (set3r w6 (w5.heap.size) _ _ _ _ _ _ 48 hx.out), Lib.hid (slrc_set3 hs6.out hx.out), Lib.hid (bl_set3 hB6.out _ (by omega) _ _ _), Lib.hid (hBo.out.size)⟩
          · skip
            go_simp
            refine hK.out _ _ (by repeat (with_reducible (first | assumption | exact hBo.out | exact Below.refl _ _ | apply bl_alloc | apply Below.drew))) (fun hHeld => ?_)
            clear hK K
            try simp only [Act.put, sA, sB, sC]
            refine wpAnyH_readyR (rs := [2]) hops rdQ6_8 (by simp) (AllReadyH.consR rfl stQ6_9 (fun K hK => ?_) AllReadyH.nil)
            (go_simp; go_wp2_with (go_at_call 22; (with_reducible refine (hall.out _ (by repeat (with_reducible (first | assumption | exact hBo.out | exact Below.refl _ _ | apply bl_alloc | apply Below.drew)))).mono ?_); rintro e w5 ⟨v5, rfl, hs5, hb5⟩; have hBo := Lib.hid (show Below wr.heap.size wr w5 from bl_then (by repeat (with_reducible (first | assumption | exact hBo.out | exact Below.refl _ _ | apply bl_alloc | apply Below.drew))) (by simp) hb5); replace hs5 := Lib.hid hs5; have hx5 := Lib.hid (bl_row hb5 (heap_alloc_new wr _)); clear hb5))
            refine hK.out _ _ (by exact hBo.out) (fun hHeld => ?_)
            clear hK K
            try simp only [Act.put, sA, sB, sC]
            refine wpAnyH_readyR (rs := [3]) hops rdQ6_7 (by simp) (AllReadyH.consR rfl stQ6_8 (fun K hK => ?_) AllReadyH.nil)
            (go_simp; go_wp2_with (go_at_call 21; (with_reducible refine (hrep.out _ _ (by repeat (with_reducible (first | assumption | exact hBo.out | exact Below.refl _ _ | apply bl_alloc | apply Below.drew))) (hs5.out.below (by repeat (with_reducible (first | exact Below.refl _ _ | apply bl_alloc | apply Below.drew))))).mono ?_); rintro e w6 ⟨vr, ve, vc, n, rfl, hs6, ⟨Ae, ne, ce, rfl⟩, ⟨Ac, nc, cc, rfl⟩, hb6⟩; obtain ⟨Ar, cr, hvr⟩ : ∃ A c, vr = .slice A n c := (by obtain ⟨A, c, x, h, -⟩ := hs6; exact ⟨A, c, h⟩); subst hvr; have hB6 := Lib.hid (show Below wr.heap.size wr w6 from bl_then (by repeat (with_reducible (first | assumption | exact hBo.out | exact Below.refl _ _ | apply bl_alloc | apply Below.drew))) (by first | exact hBo.out.size | (have := hBo.out.size; simp; omega)) hb6); replace hs6 := Lib.hid hs6; have hx := bl_row hb6 hx5.out; have f0 : w6.cell? ⟨wr.heap.size, 0, none⟩ = some (.slice none 0 0) := (by rw [cell_of_row _ _ 0 _ 48 (0, 0) hx]; rfl); have g0 : w6.frozen? ⟨wr.heap.size, 0, none⟩ = false := (by simp [World.frozen?, hx]); have f1 : w6.cell? ⟨wr.heap.size, 1, none⟩ = some (.slice none 0 0) := (by rw [cell_of_row _ _ 1 _ 48 (0, 0) hx]; rfl); have g1 : w6.frozen? ⟨wr.heap.size, 1, none⟩ = false := (by simp [World.frozen?, hx]); have f2 : w6.cell? ⟨wr.heap.size, 2, none⟩ = some (.slice none 0 0) := (by rw [cell_of_row _ _ 2 _ 48 (0, 0) hx]; rfl); have g2 : w6.frozen? ⟨wr.heap.size, 2, none⟩ = false := (by simp [World.frozen?, hx]); replace hx := Lib.hid hx; clear hb6))
            refine hK.out _ _ (by exact hB6.out) (fun hHeld => ?_)
            clear hK K
            try simp only [Act.put, sA, sB, sC]
            refine wpAnyH_readyR (rs := [5]) hops rdQ6_5 (by simp) (AllReadyH.consR rfl stQ6_7 (fun K hK => ?_) AllReadyH.nil)
            go_simp
            refine hK.out _ _ (by exact bl_set3 hB6.out _ (by omega) _ _ _) (fun hHeld => ?_)
            clear hK K
            try simp only [Act.put, sA, sB, sC]
            refine wpAnyH_doneR hops rdQ6_6 ?_
            go_wp2_with fail
            go_meet
            exact ⟨_, Ar, n, cr, Ae, ne, ce, Ac, nc, cc, rfl, Lib.hid (set3r w6 (wr.heap.size) _ _ _ _ _ _ 48 hx.out), Lib.hid (slrc_set3 hs6.out hx.out), Lib.hid (bl_set3 hB6.out _ (by omega) _ _ _), Lib.hid (Nat.le_refl _)⟩
        case rest =>
          obtain ⟨b12, Ar, n, cr, Ae, ne, ce, Ac, nc, cc, rfl, h12, hrc, hBx, hge12⟩ := hcut
          obtain ⟨wx, rfl⟩ : ∃ x, x = wc := ⟨_, rfl⟩
          have hBw := Lib.hid (bl_then hBr.out hBr.out.size hBx.out)
          have y0 : wx.cell? ⟨b12, 0, none⟩ = some (.slice Ar n cr) := by rw [cell_of_row _ _ 0 _ 48 (0, 0) h12.out]; rfl
          have y1 : wx.frozen? ⟨b12, 0, none⟩ = false := by simp [World.frozen?, h12.out]
          have hncr : n ≤ cr := by
            obtain ⟨A', c', xs, e, h2, -⟩ := hrc.out
            cases e; exact h2
          obtain ⟨m, hm⟩ : ∃ m, m = min n 60 := ⟨_, rfl⟩
          have hmi : (if (60 : Int) < (n : Int) then (60 : Int) else (n : Int)) = (m : Int) := by omega
          have i1 : (0 : Int) ≤ (m : Int) := by omega
          have i2 : (m : Int) ≤ (n : Int) := by omega
          have i3 : (m : Int) ≤ (cr : Int) := by omega
          have hmn : m ≤ n ∧ m ≤ 60 := by omega
          replace hm := Lib.hid hm
          go_upto_region 8 with fail
          have sR := set_field wx b12 0 _ (.slice Ar m cr) 48 h12.out
          have hrc2 := slrc_grown hrc.out h12.out (fun s e => by cases e) sR.2
          have hBy : Hid (Below W.heap.size W (wx.setCell ⟨b12, 0, none⟩ (.slice Ar m cr))) := Lib.hid (hBw.out.setCell (p := ⟨b12, 0, none⟩) (Nat.le_trans hBr.out.size hge12.out) _)
          obtain ⟨ns, hnl, hrr, hsz⟩ := slrc_names hrc2 hmn.1
          have hrow := sR.1
          obtain ⟨w9, hw9⟩ : ∃ w, w = wx.setCell ⟨b12, 0, none⟩ (.slice Ar m cr) := ⟨_, rfl⟩
          rw [← hw9] at hBy hrr hrow ⊢
          replace hw9 := Lib.hid hw9
          replace hrow : Hid (w9.heap[b12]? = some (.cells ([.slice Ar m cr, .slice Ae ne ce, .slice Ac nc cc] : List Value).toArray 48 (0, 0))) := Lib.hid hrow
          replace hrr := Lib.hid hrr
          replace hsz := Lib.hid hsz
          have hcr : cr ≤ 9223372036854775807 := by
            obtain ⟨A', c', xs, e, -, h3, -⟩ := hrc.out
            cases e; exact h3
          clear sR hrc2 y0 y1 h12 hrc hmi i1 i2
          go_upto_block 0 with fail
          go_cut [13] (fun v13 wz => ∃ cs : List ByteArray, Hid (wz.ownsRow w9.heap.size 9 1 v13 cs.length (strsG cs)) ∧ Hid (Below w9.heap.size w9 wz))
          case first =>
            go_wp2_with fail
            go_loopw [13, 14] (fun v13 v14 wr => ∃ (i : Nat) (cs : List ByteArray), v14 = .int .i64 (i : Nat) ∧ i ≤ z2.length ∧ i ≤ 9 ∧ cs.length = i ∧ Hid (wr.ownsRow w9.heap.size 9 1 v13 cs.length (strsG cs)) ∧ Hid (Below w9.heap.size w9 wr)) (fun _ v _ => 9 - (intOf v).toNat)
            case atStart => exact ⟨0, [], rfl, Nat.zero_le _, Nat.zero_le _, rfl, Lib.hid (own_nil _ _ _ _), Lib.hid (Below.refl _ _)⟩
            case round =>
              obtain ⟨i, cs, rfl, hi, hi9, hcl, hcs, hBl⟩ := hrel
              by_cases hlt : i < z2.length
              · by_cases hl9 : i < 9
                · have d1 : decide ((i : Int) < (z2.length : Int)) = true := by simp; omega
                  have d2 : decide ((i : Int) < 9) = true := by simp; omega
                  have j1 : (0 : Int) ≤ (i : Int) := by omega
                  have j2 : (i : Int) < (z2.length : Int) := by omega
                  obtain ⟨ad, x, rfl, hx, -⟩ := h2'.out.at i hlt
                  have y0 := bl_cell (bl_alloc (Below.refl wr.heap.size wr) (.cells #[.string ⟨#[120]⟩, .string ⟨#[121]⟩, .string ⟨#[122]⟩, .string ⟨#[113]⟩] 9)) (bl_cell hBl.out (bl_cell hBy.out hx))
                  clear hx
                  rcases (by omega : x % 4 = 0 ∨ x % 4 = 1 ∨ x % 4 = 2 ∨ x % 4 = 3) with hk | hk | hk | hk
                  · replace hk := Lib.hid hk
                    go_wp2_with (first | (go_at_call 18; (with_reducible refine (within_any _ 4 _ (by omega) (by omega)).mono ?_); rintro e w' ⟨rfl, rfl⟩; rw [hk.out]) | (at_builtin; refine app_src (w0 := w9) w9.heap.size rfl _ _ 52 9 (.string ⟨#[]⟩) 1 16 rfl Try.underlying52 info9 rfl (by decide) (by decide) u13 cs.length (strsG cs) rfl (own_below hcs.out (bl_alloc (bl_alloc (Below.refl _ _) _) _)) (bl_alloc (bl_alloc hBl.out _) _) (by have := hBl.out.size; simp; omega) (some ⟨wr.heap.size + 1, 0, none⟩) 1 1 [.string ⟨#[120]⟩] rfl rfl (rd_new2 wr _ _ 9) (fun e => by cases e) (by simp [Value.oneCell']) (by omega) ?_; intro v8 w8 o8 b8 g8 a8; replace o8 := Lib.hid o8; replace b8 := Lib.hid b8; clear g8 a8))
                    exact ⟨⟨i + 1, cs ++ [⟨#[120]⟩], by go_num, by omega, by omega, by simp; omega, Lib.hid (by have := o8.out; simpa [strsG, enc] using this), b8⟩, by simp [intOf]; omega⟩
                  · replace hk := Lib.hid hk
                    go_wp2_with (first | (go_at_call 18; (with_reducible refine (within_any _ 4 _ (by omega) (by omega)).mono ?_); rintro e w' ⟨rfl, rfl⟩; rw [hk.out]) | (at_builtin; refine app_src (w0 := w9) w9.heap.size rfl _ _ 52 9 (.string ⟨#[]⟩) 1 16 rfl Try.underlying52 info9 rfl (by decide) (by decide) u13 cs.length (strsG cs) rfl (own_below hcs.out (bl_alloc (bl_alloc (Below.refl _ _) _) _)) (bl_alloc (bl_alloc hBl.out _) _) (by have := hBl.out.size; simp; omega) (some ⟨wr.heap.size + 1, 0, none⟩) 1 1 [.string ⟨#[121]⟩] rfl rfl (rd_new2 wr _ _ 9) (fun e => by cases e) (by simp [Value.oneCell']) (by omega) ?_; intro v8 w8 o8 b8 g8 a8; replace o8 := Lib.hid o8; replace b8 := Lib.hid b8; clear g8 a8))
                    exact ⟨⟨i + 1, cs ++ [⟨#[121]⟩], by go_num, by omega, by omega, by simp; omega, Lib.hid (by have := o8.out; simpa [strsG, enc] using this), b8⟩, by simp [intOf]; omega⟩
                  · replace hk := Lib.hid hk
                    go_wp2_with (first | (go_at_call 18; (with_reducible refine (within_any _ 4 _ (by omega) (by omega)).mono ?_); rintro e w' ⟨rfl, rfl⟩; rw [hk.out]) | (at_builtin; refine app_src (w0 := w9) w9.heap.size rfl _ _ 52 9 (.string ⟨#[]⟩) 1 16 rfl Try.underlying52 info9 rfl (by decide) (by decide) u13 cs.length (strsG cs) rfl (own_below hcs.out (bl_alloc (bl_alloc (Below.refl _ _) _) _)) (bl_alloc (bl_alloc hBl.out _) _) (by have := hBl.out.size; simp; omega) (some ⟨wr.heap.size + 1, 0, none⟩) 1 1 [.string ⟨#[122]⟩] rfl rfl (rd_new2 wr _ _ 9) (fun e => by cases e) (by simp [Value.oneCell']) (by omega) ?_; intro v8 w8 o8 b8 g8 a8; replace o8 := Lib.hid o8; replace b8 := Lib.hid b8; clear g8 a8))
                    exact ⟨⟨i + 1, cs ++ [⟨#[122]⟩], by go_num, by omega, by omega, by simp; omega, Lib.hid (by have := o8.out; simpa [strsG, enc] using this), b8⟩, by simp [intOf]; omega⟩
                  · replace hk := Lib.hid hk
                    go_wp2_with (first | (go_at_call 18; (with_reducible refine (within_any _ 4 _ (by omega) (by omega)).mono ?_); rintro e w' ⟨rfl, rfl⟩; rw [hk.out]) | (at_builtin; refine app_src (w0 := w9) w9.heap.size rfl _ _ 52 9 (.string ⟨#[]⟩) 1 16 rfl Try.underlying52 info9 rfl (by decide) (by decide) u13 cs.length (strsG cs) rfl (own_below hcs.out (bl_alloc (bl_alloc (Below.refl _ _) _) _)) (bl_alloc (bl_alloc hBl.out _) _) (by have := hBl.out.size; simp; omega) (some ⟨wr.heap.size + 1, 0, none⟩) 1 1 [.string ⟨#[113]⟩] rfl rfl (rd_new2 wr _ _ 9) (fun e => by cases e) (by simp [Value.oneCell']) (by omega) ?_; intro v8 w8 o8 b8 g8 a8; replace o8 := Lib.hid o8; replace b8 := Lib.hid b8; clear g8 a8))
                    exact ⟨⟨i + 1, cs ++ [⟨#[113]⟩], by go_num, by omega, by omega, by simp; omega, Lib.hid (by have := o8.out; simpa [strsG, enc] using this), b8⟩, by simp [intOf]; omega⟩
                · have d1 : decide ((i : Int) < (z2.length : Int)) = true := by simp; omega
                  have d2 : decide ((i : Int) < 9) = false := by simp; omega
                  go_wp2_with fail
                  go_meet
                  exact ⟨cs, hcs, hBl⟩
              · have d1 : decide ((i : Int) < (z2.length : Int)) = false := by simp; omega
                go_wp2_with fail
                go_meet
                exact ⟨cs, hcs, hBl⟩
          case rest =>
            obtain ⟨cs, hcs, hBz⟩ := hcut
            obtain ⟨wz, rfl⟩ : ∃ x, x = wc := ⟨_, rfl⟩
            obtain ⟨Ab, cb, e13, hcb1, hcb2, hcb3, -⟩ := Rd.own hcs.out
            subst e13
            have hBWz := Lib.hid (bl_then hBy.out hBy.out.size hBz.out)
            have hfl := Lib.hid (floats_any A3 c3 z3 wz (h3'.out.below hBWz.out) l3 m3)
            replace hcb3 := Lib.hid hcb3
            go_upto_region 13 with fail
            go_cut [15] (fun v15 wv => ∃ hv : List Nat, Hid (wv.ownsRow wz.heap.size 23 1 v15 hv.length (fl hv)) ∧ Hid (Below wz.heap.size wz wv))
            case first =>
              go_wp2_with (first | (go_at_call 12; (with_reducible refine hfl.out.mono ?_); rintro e w2 ⟨v2, l, rfl, hl20, o2, hb2⟩; replace o2 := Lib.hid o2; replace hb2 := Lib.hid hb2) | (at_builtin; refine app_lit (w0 := wz) wz.heap.size rfl _ _ 25 23 (.float .f64 0) 1 8 rfl Try.underlying25 info23 rfl (by decide) (by decide) v2 l.length (fl l) rfl o2.out hb2.out hb2.out.size 1 1 [.float .f64 u] rfl rfl (by simp [Value.oneCell']) (by omega) ?_; intro v8 w8 o8 b8 g8 a8; replace o8 := Lib.hid o8; replace b8 := Lib.hid b8; clear g8 a8))
              go_meet
              exact ⟨l ++ [u], Lib.hid (by have := o8.out; simpa [fl, enc] using this), b8⟩
            case rest =>
              obtain ⟨hv, hhv, hBv⟩ := hcut
              obtain ⟨wv, rfl⟩ : ∃ x, x = wc := ⟨_, rfl⟩
              obtain ⟨Cf, cf, e15, hcf1, hcf2, hcf3, -⟩ := Rd.own hhv.out
              subst e15
              have hB9v := Lib.hid (bl_then hBz.out hBz.out.size hBv.out)
              have hrw := bl_row hB9v.out hrow.out
              have x0 : wv.cell? ⟨b12, 0, none⟩ = some (.slice Ar m cr) := by rw [cell_of_row _ _ 0 _ 48 (0, 0) hrw]; rfl
              have x1 : wv.cell? ⟨b12, 1, none⟩ = some (.slice Ae ne ce) := by rw [cell_of_row _ _ 1 _ 48 (0, 0) hrw]; rfl
              have x2 : wv.cell? ⟨b12, 2, none⟩ = some (.slice Ac nc cc) := by rw [cell_of_row _ _ 2 _ 48 (0, 0) hrw]; rfl
              have hmc : ns.length ≤ cr := by omega
              have hm9 : ns.length ≤ 900 := by omega
              obtain ⟨q1, hq1⟩ : ∃ q, q = cs.length := ⟨_, rfl⟩
              obtain ⟨q2, hq2⟩ : ∃ q, q = hv.length := ⟨_, rfl⟩
              have hord : Hid (Calls Try.prog 23 #[.agg #[.slice Ar m cr, .slice Ae ne ce, .slice Ac nc cc], .slice Ab q1 cb, .slice Cf q2 cf] wv fun e w' => ∃ gd f, e = .returned (.slice (some ⟨gd, 0, none⟩) m m) ∧ w'.heap[gd]? = some (.cells (rowF m f).toArray 3 (0, 0)) ∧ PermN m f ∧ SegS (keyR ns cs hv) f 0 m ∧ Below wv.heap.size wv w' ∧ wv.heap.size ≤ gd) := Lib.hid (by
                rw [← hnl, hq1, hq2]
                exact order_big wv Ar Ae Ac Ab Cf cr ne ce nc cc cb cf ns cs hv (hrr.out.below hB9v.out) (hcb3.out.below hBv.out) hcf3 hmc hcr hm9 hcb1 hcb2 hcf1 hcf2 hsz.out)
              have hrfo : Hid (∀ w', Below wv.heap.size wv w' → Calls Try.prog 24 #[.agg #[.slice Ar m cr, .slice Ae ne ce, .slice Ac nc cc], .slice Ab q1 cb, .slice Cf q2 cf] w' (OrdPost w' (keyR ns cs hv) m)) := Lib.hid (fun w' hb => by
                rw [← hnl, hq1, hq2]
                exact reforder_any w' Ar Ae Ac Ab Cf cr ne ce nc cc cb cf ns cs hv (hrr.out.below (bl_then hB9v.out hB9v.out.size hb)) ((hcb3.out.below hBv.out).below hb) (hcf3.below hb) hmc hcr hm9 hcb1 hcb2 hcf1 hcf2)
              rw [← hq1, ← hq2]
              replace hcf3 := Lib.hid hcf3
              replace hrw := Lib.hid hrw
              replace hnl := Lib.hid hnl
              replace hq1 := Lib.hid hq1
              replace hq2 := Lib.hid hq2
              replace hmn := Lib.hid hmn
              go_upto_region 18 with (first | (go_at_call 23; (with_reducible refine hord.out.mono ?_); rintro e w6 ⟨gd, f, rfl, hgd, hpf, hsf, hb6, hgd2⟩; replace hgd := Lib.hid hgd; replace hpf := Lib.hid hpf; replace hsf := Lib.hid hsf; have hrw6 := bl_row hb6 hrw.out; replace x0 := bl_cell hb6 x0; replace x1 := bl_cell hb6 x1; replace x2 := bl_cell hb6 x2; replace hrw6 := Lib.hid hrw6; replace hb6 := Lib.hid hb6) | (go_at_call 24; (with_reducible refine (hrfo.out _ hb6.out).mono ?_); rintro e w7 ⟨A7, c7, lx, rfl, hlc7, hcm7, hr7, ho7, hb7⟩; replace hr7 := Lib.hid hr7; replace ho7 := Lib.hid ho7; replace x0 := bl_cell hb7 x0; replace hb7 := Lib.hid hb7))
              have hB7 := Lib.hid (bl_then (bl_then hBy.out hBy.out.size hB9v.out) (Nat.le_trans hBy.out.size hB9v.out.size) (bl_then hb6.out hb6.out.size hb7.out))
              have hcel : Hid (∀ i, i < m → ∃ ad p, A7 = some ad ∧ w7.cell? ⟨gd, i, none⟩ = some (.int .i64 (p : Nat)) ∧ w7.cell? (ad.add i) = some (.int .i64 (p : Nat))) := Lib.hid (fun i hi => by
                obtain ⟨k1, k2, -⟩ := ho7.out.fin
                have hll := ho7.out.1
                have e := sorted_same hpf.out k1 hsf.out k2 i hi
                rw [List.getElem?_eq_getElem (by omega)] at e
                obtain ⟨ad, e1, e2⟩ := hr7.out i (by rw [nats_len]; omega)
                refine ⟨ad, f i, e1, ?_, ?_⟩
                · rw [cell_of_row _ _ i _ 3 (0, 0) (bl_row hb7.out hgd.out)]
                  simp [rowF, hi]
                · rw [e2]; simp only [nats, List.getElem_map]; rw [e]; rfl)
              clear x0 hord hrfo hall hrep
              go_wp2_with fail
              go_loopw [18] (fun v18 wr => ∃ i : Nat, v18 = .int .i64 (i : Nat) ∧ i ≤ m ∧ Hid (Below w7.heap.size w7 wr)) (fun v _ => m - (intOf v).toNat)
              case atStart => exact ⟨0, rfl, Nat.zero_le _, Lib.hid (Below.refl _ _)⟩
              case round =>
                obtain ⟨i, rfl, hi, hBl⟩ := hrel
                by_cases hlt : i < m
                · have d1 : decide ((i : Int) < (m : Int)) = true := by simp; omega
                  have i1 : (0 : Int) ≤ (i : Int) := by omega
                  have i2 : (i : Int) < (m : Int) := by omega
                  obtain ⟨ad, p, rfl, e1, e2⟩ := hcel.out i hlt
                  have hSk : Hid (∀ w', Below wr.heap.size wr w' → (w'.cell? ⟨gd, i, none⟩ = some (.int .i64 (p : Nat)) ∧ w'.cell? (ad.add i) = some (.int .i64 (p : Nat)))) := Lib.hid (fun w' hb => ⟨bl_cell (bl_then hBl.out hBl.out.size hb) e1, bl_cell (bl_then hBl.out hBl.out.size hb) e2⟩)
                  clear e1 e2
                  go_upto_region 21 with fail
                  refine wp_region_heldR (S := fun w' => Below wr.heap.size wr w') opsQ21 _ (by kernel_rfl) liQ21 (by kernel_rfl) nsQ21 ((Below.refl wr.heap.size wr).drew) (fun hops hns hHeld => ?_)
                  refine wpAnyH_takeR (i := 0) (v := ?vQ21_1) hops hns rdQ21_0 (by rfl) frQ21_0 rfl (fun _ _ _ h => h) stQ21_0 (Or.inl ⟨by kernel_rfl, ?hyQ21_1⟩) (by assumption) ?restQ21_1
                  case hyQ21_1 => (intro w hSw; obtain ⟨y0, y1⟩ := hSk.out _ hSw; clear hSw; go_simp; (try with_reducible rfl))
                  try simp only [Act.put, sA, sB, sC]
                  refine wpAnyH_takeR (i := 1) (v := ?vQ21_2) hops hns rdQ21_1 (by rfl) frQ21_1 rfl (fun _ _ _ h => h) stQ21_1 (Or.inl ⟨by kernel_rfl, ?hyQ21_2⟩) (by assumption) ?restQ21_2
                  case hyQ21_2 => (intro w hSw; obtain ⟨y0, y1⟩ := hSk.out _ hSw; clear hSw; go_simp; (try with_reducible rfl))
                  try simp only [Act.put, sA, sB, sC]
                  refine wpAnyH_takeR (i := 2) (v := ?vQ21_3) hops hns rdQ21_2 (by rfl) frQ21_2 rfl (fun _ _ _ h => h) stQ21_2 (Or.inl ⟨by kernel_rfl, ?hyQ21_3⟩) (by assumption) ?restQ21_3
                  case hyQ21_3 => (intro w hSw; obtain ⟨y0, y1⟩ := hSk.out _ hSw; clear hSw; go_simp; (try with_reducible rfl))
                  try simp only [Act.put, sA, sB, sC]
                  refine wpAnyH_takeR (i := 3) (v := ?vQ21_4) hops hns rdQ21_3 (by rfl) frQ21_3 rfl (fun _ _ _ h => h) stQ21_3 (Or.inl ⟨by kernel_rfl, ?hyQ21_4⟩) (by assumption) ?restQ21_4
                  case hyQ21_4 => (intro w hSw; obtain ⟨y0, y1⟩ := hSk.out _ hSw; clear hSw; go_simp; (try with_reducible rfl))
                  try simp only [Act.put, sA, sB, sC]
                  refine wpAnyH_takeR (i := 4) (v := ?vQ21_5) hops hns rdQ21_4 (by rfl) frQ21_4 rfl (fun _ _ _ h => h) stQ21_4 (Or.inl ⟨by kernel_rfl, ?hyQ21_5⟩) (by assumption) ?restQ21_5
                  case hyQ21_5 => (intro w hSw; obtain ⟨y0, y1⟩ := hSk.out _ hSw; clear hSw; go_simp; (try with_reducible rfl))
                  try simp only [Act.put, sA, sB, sC]
                  refine wpAnyH_oneR (i := 5) (v := ?vQ21_6) hops rdQ21_5 rfl stQ21_5 (Or.inl ⟨by kernel_rfl, ?hyQ21_6⟩) (by assumption) ?restQ21_6
                  case hyQ21_6 => (intro w hSw; obtain ⟨y0, y1⟩ := hSk.out _ hSw; clear hSw; go_simp; (try with_reducible rfl))
                  try simp only [Act.put, sA, sB, sC]
                  refine wpAnyH_oneR (i := 6) (v := ?vQ21_7) hops rdQ21_6 rfl stQ21_6 (Or.inl ⟨by kernel_rfl, ?hyQ21_7⟩) (by assumption) ?restQ21_7
                  case hyQ21_7 => (intro w hSw; obtain ⟨y0, y1⟩ := hSk.out _ hSw; clear hSw; go_simp; (try with_reducible rfl))
                  try simp only [Act.put, sA, sB, sC]
                  refine wpAnyH_oneR (i := 7) (v := ?vQ21_8) hops rdQ21_7 rfl stQ21_7 (Or.inl ⟨by kernel_rfl, ?hyQ21_8⟩) (by assumption) ?restQ21_8
                  case hyQ21_8 => (intro w hSw; obtain ⟨y0, y1⟩ := hSk.out _ hSw; clear hSw; go_simp; (try with_reducible rfl))
                  try simp only [Act.put, sA, sB, sC]
                  refine wpAnyH_oneR (i := 8) (v := ?vQ21_9) hops rdQ21_8 rfl stQ21_8 (Or.inl ⟨by kernel_rfl, ?hyQ21_9⟩) (by assumption) ?restQ21_9
                  case hyQ21_9 => (intro w hSw; obtain ⟨y0, y1⟩ := hSk.out _ hSw; clear hSw; go_simp; (try with_reducible rfl))
                  try simp only [Act.put, sA, sB, sC]
                  refine wpAnyH_doneR hops rdQ21_9 ?_
                  go_wp2_with fail
                  exact ⟨⟨i + 1, by go_num, by omega, Lib.hid hBl.out.drew⟩, by simp [intOf]; omega⟩
                · have d1 : decide ((i : Int) < (m : Int)) = false := by simp; omega
                  go_wp2_with fail
                  first | go_ret | go_end0
                  exact ⟨rfl, bl_then hB7.out hB7.out.size hBl.out⟩
end Go.Proofs.Ytdhklfbelplbcaa
