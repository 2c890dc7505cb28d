/- RankScale: weights that are all twice as heavy leave the order. -/
import Derived.Test.YtdhklfbelplbcaaGq
import Derived.Test.YtdhklfbelplbcaaGr
namespace Go.Proofs.Ytdhklfbelplbcaa
set_option linter.unusedVariables false
set_option linter.unusedSimpArgs false
open Go.RowKit Go.Maps

/-- while the weights are laid: two rows, each its own, the one twice as heavy -/
structure TwoSt (wb W : World) (x y : Value) (k : Nat) (hx hy : List Nat) : Prop where
  hB : Below wb.heap.size wb W
  ox : W.ownsRow wb.heap.size 23 1 x k (fl hx)
  oy : W.ownsRow wb.heap.size 23 1 y k (fl hy)
  ne : ∀ b, x.ownBlock = some b → y.ownBlock ≠ some b
  lx : hx.length = k
  ly : hy.length = k
  db : ∀ i, ∀ h1 : i < hx.length, ∀ h2 : i < hy.length, Dbl hx[i] hy[i]
theorem TwoSt.start (wb : World) : TwoSt wb wb (.slice none 0 0) (.slice none 0 0) 0 [] [] :=
  ⟨Below.refl _ _, own_nil _ _ _ _, own_nil _ _ _ _, (fun b h => by cases h), rfl, rfl, (fun i h => by simp at h)⟩
theorem own_kept2 {W W1 : World} {base e size n : Nat} {v : Value} {xs : List Value} {row : Option Nat} (h : W.ownsRow base e size v n xs) (hg : W.grownBy W1 row) (hne : ∀ b, row = some b → v.ownBlock ≠ some b) : W1.ownsRow base e size v n xs := by
  refine h.kept hg ?_
  cases row with
  | none => cases v.ownBlock <;> simp
  | some b => exact .inr (hne b rfl)
/-- both rows grow by one -/
theorem TwoSt.step {wb W W1 W2 : World} {x y x1 y1 : Value} {k : Nat} {hx hy : List Nat} {a b : Nat} (h : TwoSt wb W x y k hx hy) (hd : Dbl a b)
    (o1 : W1.ownsRow wb.heap.size 23 1 x1 (k + 1) (fl hx ++ [.float .f64 a])) (b1 : Below wb.heap.size wb W1) (g1 : W.grownBy W1 x.ownBlock) (a1 : x1.ownBlock = x.ownBlock ∨ ∃ j, x1.ownBlock = some j ∧ W.heap.size ≤ j)
    (o2 : W2.ownsRow wb.heap.size 23 1 y1 (k + 1) (fl hy ++ [.float .f64 b])) (b2 : Below wb.heap.size wb W2) (g2 : W1.grownBy W2 y.ownBlock) (a2 : y1.ownBlock = y.ownBlock ∨ ∃ j, y1.ownBlock = some j ∧ W1.heap.size ≤ j) :
    TwoSt wb W2 x1 y1 (k + 1) (hx ++ [a]) (hy ++ [b]) := by
  have hs1 := g1.size
  have hne1 : ∀ j, x1.ownBlock = some j → y.ownBlock ≠ some j := by
    intro j hj e
    rcases a1 with a1 | ⟨i, a1, hi⟩
    · exact h.ne j (by rw [← a1]; exact hj) e
    · rw [a1] at hj; cases hj
      have := (h.oy.lt _ e).2; omega
  have hne2 : ∀ j, y1.ownBlock = some j → x1.ownBlock ≠ some j := by
    intro j hj e
    rcases a2 with a2 | ⟨i, a2, hi⟩
    · exact hne1 j e (by rw [← a2]; exact hj)
    · rw [a2] at hj; cases hj
      have := (o1.lt _ e).2; omega
  refine ⟨b2, ?_, ?_, fun j hj e => hne2 j e hj, by simp [h.lx], by simp [h.ly], fun i h1 h2 => ?_⟩
  · have := own_kept2 o1 g2 (fun j hj e => hne1 j e hj)
    simpa [fl, enc] using this
  · simpa [fl, enc] using o2
  · by_cases hi : i < hx.length
    · rw [List.getElem_append_left hi, List.getElem_append_left (by have := h.lx; have := h.ly; omega)]
      exact h.db i hi (by have := h.lx; have := h.ly; omega)
    · have e1 : i = hx.length := by simp at h1; omega
      have e2 : i = hy.length := by rw [e1, h.lx, h.ly]
      rw [List.getElem_append_right (by omega), List.getElem_append_right (by omega)]
      simpa using hd

def nms4 : List ByteArray := [⟨#[97]⟩, ⟨#[98]⟩, ⟨#[99]⟩, ⟨#[100]⟩]
theorem nms4_row : strs nms4 = [.string ⟨#[97]⟩, .string ⟨#[98]⟩, .string ⟨#[99]⟩, .string ⟨#[100]⟩] := rfl
theorem nms4_len : nms4.length = 4 := rfl

set_option maxHeartbeats 4000000 in
set_option maxRecDepth 100000 in
theorem rankscale_any (w : World) (A : Option Addr) (c : Nat) (ns : List Int) (hr : Rd w A (ints ns)) (hn : ns.length ≤ c) (hc : c ≤ 9223372036854775807) (_ : ∀ x ∈ ns, (Lit.int .i64 x).wf = true)
    (A2 : Option Addr) (c2 : Nat) (ws : List Int) (hr2 : Rd w A2 (ints ws)) (hn2 : ws.length ≤ c2) (hc2 : c2 ≤ 9223372036854775807) (_ : ∀ x ∈ ws, (Lit.int .i64 x).wf = true) :
    Calls Try.prog 10 #[.slice A ns.length c, .slice A2 ws.length c2] w fun e w' => e = .returned (.bool true) ∧ Below w.heap.size w w' := by
  have hr' := Lib.hid hr
  have hr2' := Lib.hid hr2
  clear hr hr2
  go_enter Try.func10, Try.ntmps10
  go_upto_block 0 with (first
    | (go_at_call 11; refine (known_any _).mono ?_; rintro e w1 ⟨rfl, hb1⟩; have hr1 := Lib.hid (hr'.out.below hb1); have hB1 := Lib.hid hb1; clear hb1)
    | (go_at_call 25; refine (races_any w1 A c ns hr1.out hn hc).mono ?_; rintro e w2 ⟨B, d, vs, rfl, hR, hvd, hdm, hvs, hb2⟩; have hR2 := Lib.hid hR; have hvs' := Lib.hid hvs; have hB2 := Lib.hid (bl_then hB1.out hB1.out.size hb2); clear hR hvs hb2))
  have hv30 : vs.length ≤ 30 := by rw [hvs'.out]; simp; omega
  have hvz : Hid (∀ x ∈ vs, x.size ≤ maxLen) := Lib.hid (fun x hx => by
    rw [hvs'.out] at hx
    obtain ⟨y, _, rfl⟩ := List.mem_map.1 hx
    exact nm_size y)
  obtain ⟨wb, hwb⟩ : ∃ x, x = (w2.alloc (.cells #[.slice B vs.length d, .slice none 0 0, .slice none 0 0] 48)).alloc (.cells (strs nms4).toArray 9) := ⟨_, rfl⟩
  have hRb : Hid (RaceR wb B vs) := Lib.hid (by rw [hwb]; exact hR2.out.below (bl_alloc (bl_alloc (Below.refl _ _) _) _))
  have hBb : Hid (Below w.heap.size w wb) := Lib.hid (by rw [hwb]; exact bl_alloc (bl_alloc hB2.out _) _)
  obtain ⟨g, hg⟩ : ∃ g, g = w2.heap.size := ⟨_, rfl⟩
  have hbx : Hid (wb.heap[g]? = some (.cells #[.slice B vs.length d, .slice none 0 0, .slice none 0 0] 48 (0, 0))) := Lib.hid (by rw [hwb, hg]; exact blk_alloc (heap_alloc_new w2 _) _)
  have hnm : Hid (Rd wb (some ⟨g + 1, 0, none⟩) (strs nms4)) := Lib.hid (by
    have := rd_new (w2.alloc (.cells #[.slice B vs.length d, .slice none 0 0, .slice none 0 0] 48)) (strs nms4) 9
    rw [hwb, hg]
    simpa using this)
  rw [nms4_row] at hwb
  rw [← hwb, ← hg]
  replace hwb := Lib.hid hwb
  replace hg := Lib.hid hg
  have hbb := hBb.out.size
  go_cut [7, 8, 9, 10] (fun x y i t wr => ∃ hx hy, TwoSt wb wr x y 4 hx hy)
  case first =>
    go_wp2_with fail
    go_loopw [7, 8, 9, 10] (fun x y i t wr => ∃ (k : Nat) (hx hy : List Nat), i = .int .i64 (k : Nat) ∧ k ≤ 4 ∧ TwoSt wb wr x y k hx hy) (fun _ _ i _ _ => 4 - (intOf i).toNat)
    case atStart => exact ⟨0, [], [], rfl, by omega, TwoSt.start _⟩
    case round =>
      obtain ⟨k, hx, hy, rfl, hk, hT⟩ := hrel
      have hsz := hT.hB.size
      by_cases hk4 : k < 4
      · have hd : decide ((k : Int) < 4) = true := by simp; omega
        have k1 : (0 : Int) ≤ (k : Int) := by omega
        by_cases h1 : k < ws.length
        · have hd1 : decide (k < ws.length) = true := by simpa using h1
          have hd1b : decide ((k : Int) < (ws.length : Int)) = true := by simp; omega
          have k2 : (k : Int) < (ws.length : Int) := by omega
          obtain ⟨ad, x, rfl, hx2, hxe⟩ := (hr2'.out.below (bl_then hBb.out hbb hT.hB)).at k h1
          obtain ⟨v, hv⟩ : ∃ v, v = x % 1000 - 500 := ⟨_, rfl⟩
          have v1 : -500 ≤ v := by omega
          have v2 : v < 500 := by omega
          have hxv : Hid (x % 1000 = v + 500) := Lib.hid (by omega)
          clear hxe hv
          obtain ⟨qa, hqa, -⟩ := quart v v1 v2
          obtain ⟨qb, hqb, -⟩ := half v v1 v2
          have hD : Hid (Dbl qa qb) := Lib.hid ⟨v, v1, v2, hqa, hqb⟩
          unfold qrtO at hqa
          unfold hlfO at hqb
          have e1 := fun w => run_float_arith (P := Try.prog) w .quo 23 .f64 _ _ _ hqa
          have e2 := fun w => run_float_arith (P := Try.prog) w .quo 23 .f64 _ _ _ hqb
          clear hqa hqb
          replace hT := Lib.hid hT
          go_wp2_with (first
            | (go_at_call 18; refine (within_any _ _ _ (by omega) (by omega)).mono ?_; rintro e w' ⟨rfl, rfl⟩; rw [hxv.out])
            | (at_builtin; refine app_lit (w0 := wb) wb.heap.size rfl _ _ 25 23 (.float .f64 0) 1 8 rfl Try.underlying25 info23 rfl (by decide) (by decide) u7 k (fl hx) rfl hT.out.ox hT.out.hB (by omega) 1 1 [.float .f64 qa] rfl rfl (by simp [Value.oneCell']) (by omega) ?_; intro v3 w3 hown3 hb3 hg3 hat3; have hsz3 := hb3.size; replace hown3 := Lib.hid hown3; replace hb3 := Lib.hid hb3; replace hg3 := Lib.hid hg3; replace hat3 := Lib.hid hat3)
            | (at_builtin; refine app_lit (w0 := wb) wb.heap.size rfl _ _ 25 23 (.float .f64 0) 1 8 rfl Try.underlying25 info23 rfl (by decide) (by decide) u8 k (fl hy) rfl (own_kept2 hT.out.oy hg3.out hT.out.ne) hb3.out (by omega) 1 1 [.float .f64 qb] rfl rfl (by simp [Value.oneCell']) (by omega) ?_; intro v4 w4 hown4 hb4 hg4 hat4; replace hown4 := Lib.hid hown4; replace hb4 := Lib.hid hb4; replace hg4 := Lib.hid hg4; replace hat4 := Lib.hid hat4))
          exact ⟨⟨k + 1, hx ++ [qa], hy ++ [qb], by go_num, by omega, hT.out.step hD.out hown3.out hb3.out hg3.out hat3.out hown4.out hb4.out hg4.out hat4.out⟩, by simp [intOf]; omega⟩
        · have hd1 : decide (k < ws.length) = false := by simpa using h1
          have hd1b : decide ((k : Int) < (ws.length : Int)) = false := by simp; omega
          obtain ⟨qa, hqa, -⟩ := quart (k : Int) (by omega) (by omega)
          obtain ⟨qb, hqb, -⟩ := half (k : Int) (by omega) (by omega)
          have hD : Hid (Dbl qa qb) := Lib.hid ⟨(k : Int), by omega, by omega, hqa, hqb⟩
          unfold qrtO at hqa
          unfold hlfO at hqb
          have e1 := fun w => run_float_arith (P := Try.prog) w .quo 23 .f64 _ _ _ hqa
          have e2 := fun w => run_float_arith (P := Try.prog) w .quo 23 .f64 _ _ _ hqb
          clear hqa hqb
          replace hT := Lib.hid hT
          go_wp2_with (first
            | (at_builtin; refine app_lit (w0 := wb) wb.heap.size rfl _ _ 25 23 (.float .f64 0) 1 8 rfl Try.underlying25 info23 rfl (by decide) (by decide) u7 k (fl hx) rfl hT.out.ox hT.out.hB (by omega) 1 1 [.float .f64 qa] rfl rfl (by simp [Value.oneCell']) (by omega) ?_; intro v3 w3 hown3 hb3 hg3 hat3; have hsz3 := hb3.size; replace hown3 := Lib.hid hown3; replace hb3 := Lib.hid hb3; replace hg3 := Lib.hid hg3; replace hat3 := Lib.hid hat3)
            | (at_builtin; refine app_lit (w0 := wb) wb.heap.size rfl _ _ 25 23 (.float .f64 0) 1 8 rfl Try.underlying25 info23 rfl (by decide) (by decide) u8 k (fl hy) rfl (own_kept2 hT.out.oy hg3.out hT.out.ne) hb3.out (by omega) 1 1 [.float .f64 qb] rfl rfl (by simp [Value.oneCell']) (by omega) ?_; intro v4 w4 hown4 hb4 hg4 hat4; replace hown4 := Lib.hid hown4; replace hb4 := Lib.hid hb4; replace hg4 := Lib.hid hg4; replace hat4 := Lib.hid hat4))
          exact ⟨⟨k + 1, hx ++ [qa], hy ++ [qb], by go_num, by omega, hT.out.step hD.out hown3.out hb3.out hg3.out hat3.out hown4.out hb4.out hg4.out hat4.out⟩, by simp [intOf]; omega⟩
      · have hk4' : k = 4 := by omega
        subst hk4'
        have hd : decide ((4 : Int) < 4) = false := by decide
        go_wp2_with fail
        go_meet
        case rel => exact ⟨hx, hy, hT⟩
  case rest =>
    obtain ⟨hx, hy, hT⟩ := hcut
    obtain ⟨A5, c5, rfl, hn5, hc5, hr5, hA5⟩ := Rd.own hT.ox
    obtain ⟨A6, c6, rfl, hn6, hc6, hr6, hA6⟩ := Rd.own hT.oy
    replace hr5 := Lib.hid hr5
    replace hr6 := Lib.hid hr6
    replace hA5 := Lib.hid hA5
    replace hA6 := Lib.hid hA6
    have hlx := Lib.hid hT.lx
    have hly := Lib.hid hT.ly
    have hdb := Lib.hid hT.db
    have hBc := Lib.hid (bl_then hBb.out hbb hT.hB).drew
    have hRc := Lib.hid (hRb.out.below hT.hB.drew)
    have hnc := Lib.hid (hnm.out.below hT.hB.drew)
    have hxc := Lib.hid (bl_row hT.hB.drew hbx.out)
    replace hT := Lib.hid hT
    go_upto_region 13 with fail
    have hSd : wc.drew.cell? ⟨g, 0, none⟩ = some (.slice B vs.length d) ∧ wc.drew.cell? ⟨g, 1, none⟩ = some (.slice none 0 0) ∧ wc.drew.cell? ⟨g, 2, none⟩ = some (.slice none 0 0) := ⟨by rw [cell_of_row _ _ 0 _ 48 (0, 0) hxc.out]; rfl, by rw [cell_of_row _ _ 1 _ 48 (0, 0) hxc.out]; rfl, by rw [cell_of_row _ _ 2 _ 48 (0, 0) hxc.out]; rfl⟩
    have hSk : Hid (∀ w', Below wc.drew.heap.size wc.drew w' → (w'.cell? ⟨g, 0, none⟩ = some (.slice B vs.length d) ∧ w'.cell? ⟨g, 1, none⟩ = some (.slice none 0 0) ∧ w'.cell? ⟨g, 2, none⟩ = some (.slice none 0 0))) := Lib.hid (fun w' hb => ⟨bl_cell hb hSd.1, bl_cell hb hSd.2.1, bl_cell hb hSd.2.2⟩)
    have ho1 := Lib.hid (order_any wc.drew B none none (some ⟨g + 1, 0, none⟩) A5 d 0 0 0 0 4 c5 vs nms4 hx hRc.out hnc.out hr5.out hvd hdm hv30 (by rw [nms4_len]; omega) (by omega) (by rw [hlx.out]; exact hn5) hc5 hvz.out)
    have ho2 : Hid (∀ w', Below wc.drew.heap.size wc.drew w' → Calls Try.prog 23 #[.agg #[.slice B vs.length d, .slice none 0 0, .slice none 0 0], .slice (some ⟨g + 1, 0, none⟩) nms4.length 4, .slice A6 hy.length c6] w' fun e w'' => ∃ gd f, e = .returned (.slice (some ⟨gd, 0, none⟩) vs.length vs.length) ∧ w''.heap[gd]? = some (.cells (rowF vs.length f).toArray 3 (0, 0)) ∧ PermN vs.length f ∧ SegS (keyR vs nms4 hy) f 0 vs.length ∧ Below w'.heap.size w' w'' ∧ w'.heap.size ≤ gd) :=
      Lib.hid (fun w' hb => order_any w' B none none (some ⟨g + 1, 0, none⟩) A6 d 0 0 0 0 4 c6 vs nms4 hy (hRc.out.below hb) (hnc.out.below hb) ((hr6.out.below (Below.refl _ _).drew).below hb) hvd hdm hv30 (by rw [nms4_len]; omega) (by omega) (by rw [hly.out]; exact hn6) hc6 hvz.out)
    rw [nms4_len, hlx.out] at ho1
    rw [nms4_len, hly.out] at ho2
    go_region_held3 (fun w' => w'.cell? ⟨g, 0, none⟩ = some (.slice B vs.length d) ∧ w'.cell? ⟨g, 1, none⟩ = some (.slice none 0 0) ∧ w'.cell? ⟨g, 2, none⟩ = some (.slice none 0 0)) (first | with_reducible exact hSd | exact hSk.out _ hb9.out | exact hSk.out _ hb8.out)
      (first
        | (go_at_call 23; with_reducible refine ho1.out.mono ?_; rintro e w8 ⟨gd, f, rfl, hrow, hperm, hseg, hb8, hgd⟩; replace hb8 := Lib.hid hb8; replace hrow := Lib.hid hrow; replace hperm := Lib.hid hperm; replace hseg := Lib.hid hseg)
        | (go_at_call 23; with_reducible refine (ho2.out w8 hb8.out).mono ?_; rintro e w9 ⟨ge, f2, rfl, hrow2, hperm2, hseg2, hb9, hge⟩; have hrow1 := Lib.hid (bl_row hb9 hrow.out); replace hb9 := Lib.hid (bl_then hb8.out hb8.out.size hb9); replace hrow2 := Lib.hid hrow2; replace hperm2 := Lib.hid hperm2; replace hseg2 := Lib.hid hseg2))
    have hsame : Hid (∀ p, p < vs.length → f p = f2 p) := Lib.hid (fun p hp => scale_same vs nms4 hx hy (by rw [hlx.out, hly.out]) hdb.out hv30 hperm.out hperm2.out hseg.out hseg2.out p hp)
    have q0 := (hSk.out _ hb9.out).1
    have hcells : Hid (∀ p, p < vs.length → w9.cell? ⟨gd, p, none⟩ = some (.int .i64 (f p : Nat)) ∧ w9.cell? ⟨ge, p, none⟩ = some (.int .i64 (f p : Nat))) := Lib.hid (fun p hp =>
      ⟨by rw [cell_of_row w9 gd p _ 3 (0, 0) hrow1.out]; simp [rowF, hp], by rw [cell_of_row w9 ge p _ 3 (0, 0) hrow2.out, hsame.out p hp]; simp [rowF, hp]⟩)
    clear hSd
    go_wp2_with fail
    go_loopw [13] (fun i wr => ∃ k : Nat, i = .int .i64 (k : Nat) ∧ k ≤ vs.length ∧ Below w9.heap.size w9 wr) (fun i _ => vs.length - (intOf i).toNat)
    case atStart => exact ⟨0, rfl, Nat.zero_le _, Below.refl _ _⟩
    case round =>
      obtain ⟨k, rfl, hk, hb⟩ := hrel
      by_cases hlt : k < vs.length
      · have hd : decide (k < vs.length) = true := by simpa using hlt
        have hd2 : decide ((k : Int) < (vs.length : Int)) = true := by simp; omega
        have k1 : (0 : Int) ≤ (k : Int) := by omega
        have k2 : (k : Int) < (vs.length : Int) := by omega
        have c0 := bl_cell hb (hcells.out k hlt).1
        have c1 := bl_cell hb (hcells.out k hlt).2
        replace hb := Lib.hid hb
        go_wp2_with fail
        go_quiet (fail)
        go_wp2_with fail
        exact ⟨⟨k + 1, by go_num, by omega, bl_drewN hb.out _⟩, by simp [intOf]; omega⟩
      · have hd : decide (k < vs.length) = false := by simpa using hlt
        have hd2 : decide ((k : Int) < (vs.length : Int)) = false := by simp; omega
        go_wp2_with fail
        go_ret
        exact ⟨rfl, bl_then (bl_then hBc.out hBc.out.size hb9.out) (by have := hBc.out.size; have := hb9.out.size; omega) hb⟩
end Go.Proofs.Ytdhklfbelplbcaa
