/- The walks: ref.Bytes. -/
import Derived.Test.YtjlhajnficneoaaSj
import Derived.Deep.RegionHeld3
import Derived.Sort.AtCall
namespace Go.Proofs.Ytjlhajnficneoaa
set_option linter.unusedVariables false
set_option linter.unusedSimpArgs false
open Go.RowKit
section
variable {P : Program} {ops : Array Oper} {rest : List Oper} {o : Oper} {a : Act} {Q : Exit → Act → World → Prop}
/-- the same, as one step of a region that draws its order -/
theorem step_app {W : World} {K : Act → World → Prop} {E : Prop} (base : Nat) (hgd : o.guard = none) (s x : Operand) (t e : TypeId) (z : Value) (size bytes : Nat)
    (ho : o.op = .call { callee := .builtin .append, args := #[s, x], argTypes := #[t, t] })
    (ht : P.underlying t = some (.slice e)) (hinfo : (P.info? e).map (fun i => (i.zero, i.size, i.bytes)) = some (some z, size, bytes)) (hz : z.cells.size = size) (hsz : 0 < size) (hb0 : 0 < bytes)
    (v : Value) (n : Nat) (xs : List Value) (hs : a.eval s = v) (HO : W.ownsRow base e size v n xs) (hbase : base ≤ W.heap.size)
    (A : Option Addr) (m c : Nat) (news : List Value) (hx : a.eval x = .slice A m c) (hl : news.length = m * size) (hnews : Rd W A news) (hA : A = none → m = 0 ∧ c = 0) (h1 : ∀ u ∈ news, u.oneCell' = true)
    (hbytes : (n + m) * bytes ≤ 140737488355328)
    (h : ∀ v1 w1, w1.ownsRow base e size v1 (n + m) (xs ++ news) → Below base W w1 → W.grownBy w1 v.ownBlock → (v1.ownBlock = v.ownBlock ∨ ∃ b, v1.ownBlock = some b ∧ W.heap.size ≤ b) → K (a.put o.dst v1) w1) :
    if Region.wanted o (yielded ops a.tmps) = true then Oper.wp P o a W K Q else E := by
  have hw : Region.wanted o (yielded ops a.tmps) = true := by simp [Region.wanted, hgd]
  obtain ⟨i0, hi, hzz⟩ := Option.map_eq_some_iff.1 hinfo
  simp only [Prod.mk.injEq] at hzz
  obtain ⟨hz0, hz1, hz2⟩ := hzz
  have hlen : n + m ≤ 140737488355328 := Nat.le_trans (Nat.le_mul_of_pos_right _ hb0) hbytes
  rw [if_pos hw]
  cases A with
  | none =>
    obtain ⟨rfl, rfl⟩ := hA rfl
    have hn : news = [] := List.eq_nil_of_length_eq_zero (by simpa using hl)
    subst hn
    have hrun := run_append_owned_none (P := P) (w := W) base t o.type e i0 size ht hi v n xs HO
    unfold Oper.wp
    simp [execOp, ho, resolve, invoke, builtin, hs, hx, hrun, Result.andThen]
    exact h v W (by simpa using HO) (Below.refl _ _) ⟨rfl, rfl, rfl, Nat.le_refl _, fun _ _ _ => rfl⟩ (.inl rfl)
  | some ad =>
    have hn' : ∀ j u, news[j]? = some u → W.cell? (ad.add j) = some u := by
      intro j u hj
      obtain ⟨hj1, hj2⟩ := List.getElem?_eq_some_iff.1 hj
      rw [hnews.get j hj1, hj2]
    obtain ⟨v1, w1, hr, hown, hg, _, hat⟩ := run_append_own_at (P := P) W base t o.type e i0 z size bytes ht hi hz0 hz1 hz2 hz hsz v n xs HO ad m c news hl hn' h1 (by simp only [maxLen]; omega) hbytes hbase
    unfold Oper.wp execOp
    simp only [ho, resolve, invoke, builtin, Sem.run_bind, Sem.run_pure, Result.andThen_ok, List.map_toArray, List.map_cons, List.map_nil, hs, hx, hr]
    refine h v1 w1 hown ((Below.refl _ _).grown hg hbase (own_base HO)) hg ?_
    rcases hat with hat | hat
    · exact .inl hat
    · exact .inr ⟨_, hat, Nat.le_refl _⟩

end

theorem crc_at (w : World) (g cap n : Nat) (l : List Nat) (base : Nat) (hl : l.length = n) (h8 : Bytes8 l) (h : w.ownsRow base 5 1 (.slice (some ⟨g, 0, none⟩) n cap) n (bs l)) :
    Calls Try.prog 14 #[.slice (some ⟨g, 0, none⟩) n cap] w fun e w' => e = .returned (.int .u32 (crc l)) ∧ w = w' := by
  obtain ⟨A, c, e, h1, h2, h3, -⟩ := Rd.own h
  cases e
  subst hl
  exact refcrc_any _ cap l w h3 h8 h1 h2

set_option maxHeartbeats 40000000 in
set_option maxRecDepth 100000 in
theorem refbytes_ok (p : PartD) (A : Option Addr) (c : Nat) (w : World) (hok : p.ok) (hr : Rd w A (bs p.data)) (h8 : Bytes8 p.data) :
    Calls Try.prog 18 #[.agg #[.int .i64 p.gen, .int .i64 p.rc, .int .i64 p.n, .int .i64 p.ofn, .slice A 52 c]] w fun e w' => ∃ v, e = .returned (.tuple #[v, .int .i64 0]) ∧ w'.ownsRow w.heap.size 5 1 v 64 (bs p.bytes) ∧ Below w.heap.size w w' := by
  obtain ⟨a1, a2, a3, a4, a5, a6, a7, a8, a9⟩ := hok
  have e0 : decide (p.gen < 1) = false := by simp; omega
  have e1 : decide (p.gen > 4294967295) = false := by simp; omega
  have e2 : decide (p.rc < 0) = false := by simp; omega
  have e3 : decide (p.rc > 65535) = false := by simp; omega
  have e4 : decide (p.ofn < 1) = false := by simp; omega
  have e5 : decide (p.ofn > 255) = false := by simp; omega
  have e6 : decide (p.n < 0) = false := by simp; omega
  have e7 : decide (p.n ≥ p.ofn) = false := by simp; omega
  have hr' := Lib.hid hr
  have h8' := Lib.hid h8
  have a9' := Lib.hid a9
  clear hr h8 a9
  go_enter Try.func18, Try.ntmps18
  go_upto_region 3 with fail
  generalize hW : (w.alloc (Obj.cells #[Value.int .i64 p.gen, Value.int .i64 p.rc, Value.int .i64 p.n, Value.int .i64 p.ofn, Value.slice A 52 c] 28)) = W
  have hbox : W.heap[w.heap.size]? = some (.cells #[Value.int .i64 p.gen, Value.int .i64 p.rc, Value.int .i64 p.n, Value.int .i64 p.ofn, Value.slice A 52 c] 28 (0, 0)) := by
    rw [← hW]; exact heap_alloc_new w _
  have hsW : W.heap.size = w.heap.size + 1 := by rw [← hW]; simp
  have hbelW : Below w.heap.size w W := by rw [← hW]; exact bl_alloc (Below.refl _ _) _
  have hx0 := box_cell hbox 0
  have hx1 := box_cell hbox 1
  have hx2 := box_cell hbox 2
  have hx3 := box_cell hbox 3
  simp only [List.getElem?_toArray, List.getElem?_cons_zero, List.getElem?_cons_succ] at hx0 hx1 hx2 hx3
  have hbox' := Lib.hid hbox
  have hbelW' := Lib.hid hbelW
  clear hbox hbelW hW
  have kp : Hid (∀ w1, Below W.heap.size W w1 → w1.cell? ⟨w.heap.size, 0, none⟩ = some (.int .i64 p.gen) ∧ w1.cell? ⟨w.heap.size, 1, none⟩ = some (.int .i64 p.rc) ∧ w1.cell? ⟨w.heap.size, 2, none⟩ = some (.int .i64 p.n) ∧ w1.cell? ⟨w.heap.size, 3, none⟩ = some (.int .i64 p.ofn)) := Lib.hid (fun w1 hb =>
    ⟨(hb.cell (p := ⟨w.heap.size, 0, none⟩) (by simp; omega)).trans hx0, (hb.cell (p := ⟨w.heap.size, 1, none⟩) (by simp; omega)).trans hx1, (hb.cell (p := ⟨w.heap.size, 2, none⟩) (by simp; omega)).trans hx2, (hb.cell (p := ⟨w.heap.size, 3, none⟩) (by simp; omega)).trans hx3⟩)
  go_region_held3 (fun w' => w'.cell? ⟨w.heap.size, 0, none⟩ = some (.int .i64 p.gen) ∧ w'.cell? ⟨w.heap.size, 1, none⟩ = some (.int .i64 p.rc) ∧ w'.cell? ⟨w.heap.size, 2, none⟩ = some (.int .i64 p.n) ∧ w'.cell? ⟨w.heap.size, 3, none⟩ = some (.int .i64 p.ofn)) (first | exact ⟨hx0, hx1, hx2, hx3⟩ | exact kp1.out | exact kp2.out | exact kp3.out | exact kp4.out)
   (first
    | (go_at_call_of 32 (Value.slice none 0 0); refine (le_any W.heap.size (.slice none 0 0) 0 4 [] p.gen W.drew (own_nil _ _ _ _) (Nat.le_refl _) (by decide) (by decide)).mono ?_; rintro e w1 ⟨v1, rfl, hown1, hb1, -, -⟩; replace hb1 := Lib.hid ((Below.refl _ _).drew.trans hb1); have kp1 := Lib.hid (kp.out w1 hb1.out); replace hown1 := Lib.hid hown1)
    | (go_at_call_of 32 (Value.int .i64 2); refine (le_any W.heap.size v1 4 2 _ p.rc _ hown1.out (hb1.out.size) (by decide) (by decide)).mono ?_; rintro e w2 ⟨v2, rfl, hown2, hb2, -, -⟩; replace hb2 := Lib.hid (hb1.out.trans hb2); have kp2 := Lib.hid (kp.out w2 hb2.out); replace hown2 := Lib.hid hown2; clear kp1 hown1 hb1)
    | (go_at_call_of 32 (Value.int .i64 p.n); refine (le_any W.heap.size v2 6 1 _ p.n _ hown2.out (hb2.out.size) (by decide) (by decide)).mono ?_; rintro e w3 ⟨v3, rfl, hown3, hb3, -, -⟩; replace hb3 := Lib.hid (hb2.out.trans hb3); have kp3 := Lib.hid (kp.out w3 hb3.out); replace hown3 := Lib.hid hown3; clear kp2 hown2 hb2)
    | (go_at_call_of 32 (Value.int .i64 p.ofn); refine (le_any W.heap.size v3 7 1 _ p.ofn _ hown3.out (hb3.out.size) (by decide) (by decide)).mono ?_; rintro e w4 ⟨v4, rfl, hown4, hb4, -, -⟩; replace hb4 := Lib.hid (hb3.out.trans hb4); have kp4 := Lib.hid (kp.out w4 hb4.out); replace hown4 := Lib.hid hown4; clear kp3 hown3 hb3))
  replace hown4 := hown4.out
  obtain ⟨g4, cap4, rfl, hcap4, hg4⟩ := own_some hown4 (by decide)
  replace hown4 : Hid (w4.ownsRow W.heap.size 5 1 (.slice (some ⟨g4, 0, none⟩) 8 cap4) 8 (bs p.head)) := Lib.hid (by simpa [PartD.head, bs_append] using hown4)
  have hr4 : Hid (Rd w4 (some ⟨g4, 0, none⟩) (bs p.head)) := Lib.hid (by
    obtain ⟨A', c', e, -, -, h, -⟩ := Rd.own hown4.out
    cases e
    exact h)
  obtain ⟨ad, hA, -⟩ := hr'.out 0 (by have := a9'.out; rw [bs_length]; omega)
  subst hA
  have hw4 : Hid (Below w.heap.size w w4) := Lib.hid (bl_then hbelW'.out (by omega) hb4.out)
  have hxa := box_cell hbox'.out 4
  simp only [List.getElem?_toArray, List.getElem?_cons_zero, List.getElem?_cons_succ] at hxa
  have kq : Hid (∀ w1, Below W.heap.size W w1 → w1.cell? ⟨w.heap.size, 4, none⟩ = some (.slice (some ad) 52 c)) := Lib.hid (fun w1 hb => (hb.cell (p := ⟨w.heap.size, 4, none⟩) (by simp; omega)).trans hxa)
  have kq4 := Lib.hid (kq.out w4 hb4.out)
  clear kp kp4 hx0 hx1 hx2 hx3
  have hs4 := hb4.out.size
  have h86 : Hid (Bytes8 (p.head ++ p.data)) := Lib.hid ((head_8 p).append h8'.out)
  go_wp2_with fail
  go_region_held3 (fun w' => w'.cell? ⟨w.heap.size, 4, none⟩ = some (.slice (some ad) 52 c)) (first | exact kq.out _ hb4.out.drew | exact kq.out _ (bl_alloc hb4.out.drew _) | exact kq5.out | exact kq6.out)
   (first
    | (refine step_app (w4.heap.size) rfl _ _ 22 5 (.int .u8 0) 1 1 rfl Try.underlying22 info5 rfl (by decide) (by decide) _ 0 [] rfl (own_lit w4.drew w4.heap.size 5 1 0 [] (Nat.le_refl _) rfl (by omega)) (by simp) (some ⟨g4, 0, none⟩) 8 cap4 (bs p.head) rfl (by rw [bs_length, head_len]) (hr4.out.below (bl_alloc (Below.refl _ _).drew _)) (fun e => by cases e) (bs_one _) (by decide) ?_; rintro v5 w5 hown5 hb5 - -; replace hb5 := Lib.hid ((bl_alloc (Below.refl w4.heap.size w4).drew _).trans hb5); have kq5 := Lib.hid (kq.out w5 (bl_then hb4.out hs4 hb5.out)); replace hown5 := Lib.hid hown5)
    | (refine step_app (w4.heap.size) rfl _ _ 22 5 (.int .u8 0) 1 1 rfl Try.underlying22 info5 rfl (by decide) (by decide) v5 8 _ rfl hown5.out hb5.out.size (some ad) 52 c (bs p.data) rfl (by have := a9'.out; rw [bs_length, this]) (hr'.out.below (bl_then hw4.out (by omega) hb5.out)) (fun e => by cases e) (bs_one _) (by decide) ?_; rintro v6 w6 hown6 hb6 - -; replace hb6 := Lib.hid (hb5.out.trans hb6); have kq6 := Lib.hid (kq.out w6 (bl_then hb4.out hs4 hb6.out)); obtain ⟨g6, cap6, rfl, hcap6, -⟩ := own_some hown6 (by decide); have hcr := Lib.hid (crc_at w6 g6 cap6 60 (p.head ++ p.data) w4.heap.size (by have := a9'.out; simp [head_len, this]) h86.out (by simpa [bs_append] using hown6)); clear hown6 kq5 hown5 hb5)
    | (go_at_call 14; refine hcr.out.mono ?_; rintro e w7 ⟨rfl, rfl⟩))
  have hw6 : Hid (Below w.heap.size w w6) := Lib.hid (bl_then hw4.out (by omega) hb6.out)
  have hW6 : Hid (Below W.heap.size W w6) := Lib.hid (bl_then hb4.out hs4 hb6.out)
  have ho6 : Hid (w6.drew.ownsRow W.heap.size 5 1 (.slice (some ⟨g4, 0, none⟩) 8 cap4) 8 (bs p.head)) := Lib.hid (own_below hown4.out hb6.out.drew)
  have hs6 := hW6.out.size
  have hcb := crc_lt (p.head ++ p.data) h86.out
  have hcc : ((crc (p.head ++ p.data) : Nat) : Int) < 4294967296 := by omega
  have hcd : (0 : Int) ≤ ((crc (p.head ++ p.data) : Nat) : Int) := by omega
  clear hown4 hr4 kq4 hcr hb6
  generalize hcv : crc (p.head ++ p.data) = cv at hcb hcc hcd ⊢
  replace hcv := Lib.hid hcv
  go_wp2_with fail
  go_region_held3 (fun w' => w'.cell? ⟨w.heap.size, 4, none⟩ = some (.slice (some ad) 52 c)) (first | exact kq.out _ hW6.out.drew | exact kq7.out | exact kq8.out)
   (first
    | (go_at_call 32; rw [wraps_i64 (cv : Int) hcd (by omega)]; refine (le_any W.heap.size (.slice (some ⟨g4, 0, none⟩) 8 cap4) 8 4 (bs p.head) (cv : Int) w6.drew ho6.out (by exact hs6) (by decide) (by decide)).mono ?_; rintro e w7 ⟨v7, rfl, hown7, hb7, -, -⟩; replace hb7 := Lib.hid (hW6.out.drew.trans hb7); have kq7 := Lib.hid (kq.out w7 hb7.out); replace hown7 := Lib.hid hown7)
    | (refine step_app (W.heap.size) rfl _ _ 22 5 (.int .u8 0) 1 1 rfl Try.underlying22 info5 rfl (by decide) (by decide) v7 12 _ rfl hown7.out hb7.out.size (some ad) 52 c (bs p.data) rfl (by have := a9'.out; rw [bs_length, this]) (hr'.out.below (bl_then hbelW'.out (by omega) hb7.out)) (fun e => by cases e) (bs_one _) (by decide) ?_; rintro v8 w8 hown8 hb8 - -; replace hb8 := Lib.hid (hb7.out.trans hb8); have kq8 := Lib.hid (kq.out w8 hb8.out); replace hown8 := Lib.hid hown8))
  go_wp2_with fail
  go_ret2
  exact ⟨_, rfl, by simpa [PartD.bytes, bs_append, hcv.out] using own_weaken hown8.out (by omega), bl_then hbelW'.out (by omega) hb8.out⟩
end Go.Proofs.Ytjlhajnficneoaa
