/-
  f55 Parts.
-/
import Derived.Test.YtdhklfbelplbcaaZ19
import Derived.Test.YtdhklfbelplbcaaZ20
import Derived.Test.YtdhklfbelplbcaaZ10
namespace Go.Proofs.Ytdhklfbelplbcaa
set_option linter.unusedVariables false
set_option linter.unusedSimpArgs false
open Go.RowKit

theorem info52 : (Try.prog.info? 52).map (fun i => (i.zero, i.size, i.bytes)) = some (some (.slice none 0 0), 1, 24) := by kernel_rfl
/-- the parts so far, those that are done, and the part that is laid -/
structure PtS (w1 W : World) (v7 v8 v10 : Value) (xs : List Value) (dl pl : List ByteArray) : Prop where
  hB : Below w1.heap.size w1 W
  o7 : W.ownsRow w1.heap.size 52 1 v7 xs.length xs
  o8 : W.ownsRow w1.heap.size 9 1 v8 dl.length (strs dl)
  ne : ∀ b, v7.ownBlock = some b → v8.ownBlock ≠ some b
  el : ∀ x ∈ xs, ∃ l, 0 < l.length ∧ SlN W x l ∧ ∀ b, x.ownBlock = some b → v7.ownBlock ≠ some b ∧ v8.ownBlock ≠ some b
  pt : SlN W v10 pl
  pb : ∀ b, v10.ownBlock = some b → b < W.heap.size ∧ v7.ownBlock ≠ some b ∧ v8.ownBlock ≠ some b
theorem PtS.start (w1 : World) : PtS w1 w1 (.slice none 0 0) (.slice none 0 0) (.slice none 0 0) [] [] [] :=
  ⟨Below.refl _ _, own_nil _ _ _ _, own_nil _ _ _ _, (fun b h => by cases h), (fun x h => by cases h), SlN.nil _, (fun b h => by cases h)⟩
theorem PtS.below {w1 W W' : World} {v7 v8 v10 : Value} {xs : List Value} {dl pl : List ByteArray} (h : PtS w1 W v7 v8 v10 xs dl pl) (hb : Below W.heap.size W W') : PtS w1 W' v7 v8 v10 xs dl pl :=
  ⟨bl_then h.hB h.hB.size hb, own_below h.o7 hb, own_below h.o8 hb, h.ne, (fun x hx => by obtain ⟨l, h1, h2, h3⟩ := h.el x hx; exact ⟨l, h1, h2.below hb, h3⟩), h.pt.below hb, (fun b hb1 => ⟨Nat.lt_of_lt_of_le (h.pb b hb1).1 hb.size, (h.pb b hb1).2⟩)⟩
/-- a new part is begun -/
theorem PtS.fresh {w1 W : World} {v7 v8 v10 : Value} {xs : List Value} {dl pl : List ByteArray} (h : PtS w1 W v7 v8 v10 xs dl pl) : PtS w1 W v7 v8 (.slice none 0 0) xs dl [] :=
  ⟨h.hB, h.o7, h.o8, h.ne, h.el, SlN.nil _, fun b hb => by cases hb⟩
/-- a name more of the part -/
theorem PtS.with_ {w1 W W' : World} {v7 v8 v10 v10' : Value} {xs : List Value} {dl pl pl' : List ByteArray} (h : PtS w1 W v7 v8 v10 xs dl pl) (hb : Below W.heap.size W W') (hs : SlN W' v10' pl') (hf : Fr W.heap.size v10 v10') (hp : 0 < pl'.length) : PtS w1 W' v7 v8 v10' xs dl pl' := by
  have k := h.below hb
  refine ⟨k.hB, k.o7, k.o8, k.ne, k.el, hs, fun b hb1 => ?_⟩
  rcases hf with rfl | hf
  · exact k.pb b hb1
  · have h1 := hf b hb1
    exact ⟨hs.lt hp b hb1, fun e => by have := (h.o7.lt b e).2; omega, fun e => by have := (h.o8.lt b e).2; omega⟩
/-- a name more is done -/
theorem PtS.grow8 {w1 W W' : World} {v7 v8 v8' v10 : Value} {xs : List Value} {dl dl' pl : List ByteArray} (h : PtS w1 W v7 v8 v10 xs dl pl) (o1 : W'.ownsRow w1.heap.size 9 1 v8' dl'.length (strs dl')) (b1 : Below w1.heap.size w1 W') (g1 : W.grownBy W' v8.ownBlock) (a1 : v8'.ownBlock = v8.ownBlock ∨ ∃ j, v8'.ownBlock = some j ∧ W.heap.size ≤ j) : PtS w1 W' v7 v8' v10 xs dl' pl := by
  have hnew : ∀ b, b < W.heap.size → v8.ownBlock ≠ some b → v8'.ownBlock ≠ some b := by
    intro b hb hne e
    rcases a1 with a1 | ⟨j, a1, hj⟩
    · exact hne (by rw [← a1]; exact e)
    · rw [a1] at e; cases e; omega
  refine ⟨b1, own_kept2 h.o7 g1 (fun b e e2 => h.ne b e2 e), o1, fun b hb => hnew b (h.o7.lt b hb).2 (h.ne b hb), fun x hx => ?_, h.pt.grown g1 (fun b hb e => (h.pb b hb).2.2 e), fun b hb => ⟨Nat.lt_of_lt_of_le (h.pb b hb).1 g1.size, (h.pb b hb).2.1, hnew b (h.pb b hb).1 (h.pb b hb).2.2⟩⟩
  obtain ⟨l, h1, h2, h3⟩ := h.el x hx
  exact ⟨l, h1, h2.grown g1 (fun b hb e => (h3 b hb).2 e), fun b hb => ⟨(h3 b hb).1, hnew b (h2.lt h1 b hb) (h3 b hb).2⟩⟩
/-- a part more -/
theorem PtS.grow7 {w1 W W' : World} {v7 v8 v7' v10 : Value} {xs : List Value} {dl pl : List ByteArray} (h : PtS w1 W v7 v8 v10 xs dl pl) (hp : 0 < pl.length) (o1 : W'.ownsRow w1.heap.size 52 1 v7' (xs ++ [v10]).length (xs ++ [v10])) (b1 : Below w1.heap.size w1 W') (g1 : W.grownBy W' v7.ownBlock) (a1 : v7'.ownBlock = v7.ownBlock ∨ ∃ j, v7'.ownBlock = some j ∧ W.heap.size ≤ j) : PtS w1 W' v7' v8 (.slice none 0 0) (xs ++ [v10]) dl [] := by
  have hnew : ∀ b, b < W.heap.size → v7.ownBlock ≠ some b → v7'.ownBlock ≠ some b := by
    intro b hb hne e
    rcases a1 with a1 | ⟨j, a1, hj⟩
    · exact hne (by rw [← a1]; exact e)
    · rw [a1] at e; cases e; omega
  refine ⟨b1, o1, own_kept2 h.o8 g1 (fun b e e2 => h.ne b e e2), fun b hb e => hnew b (h.o8.lt b e).2 (fun e2 => h.ne b e2 e) hb, fun x hx => ?_, SlN.nil _, fun b hb => by cases hb⟩
  have hold : (∃ l, 0 < l.length ∧ SlN W x l ∧ ∀ b, x.ownBlock = some b → v7.ownBlock ≠ some b ∧ v8.ownBlock ≠ some b) := by
    rcases List.mem_append.1 hx with hx | hx
    · exact h.el x hx
    · obtain rfl := List.mem_singleton.1 hx
      exact ⟨pl, hp, h.pt, fun b hb => (h.pb b hb).2⟩
  obtain ⟨l, h1, h2, h3⟩ := hold
  exact ⟨l, h1, h2.grown g1 (fun b hb e => (h3 b hb).1 e), fun b hb => ⟨hnew b (h2.lt h1 b hb) (h3 b hb).1, (h3 b hb).2⟩⟩
/-- a slice of parts: none is empty -/
def SlPt (w : World) (v : Value) (m : Nat) : Prop := ∃ A c xs, v = .slice A m c ∧ m ≤ c ∧ c ≤ 9223372036854775807 ∧ Rd w A xs ∧ xs.length = m ∧ (∀ x ∈ xs, ∃ l, 0 < l.length ∧ SlN w x l) ∧ ∀ a, A = some a → a = ⟨a.block, 0, none⟩
theorem SlPt.below {w w' : World} {v : Value} {m : Nat} (h : SlPt w v m) (hb : Below w.heap.size w w') : SlPt w' v m := by
  obtain ⟨A, c, xs, h1, h2, h3, h4, h5, h6, h7⟩ := h
  exact ⟨A, c, xs, h1, h2, h3, h4.below hb, h5, fun x hx => by obtain ⟨l, k1, k2⟩ := h6 x hx; exact ⟨l, k1, k2.below hb⟩, h7⟩
def PartsPost (w : World) (n : Nat) (e : Ending) (w' : World) : Prop := ∃ v' m, e = .returned v' ∧ SlPt w' v' m ∧ m ≤ n ∧ Below w.heap.size w w'
theorem PtS.out {w1 W : World} {v7 v8 v10 : Value} {xs : List Value} {dl pl : List ByteArray} (h : PtS w1 W v7 v8 v10 xs dl pl) : SlPt W v7 xs.length := by
  obtain ⟨A, c, e, h2, h3, h4, h5⟩ := Rd.own h.o7
  refine ⟨A, c, xs, e, h2, h3, h4, rfl, fun x hx => by obtain ⟨l, k1, k2, -⟩ := h.el x hx; exact ⟨l, k1, k2⟩, fun a ha => ?_⟩
  rcases h.o7.2 with ⟨h6, -⟩ | ⟨g', cap, cur, h6, -⟩
  · rw [e] at h6; simp only [Value.slice.injEq] at h6; rw [h6.1] at ha; cases ha
  · rw [e] at h6; simp only [Value.slice.injEq] at h6; rw [h6.1] at ha; cases ha; rfl
set_option maxHeartbeats 64000000 in
set_option maxRecDepth 100000 in
theorem parts_any (v0 v1 : Value) (ns : List ByteArray) (es : List (ByteArray × ByteArray)) (w : World) (hv : SlN w v0 ns) (hs : SlEd w v1 es) (hns : ns.length ≤ 10) (hlen : es.length ≤ 100000) :
    Calls Try.prog 55 #[v0, v1] w (PartsPost w ns.length) := by
  obtain ⟨A0, c0, rfl, hn0, hc0, hA0, hr0⟩ := hv
  obtain ⟨A, c, rfl, hnc, hcm, hA, hr, hpl⟩ := hs
  obtain ⟨n, hm⟩ : ∃ n, n = es.length := ⟨_, rfl⟩
  obtain ⟨m, hmn⟩ : ∃ m, m = ns.length := ⟨_, rfl⟩
  rw [← hm] at hnc hlen hA ⊢
  have hin0 : Hid (∀ (s : ByteArray) (w' : World), Below w.heap.size w w' → Calls Try.prog 52 #[.slice A0 m c0, .string s] w' fun e w'' => e = .returned (.bool (inL ns s)) ∧ w' = w'') := Lib.hid (fun s w' hb => by rw [hmn]; exact in_any A0 c0 ns s w' (hr0.below hb) hn0 hc0)
  have hcel0 : Hid (∀ i, ∀ h : i < ns.length, ∃ ad x, A0 = some ad ∧ x = ns[i] ∧ ∀ w', Below w.heap.size w w' → w'.cell? (ad.add i) = some (.string x)) := Lib.hid (fun i h => by
    obtain ⟨ad, x, e1, e2, e3⟩ := hr0.at i h
    exact ⟨ad, x, e1, e3, fun w' hb => bl_cell hb e2⟩)
  have hcel : Hid (∀ k, k < n → ∃ g ka kb, A = some ⟨g, 0, none⟩ ∧ ∀ w', Below w.heap.size w w' → (w'.cell? ⟨g, k * 2, none⟩ = some (.string ka) ∧ w'.cell? ⟨g, k * 2 + 1, none⟩ = some (.string kb))) := Lib.hid (fun k hk => by
    obtain ⟨g, e, c0, c1⟩ := SlEd.cells hr hpl (k := k) (by rw [← hm]; exact hk)
    exact ⟨g, _, _, e, fun w' hb => ⟨bl_cell hb c0, bl_cell hb c1⟩⟩)
  rw [← hmn] at hn0 hns ⊢
  clear hr hpl hA hr0 hA0
  replace hm := Lib.hid hm
  replace hmn := Lib.hid hmn
  go_enter Try.func55, Try.ntmps55
  go_upto_block 0 with fail
  go_cut [5] (fun v5 wx => ∃ (fs : List (ByteArray × ByteArray)), Hid (fs.length ≤ n) ∧ Hid (SlEd wx v5 fs) ∧ Hid (Below w.heap.size w wx))
  case first =>
    go_wp2_with fail
    go_loopw [5, 6] (fun v5 v6 wr => ∃ (i : Nat) (fs : List (ByteArray × ByteArray)), v6 = .int .i64 (i : Nat) ∧ i ≤ n ∧ fs.length ≤ i ∧ Hid (wr.ownsRow w.heap.size 93 2 v5 fs.length (edV fs)) ∧ Hid (Below w.heap.size w wr)) (fun _ v _ => n - (intOf v).toNat)
    case atStart => exact ⟨0, [], rfl, Nat.zero_le _, Nat.le_refl _, Lib.hid (own_nil _ _ _ _), Lib.hid (Below.refl _ _)⟩
    case round =>
      obtain ⟨i, fs, rfl, hi, hfl, ho, hB⟩ := hrel
      by_cases hlt : i < n
      · have d1 : decide ((i : Int) < (n : Int)) = true := by simp; omega
        have i1 : (0 : Int) ≤ (i : Int) := by omega
        have i2 : (i : Int) < (n : Int) := by omega
        obtain ⟨g, ka, kb, rfl, hkc⟩ := hcel.out i hlt
        obtain ⟨y0, y1⟩ := hkc _ hB.out
        clear hkc
        have ha := Lib.hid (hin0.out ka wr hB.out)
        have hb := Lib.hid (hin0.out kb wr hB.out)
        cases h1 : inL ns ka with
        | false =>
          rw [h1] at ha
          clear hb
          go_wp2_with (go_at_call 52; (with_reducible refine ha.out.mono ?_); rintro e w' ⟨rfl, rfl⟩)
          exact ⟨⟨i + 1, fs, by go_num, by omega, by omega, ho, hB⟩, by simp [intOf]; omega⟩
        | true =>
          rw [h1] at ha
          cases h2 : inL ns kb with
          | false =>
            rw [h2] at hb
            go_wp2_with (first | (go_at_call 52; (with_reducible refine ha.out.mono ?_); rintro e w' ⟨rfl, rfl⟩) | (go_at_call 52; (with_reducible refine hb.out.mono ?_); rintro e w' ⟨rfl, rfl⟩))
            exact ⟨⟨i + 1, fs, by go_num, by omega, by omega, ho, hB⟩, by simp [intOf]; omega⟩
          | true =>
            rw [h2] at hb
            go_wp2_with (first | (go_at_call 52; (with_reducible refine ha.out.mono ?_); rintro e w' ⟨rfl, rfl⟩) | (go_at_call 52; (with_reducible refine hb.out.mono ?_); rintro e w' ⟨rfl, rfl⟩) | (at_builtin; refine app_lit (w0 := w) w.heap.size rfl _ _ 45 93 (.agg #[.string ⟨#[]⟩, .string ⟨#[]⟩]) 2 32 rfl Try.underlying45 info93 rfl (by decide) (by decide) u5 fs.length (edV fs) rfl ho.out hB.out hB.out.size 1 1 [.string ka, .string kb] rfl rfl (by simp [Value.oneCell']) (by omega) ?_; intro v9 w9 o9 b9 g9 a9; replace o9 := Lib.hid o9; replace b9 := Lib.hid b9; clear g9 a9))
            exact ⟨⟨i + 1, fs ++ [(ka, kb)], by go_num, by omega, by simp; omega, Lib.hid (by have := o9.out; simpa [edV_app, edV] using this), b9⟩, by simp [intOf]; omega⟩
      · have d1 : decide ((i : Int) < (n : Int)) = false := by simp; omega
        go_wp2_with fail
        go_meet
        exact ⟨fs, Lib.hid (by omega), Lib.hid (SlEd.own ho.out rfl), hB⟩
  case rest =>
    obtain ⟨fs, hfl, hfs, hBc⟩ := hcut
    obtain ⟨Af, cf, rfl, hf1, hf2, hf3, hf4, hf5⟩ := hfs.out
    obtain ⟨p, hp⟩ : ∃ p, p = fs.length := ⟨_, rfl⟩
    have hled0 : Hid (∀ (s : ByteArray) (w' : World), Below wc.heap.size wc w' → Calls Try.prog 64 #[.string s, .slice Af p cf] w' (LedPost w' s p)) := Lib.hid (fun s w' hb => by
      rw [hp]; exact led_any _ fs s w' (hfs.out.below hb) (by have := hfl.out; omega))
    rw [← hp] at hf1 ⊢
    clear hf3 hf4 hf5
    replace hp := Lib.hid hp
    replace hcel0 : Hid (∀ i, ∀ h : i < ns.length, ∃ ad x, A0 = some ad ∧ x = ns[i] ∧ ∀ w', Below wc.heap.size wc w' → w'.cell? (ad.add i) = some (.string x)) := Lib.hid (fun i h => by
      obtain ⟨ad, x, e1, e2, e3⟩ := hcel0.out i h
      exact ⟨ad, x, e1, e2, fun w' hb => e3 w' (bl_then hBc.out hBc.out.size hb)⟩)
    clear hcel hin0 hfs
    go_wp2_with fail
    go_loopw [7, 8, 9] (fun v7 v8 v9 wr => ∃ (i : Nat) (xs : List Value) (dl : List ByteArray), v9 = .int .i64 (i : Nat) ∧ i ≤ m ∧ xs.length ≤ i ∧ dl.length ≤ i * 10 ∧ Hid (PtS wc wr v7 v8 (.slice none 0 0) xs dl [])) (fun _ _ v _ => m - (intOf v).toNat)
    case atStart => exact ⟨0, [], [], rfl, Nat.zero_le _, Nat.le_refl _, Nat.le_refl _, Lib.hid (PtS.start wc)⟩
    case round =>
      obtain ⟨wi, rfl⟩ : ∃ x, x = wr := ⟨_, rfl⟩
      obtain ⟨i, xs, dl, rfl, hi, hxl, hdl, hP⟩ := hrel
      by_cases hlt : i < m
      · have d1 : decide ((i : Int) < (m : Int)) = true := by simp; omega
        have i1 : (0 : Int) ≤ (i : Int) := by omega
        have i2 : (i : Int) < (m : Int) := by omega
        have hil : i < ns.length := by rw [← hmn.out]; exact hlt
        obtain ⟨ad0, x0, rfl, hx0, hxc⟩ := hcel0.out i hil
        have y0 := hxc _ hP.out.hB
        obtain ⟨A8, c8, hv8, h81, h82, h83⟩ := SlN.list hP.out.o8
        have hin8 := Lib.hid (in_any A8 c8 dl x0 wi h83 h81 h82)
        subst hv8
        clear h83
        cases h1 : inL dl x0 with
        | true =>
          rw [h1] at hin8
          clear hx0
          go_wp2_with (go_at_call 52; (with_reducible refine hin8.out.mono ?_); rintro e w' ⟨rfl, rfl⟩)
          exact ⟨⟨i + 1, xs, dl, by go_num, by omega, by omega, by omega, hP⟩, by simp [intOf]; omega⟩
        | false =>
          rw [h1] at hin8
          replace hx0 := Lib.hid hx0
          replace hxc := Lib.hid hxc
          go_wp2_with (first | (go_at_call 52; (with_reducible refine hin8.out.mono ?_); rintro e w' ⟨rfl, rfl⟩) | (go_at_call 64; (with_reducible refine (hled0.out _ _ hP.out.hB).mono ?_); rintro e w5 ⟨v5, l5, rfl, hs5, hm5, hl5, hf5, hb5⟩; have hs5' := Lib.hid hs5; obtain ⟨A5, c5, rfl, hn5, hc5, hA5, hr5⟩ := hs5; replace hf5 := Lib.hid hf5; have hP5 := Lib.hid (hP.out.below hb5); replace hb5 := Lib.hid hb5; replace hr5 := Lib.hid hr5; replace hm5 := Lib.hid hm5; replace hA5 := Lib.hid hA5))
          obtain ⟨p5, hp5⟩ : ∃ q, q = l5.length := ⟨_, rfl⟩
          rw [← hp5] at hn5 hl5 hf5 hs5' ⊢
          replace hp5 := Lib.hid hp5
          clear hr5 hA5 hb5
          go_loopw [8, 10, 12] (fun v8 v10 v12 wr => ∃ (k : Nat) (dl' pl : List ByteArray), v12 = .int .i64 (k : Nat) ∧ k ≤ m ∧ dl'.length ≤ i * 10 + k ∧ pl.length ≤ k ∧ Hid (i < k → 0 < pl.length) ∧ Hid (PtS wc wr u7 v8 v10 xs dl' pl) ∧ Hid (SlN wr (.slice A5 p5 c5) l5 ∧ ∀ b, (Value.slice A5 p5 c5).ownBlock = some b → v8.ownBlock ≠ some b)) (fun _ _ v _ => m - (intOf v).toNat)
          case atStart =>
            refine ⟨0, dl, [], rfl, Nat.zero_le _, by omega, Nat.le_refl _, Lib.hid (fun h => by omega), hP5, Lib.hid ⟨hs5'.out, fun b hb e => ?_⟩⟩
            have h1 := hf5.out b hb
            have h2 := (hP.out.o8.lt b e).2
            omega
          case round =>
            obtain ⟨k, dl', pl, rfl, hk, hdl', hpl', hnz, hPk, hS5⟩ := hrel
            by_cases hkm : k < m
            · have d2 : decide ((k : Int) < (m : Int)) = true := by simp; omega
              have k1 : (0 : Int) ≤ (k : Int) := by omega
              have k2 : (k : Int) < (m : Int) := by omega
              have hkl : k < ns.length := by rw [← hmn.out]; exact hkm
              obtain ⟨ad2, x2, e2, hx2, hxc2⟩ := hcel0.out k hkl
              cases e2
              have hik : Hid (k = i → x2 = x0) := Lib.hid (fun e => by subst e; rw [hx2, hx0.out])
              have hSk : Hid (∀ w', Below wr.heap.size wr w' → (w'.cell? (ad0.add i) = some (.string x0) ∧ w'.cell? (ad0.add k) = some (.string x2))) := Lib.hid (fun w' hb => ⟨hxc.out w' (bl_then hPk.out.hB hPk.out.hB.size hb), hxc2 w' (bl_then hPk.out.hB hPk.out.hB.size hb)⟩)
              have hin : Hid (∀ w', Below wr.heap.size wr w' → Calls Try.prog 52 #[.slice A5 p5 c5, .string x2] w' fun e w'' => e = .returned (.bool (inL l5 x2)) ∧ w' = w'') := Lib.hid (fun w' hb => by
                obtain ⟨A', c', he, h1, h2, -, h4⟩ := hS5.out.1.below hb
                rw [← hp5.out] at he
                cases he
                rw [hp5.out]
                exact in_any A5 c5 l5 x2 w' h4 h1 h2)
              have hled : Hid (∀ w', Below wr.heap.size wr w' → Calls Try.prog 64 #[.string x2, .slice Af p cf] w' (LedPost w' x2 p)) := Lib.hid (fun w' hb => hled0.out x2 w' (bl_then hPk.out.hB hPk.out.hB.size hb))
              clear hx2 hxc2
              cases h1 : inL l5 x2 with
              | false =>
                rw [h1] at hin
                have hki : Hid (k ≠ i) := Lib.hid (fun e => by
                  have := (inL_iff l5 x0).2 hm5.out
                  rw [← hik.out e, h1] at this; cases this)
                go_upto_region 18 with fail
                refine wp_region_heldR (S := fun w' => Below wr.heap.size wr w') opsZ18 _ (by kernel_rfl) liZ18 (by kernel_rfl) nsZ18 ((Below.refl wr.heap.size wr).drew) (fun hops hns hHeld => ?_)
                refine wpAnyH_takeR (i := 0) (v := ?vZ18a_1) hops hns rdZ18_0 (by rfl) frZ18_0 rfl (fun _ _ _ h => h) stZ18_0 (Or.inl ⟨by kernel_rfl, ?hyZ18a_1⟩) (by assumption) ?restZ18a_1
                case hyZ18a_1 => (intro w hSw; obtain ⟨y0, y1⟩ := hSk.out _ hSw; clear hSw; go_simp; (try with_reducible rfl))
                try simp only [Act.put, sA, sB, sC]
                refine wpAnyH_takeR (i := 1) (v := ?vZ18a_2) hops hns rdZ18_1 (by rfl) frZ18_1 rfl (fun _ _ _ h => h) stZ18_1 (Or.inl ⟨by kernel_rfl, ?hyZ18a_2⟩) (by assumption) ?restZ18a_2
                case hyZ18a_2 => (intro w hSw; obtain ⟨y0, y1⟩ := hSk.out _ hSw; clear hSw; go_simp; (try with_reducible rfl))
                try simp only [Act.put, sA, sB, sC]
                refine wpAnyH_oneR (i := 2) (v := ?vZ18a_3) hops rdZ18_2 rfl stZ18_2 (Or.inl ⟨by kernel_rfl, ?hyZ18a_3⟩) (by assumption) ?restZ18a_3
                case hyZ18a_3 => (intro w hSw; obtain ⟨y0, y1⟩ := hSk.out _ hSw; clear hSw; go_simp; (try with_reducible rfl))
                try simp only [Act.put, sA, sB, sC]
                refine wpAnyH_oneR (i := 3) (v := ?vZ18a_4) hops rdZ18_3 rfl stZ18_3 (Or.inl ⟨by kernel_rfl, ?hyZ18a_4⟩) (by assumption) ?restZ18a_4
                case hyZ18a_4 => (intro w hSw; obtain ⟨y0, y1⟩ := hSk.out _ hSw; clear hSw; go_simp; (try with_reducible rfl))
                try simp only [Act.put, sA, sB, sC]
                refine wpAnyH_oneR (i := 4) (v := ?vZ18a_5) hops rdZ18_4 rfl stZ18_4 (Or.inl ⟨by kernel_rfl, ?hyZ18a_5⟩) (by assumption) ?restZ18a_5
                case hyZ18a_5 => (intro w hSw; obtain ⟨y0, y1⟩ := hSk.out _ hSw; clear hSw; go_simp; (try with_reducible rfl))
                try simp only [Act.put, sA, sB, sC]
                refine wpAnyH_readyR (rs := [5]) hops rdZ18_5 (by simp) (AllReadyH.consR rfl stZ18_5 (fun K hK => ?_) AllReadyH.nil)
                (go_simp; go_wp2_with (go_at_call 52; (with_reducible refine (hin.out _ (Below.refl _ _).drew).mono ?_); rintro e w5 ⟨rfl, rfl⟩))
                refine hK.out _ _ (by first | exact hBo.out | exact (Below.refl _ _).drew) (fun hHeld => ?_)
                clear hK K
                try simp only [Act.put, sA, sB, sC]
                refine wpAnyH_oneR (i := 6) (v := ?vZ18a_6) hops rdZ18_6 rfl stZ18_6 (Or.inl ⟨by kernel_rfl, ?hyZ18a_6⟩) (by assumption) ?restZ18a_6
                case hyZ18a_6 => (intro w hSw; obtain ⟨y0, y1⟩ := hSk.out _ hSw; clear hSw; go_simp; (try with_reducible rfl))
                try simp only [Act.put, sA, sB, sC]
                refine wpAnyH_takeR (i := 7) (v := undef) hops hns rdZ18_7 (by rfl) frZ18_2 rfl (fun _ _ _ h => h) stZ18_7 (Or.inr ⟨by kernel_rfl, rfl⟩) (by assumption) ?_
                try simp only [Act.put, sA, sB, sC]
                refine wpAnyH_takeR (i := 8) (v := undef) hops hns rdZ18_8 (by rfl) frZ18_3 rfl (fun _ _ _ h => h) stZ18_8 (Or.inr ⟨by kernel_rfl, rfl⟩) (by assumption) ?_
                try simp only [Act.put, sA, sB, sC]
                refine wpAnyH_takeR (i := 9) (v := undef) hops hns rdZ18_9 (by rfl) frZ18_4 rfl (fun _ _ _ h => h) stZ18_9 (Or.inr ⟨by kernel_rfl, rfl⟩) (by assumption) ?_
                try simp only [Act.put, sA, sB, sC]
                refine wpAnyH_takeR (i := 10) (v := undef) hops hns rdZ18_10 (by rfl) frZ18_5 rfl (fun _ _ _ h => h) stZ18_10 (Or.inr ⟨by kernel_rfl, rfl⟩) (by assumption) ?_
                try simp only [Act.put, sA, sB, sC]
                refine wpAnyH_takeR (i := 11) (v := undef) hops hns rdZ18_11 (by rfl) frZ18_6 rfl (fun _ _ _ h => h) stZ18_11 (Or.inr ⟨by kernel_rfl, rfl⟩) (by assumption) ?_
                try simp only [Act.put, sA, sB, sC]
                refine wpAnyH_takeR (i := 12) (v := undef) hops hns rdZ18_12 (by rfl) frZ18_7 rfl (fun _ _ _ h => h) stZ18_12 (Or.inr ⟨by kernel_rfl, rfl⟩) (by assumption) ?_
                try simp only [Act.put, sA, sB, sC]
                refine wpAnyH_takeR (i := 13) (v := undef) hops hns rdZ18_13 (by rfl) frZ18_8 rfl (fun _ _ _ h => h) stZ18_13 (Or.inr ⟨by kernel_rfl, rfl⟩) (by assumption) ?_
                try simp only [Act.put, sA, sB, sC]
                refine wpAnyH_oneR (i := 14) (v := undef) hops rdZ18_14 rfl stZ18_14 (Or.inr ⟨by kernel_rfl, rfl⟩) (by assumption) ?_
                try simp only [Act.put, sA, sB, sC]
                refine wpAnyH_oneR (i := 15) (v := undef) hops rdZ18_15 rfl stZ18_15 (Or.inr ⟨by kernel_rfl, rfl⟩) (by assumption) ?_
                try simp only [Act.put, sA, sB, sC]
                refine wpAnyH_oneR (i := 16) (v := undef) hops rdZ18_16 rfl stZ18_16 (Or.inr ⟨by kernel_rfl, rfl⟩) (by assumption) ?_
                try simp only [Act.put, sA, sB, sC]
                refine wpAnyH_oneR (i := 17) (v := undef) hops rdZ18_17 rfl stZ18_17 (Or.inr ⟨by kernel_rfl, rfl⟩) (by assumption) ?_
                try simp only [Act.put, sA, sB, sC]
                refine wpAnyH_oneR (i := 18) (v := ?vZ18a_7) hops rdZ18_18 rfl stZ18_18 (Or.inl ⟨by kernel_rfl, ?hyZ18a_7⟩) (by assumption) ?restZ18a_7
                case hyZ18a_7 => (intro w hSw; obtain ⟨y0, y1⟩ := hSk.out _ hSw; clear hSw; go_simp; (try with_reducible rfl))
                try simp only [Act.put, sA, sB, sC]
                refine wpAnyH_doneR hops rdZ18_19 ?_
                go_wp2_with fail
                exact ⟨⟨k + 1, dl', pl, by go_num, by omega, by omega, by omega, Lib.hid (fun h => hnz.out (by have := hki.out; omega)), Lib.hid (hPk.out.below (Below.refl _ _).drew), Lib.hid ⟨hS5.out.1.below (Below.refl _ _).drew, hS5.out.2⟩⟩, by simp [intOf]; omega⟩
              | true =>
                rw [h1] at hin
                go_upto_region 18 with fail
                refine wp_region_heldR (S := fun w' => Below wr.heap.size wr w') opsZ18 _ (by kernel_rfl) liZ18 (by kernel_rfl) nsZ18 ((Below.refl wr.heap.size wr).drew) (fun hops hns hHeld => ?_)
                refine wpAnyH_takeR (i := 0) (v := ?vZ18b_1) hops hns rdZ18_0 (by rfl) frZ18_0 rfl (fun _ _ _ h => h) stZ18_0 (Or.inl ⟨by kernel_rfl, ?hyZ18b_1⟩) (by assumption) ?restZ18b_1
                case hyZ18b_1 => (intro w hSw; obtain ⟨y0, y1⟩ := hSk.out _ hSw; clear hSw; go_simp; (try with_reducible rfl))
                try simp only [Act.put, sA, sB, sC]
                refine wpAnyH_takeR (i := 1) (v := ?vZ18b_2) hops hns rdZ18_1 (by rfl) frZ18_1 rfl (fun _ _ _ h => h) stZ18_1 (Or.inl ⟨by kernel_rfl, ?hyZ18b_2⟩) (by assumption) ?restZ18b_2
                case hyZ18b_2 => (intro w hSw; obtain ⟨y0, y1⟩ := hSk.out _ hSw; clear hSw; go_simp; (try with_reducible rfl))
                try simp only [Act.put, sA, sB, sC]
                refine wpAnyH_oneR (i := 2) (v := ?vZ18b_3) hops rdZ18_2 rfl stZ18_2 (Or.inl ⟨by kernel_rfl, ?hyZ18b_3⟩) (by assumption) ?restZ18b_3
                case hyZ18b_3 => (intro w hSw; obtain ⟨y0, y1⟩ := hSk.out _ hSw; clear hSw; go_simp; (try with_reducible rfl))
                try simp only [Act.put, sA, sB, sC]
                refine wpAnyH_oneR (i := 3) (v := ?vZ18b_4) hops rdZ18_3 rfl stZ18_3 (Or.inl ⟨by kernel_rfl, ?hyZ18b_4⟩) (by assumption) ?restZ18b_4
                case hyZ18b_4 => (intro w hSw; obtain ⟨y0, y1⟩ := hSk.out _ hSw; clear hSw; go_simp; (try with_reducible rfl))
                try simp only [Act.put, sA, sB, sC]
                refine wpAnyH_oneR (i := 4) (v := ?vZ18b_5) hops rdZ18_4 rfl stZ18_4 (Or.inl ⟨by kernel_rfl, ?hyZ18b_5⟩) (by assumption) ?restZ18b_5
                case hyZ18b_5 => (intro w hSw; obtain ⟨y0, y1⟩ := hSk.out _ hSw; clear hSw; go_simp; (try with_reducible rfl))
                try simp only [Act.put, sA, sB, sC]
                refine wpAnyH_readyR (rs := [5]) hops rdZ18_5 (by simp) (AllReadyH.consR rfl stZ18_5 (fun K hK => ?_) AllReadyH.nil)
                (go_simp; go_wp2_with (go_at_call 52; (with_reducible refine (hin.out _ (Below.refl _ _).drew).mono ?_); rintro e w5 ⟨rfl, rfl⟩))
                refine hK.out _ _ (by first | exact hBo.out | exact (Below.refl _ _).drew) (fun hHeld => ?_)
                clear hK K
                try simp only [Act.put, sA, sB, sC]
                refine wpAnyH_oneR (i := 6) (v := ?vZ18b_6) hops rdZ18_6 rfl stZ18_6 (Or.inl ⟨by kernel_rfl, ?hyZ18b_6⟩) (by assumption) ?restZ18b_6
                case hyZ18b_6 => (intro w hSw; obtain ⟨y0, y1⟩ := hSk.out _ hSw; clear hSw; go_simp; (try with_reducible rfl))
                try simp only [Act.put, sA, sB, sC]
                refine wpAnyH_takeR (i := 7) (v := ?vZ18b_7) hops hns rdZ18_7 (by rfl) frZ18_2 rfl (fun _ _ _ h => h) stZ18_7 (Or.inl ⟨by kernel_rfl, ?hyZ18b_7⟩) (by assumption) ?restZ18b_7
                case hyZ18b_7 => (intro w hSw; obtain ⟨y0, y1⟩ := hSk.out _ hSw; clear hSw; go_simp; (try with_reducible rfl))
                try simp only [Act.put, sA, sB, sC]
                refine wpAnyH_takeR (i := 8) (v := ?vZ18b_8) hops hns rdZ18_8 (by rfl) frZ18_3 rfl (fun _ _ _ h => h) stZ18_8 (Or.inl ⟨by kernel_rfl, ?hyZ18b_8⟩) (by assumption) ?restZ18b_8
                case hyZ18b_8 => (intro w hSw; obtain ⟨y0, y1⟩ := hSk.out _ hSw; clear hSw; go_simp; (try with_reducible rfl))
                try simp only [Act.put, sA, sB, sC]
                refine wpAnyH_takeR (i := 9) (v := ?vZ18b_9) hops hns rdZ18_9 (by rfl) frZ18_4 rfl (fun _ _ _ h => h) stZ18_9 (Or.inl ⟨by kernel_rfl, ?hyZ18b_9⟩) (by assumption) ?restZ18b_9
                case hyZ18b_9 => (intro w hSw; obtain ⟨y0, y1⟩ := hSk.out _ hSw; clear hSw; go_simp; (try with_reducible rfl))
                try simp only [Act.put, sA, sB, sC]
                refine wpAnyH_takeR (i := 10) (v := ?vZ18b_10) hops hns rdZ18_10 (by rfl) frZ18_5 rfl (fun _ _ _ h => h) stZ18_10 (Or.inl ⟨by kernel_rfl, ?hyZ18b_10⟩) (by assumption) ?restZ18b_10
                case hyZ18b_10 => (intro w hSw; obtain ⟨y0, y1⟩ := hSk.out _ hSw; clear hSw; go_simp; (try with_reducible rfl))
                try simp only [Act.put, sA, sB, sC]
                refine wpAnyH_takeR (i := 11) (v := ?vZ18b_11) hops hns rdZ18_11 (by rfl) frZ18_6 rfl (fun _ _ _ h => h) stZ18_11 (Or.inl ⟨by kernel_rfl, ?hyZ18b_11⟩) (by assumption) ?restZ18b_11
                case hyZ18b_11 => (intro w hSw; obtain ⟨y0, y1⟩ := hSk.out _ hSw; clear hSw; go_simp; (try with_reducible rfl))
                try simp only [Act.put, sA, sB, sC]
                refine wpAnyH_takeR (i := 13) (v := ?vZ18b_12) hops hns rdZ18_12 (by rfl) frZ18_9 rfl (fun _ _ _ h => h) stZ18_19 (Or.inl ⟨by kernel_rfl, ?hyZ18b_12⟩) (by assumption) ?restZ18b_12
                case hyZ18b_12 => (intro w hSw; obtain ⟨y0, y1⟩ := hSk.out _ hSw; clear hSw; go_simp; (try with_reducible rfl))
                try simp only [Act.put, sA, sB, sC]
                refine wpAnyH_takeR (i := 14) (v := ?vZ18b_13) hops hns rdZ18_20 (by rfl) frZ18_10 rfl (fun _ _ _ h => h) stZ18_20 (Or.inl ⟨by kernel_rfl, ?hyZ18b_13⟩) (by assumption) ?restZ18b_13
                case hyZ18b_13 => (intro w hSw; obtain ⟨y0, y1⟩ := hSk.out _ hSw; clear hSw; go_simp; (try with_reducible rfl))
                try simp only [Act.put, sA, sB, sC]
                refine wpAnyH_takeR (i := 15) (v := ?vZ18b_14) hops hns rdZ18_21 (by rfl) frZ18_11 rfl (fun _ _ _ h => h) stZ18_21 (Or.inl ⟨by kernel_rfl, ?hyZ18b_14⟩) (by assumption) ?restZ18b_14
                case hyZ18b_14 => (intro w hSw; obtain ⟨y0, y1⟩ := hSk.out _ hSw; clear hSw; go_simp; (try with_reducible rfl))
                try simp only [Act.put, sA, sB, sC]
                refine wpAnyH_takeR (i := 16) (v := ?vZ18b_15) hops hns rdZ18_22 (by rfl) frZ18_12 rfl (fun _ _ _ h => h) stZ18_22 (Or.inl ⟨by kernel_rfl, ?hyZ18b_15⟩) (by assumption) ?restZ18b_15
                case hyZ18b_15 => (intro w hSw; obtain ⟨y0, y1⟩ := hSk.out _ hSw; clear hSw; go_simp; (try with_reducible rfl))
                try simp only [Act.put, sA, sB, sC]
                refine wpAnyH_readyR (rs := [12]) hops rdZ18_23 (by simp) (AllReadyH.consR rfl stZ18_23 (fun K hK => ?_) AllReadyH.nil)
                (go_simp; go_wp2_with (go_at_call 64; (with_reducible refine (hled.out _ (Below.refl _ _).drew).mono ?_); rintro e w6 ⟨v6, l6, rfl, hs6, hm6, hl6, -, hb6⟩; obtain ⟨A6, c6, rfl, hn6, hc6, -, hr6⟩ := hs6; have hBo := Lib.hid (bl_then (Below.refl wr.heap.size wr).drew (Nat.le_refl _) hb6); have hin6 := Lib.hid (in_any A6 c6 l6 x0 w6 hr6 hn6 hc6); obtain ⟨q, hq⟩ : ∃ q, inL l6 x0 = q := ⟨_, rfl⟩; rw [hq] at hin6; have hqi : Hid (x2 = x0 → q = true) := Lib.hid (fun e => by rw [← hq, inL_iff, ← e]; exact hm6); replace hq := Lib.hid hq; replace hb6 := Lib.hid hb6; clear hr6 hm6))
                refine hK.out _ _ (by first | exact hBo.out | exact (Below.refl _ _).drew) (fun hHeld => ?_)
                clear hK K
                try simp only [Act.put, sA, sB, sC]
                refine wpAnyH_readyR (rs := [17]) hops rdZ18_17 (by simp) (AllReadyH.consR rfl stZ18_17 (fun K hK => ?_) AllReadyH.nil)
                (go_simp; go_wp2_with (go_at_call 52; (with_reducible refine hin6.out.mono ?_); rintro e w7 ⟨rfl, rfl⟩))
                refine hK.out _ _ (by first | exact hBo.out | exact (Below.refl _ _).drew) (fun hHeld => ?_)
                clear hK K
                try simp only [Act.put, sA, sB, sC]
                refine wpAnyH_oneR (i := 18) (v := ?vZ18b_16) hops rdZ18_18 rfl stZ18_18 (Or.inl ⟨by kernel_rfl, ?hyZ18b_16⟩) (by assumption) ?restZ18b_16
                case hyZ18b_16 => (intro w hSw; obtain ⟨y0, y1⟩ := hSk.out _ hSw; clear hSw; go_simp; (try with_reducible rfl))
                try simp only [Act.put, sA, sB, sC]
                refine wpAnyH_doneR hops rdZ18_19 ?_
                have hP6 := Lib.hid (hPk.out.below hBo.out)
                have hS6 : Hid (SlN w6 (.slice A5 p5 c5) l5) := Lib.hid (hS5.out.1.below hBo.out)
                cases q with
                | false =>
                  go_wp2_with fail
                  exact ⟨⟨k + 1, dl', pl, by go_num, by omega, by omega, by omega, Lib.hid (fun h => by
                    by_cases e : k = i
                    · have := hqi.out (hik.out e); cases this
                    · exact hnz.out (by omega)), hP6, Lib.hid ⟨hS6.out, hS5.out.2⟩⟩, by simp [intOf]; omega⟩
                | true =>
                  obtain ⟨A10, c10, he10, hn10, hc10, hA10, hr10⟩ := hP6.out.pt
                  subst he10
                  have hwt := Lib.hid (with_any A10 c10 pl x2 w6 hr10 hA10 hn10 hc10 (by omega))
                  clear hA10 hr10
                  have z2 := (hSk.out w6 hBo.out).2
                  go_wp2_with (first | (go_at_call 44; (with_reducible refine hwt.out.mono ?_); rintro e w8 ⟨v10, rfl, hs10, hf10, hb10⟩; have hP8 := Lib.hid (hP6.out.with_ hb10 hs10 hf10 (withL_pos _ _)); have hS8 := Lib.hid (hS6.out.below hb10); replace z2 := bl_cell hb10 z2; clear hs10 hf10 hb10) | (at_builtin; refine app_lit (w0 := wc) wc.heap.size rfl _ _ 52 9 (.string ⟨#[]⟩) 1 16 rfl Try.underlying52 info9 rfl (by decide) (by decide) u8 dl'.length (strs dl') rfl hP8.out.o8 hP8.out.hB hP8.out.hB.size 1 1 [.string x2] rfl rfl (by simp [Value.oneCell']) (by omega) ?_; intro v9 w9 o9 b9 g9 a9; replace o9 := Lib.hid o9; replace b9 := Lib.hid b9; replace g9 := Lib.hid g9; replace a9 := Lib.hid a9))
                  refine ⟨⟨k + 1, dl' ++ [x2], withL pl x2, by go_num, by omega, by simp; omega, by have := withL_len pl x2; omega, Lib.hid (fun _ => withL_pos _ _), Lib.hid (hP8.out.grow8 (by have := o9.out; simpa [strs, enc] using this) b9.out g9.out a9.out), Lib.hid ⟨hS8.out.grown g9.out (fun b hb e => hS5.out.2 b hb e), fun b hb e => ?_⟩⟩, by simp [intOf]; omega⟩
                  rcases a9.out with a1 | ⟨j, a1, hj⟩
                  · exact hS5.out.2 b hb (by rw [← a1]; exact e)
                  · rw [a1] at e; cases e
                    have := hS8.out.lt (List.length_pos_of_mem hm5.out) b hb
                    omega
            · have hkm' : Hid (k = m) := Lib.hid (by omega)
              have d2 : decide ((k : Int) < (m : Int)) = false := by simp; omega
              have hpp : 0 < pl.length := hnz.out (by have := hkm'.out; omega)
              obtain ⟨A10, c10, he10, hn10, hc10, hA10, hr10⟩ := hPk.out.pt
              subst he10
              clear hA10 hr10
              have hx10 : xs.length ≤ 10 := by omega
              go_wp2_with (at_builtin; refine app_lit (w0 := wc) wc.heap.size rfl _ _ 46 52 (.slice none 0 0) 1 24 rfl Try.underlying46 info52 rfl (by decide) (by decide) u7 xs.length xs rfl hPk.out.o7 hPk.out.hB hPk.out.hB.size 1 1 [.slice A10 pl.length c10] rfl rfl (by simp [Value.oneCell']) (by omega) ?_; intro v9 w9 o9 b9 g9 a9; replace o9 := Lib.hid o9; replace b9 := Lib.hid b9; replace g9 := Lib.hid g9; replace a9 := Lib.hid a9)
              exact ⟨⟨i + 1, xs ++ [.slice A10 pl.length c10], dl', by go_num, by omega, by simp; omega, by omega, Lib.hid (hPk.out.grow7 hpp (by have := o9.out; simpa using this) b9.out g9.out a9.out)⟩, by simp [intOf]; omega⟩
      · have d1 : decide ((i : Int) < (m : Int)) = false := by simp; omega
        go_wp2_with fail
        first | go_ret | go_end0
        exact ⟨_, _, rfl, hP.out.out, by omega, hBc.out.trans (hP.out.hB.mono hBc.out.size)⟩
end Go.Proofs.Ytdhklfbelplbcaa
