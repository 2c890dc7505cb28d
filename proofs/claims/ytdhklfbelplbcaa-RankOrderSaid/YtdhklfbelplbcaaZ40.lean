/-
  f24: the document's Order: each race is laid behind those that are not lighter.
-/
import Derived.Test.YtdhklfbelplbcaaZ39
import Derived.Test.YtdhklfbelplbcaaZ06
import Derived.Test.YtdhklfbelplbcaaZ10
namespace Go.Proofs.Ytdhklfbelplbcaa
set_option linter.unusedVariables false
set_option linter.unusedSimpArgs false
open Go.RowKit

def nats (l : List Nat) : List Value := l.map fun p => Value.int .i64 (p : Nat)
theorem nats_len (l : List Nat) : (nats l).length = l.length := by simp [nats]
theorem nats_one (l : List Nat) : ∀ u ∈ nats l, u.oneCell' = true := by
  intro u hu
  simp only [nats, List.mem_map] at hu
  obtain ⟨x, _, rfl⟩ := hu
  rfl
theorem nats_take (l : List Nat) (k : Nat) : (nats l).take k = nats (l.take k) := by simp [nats, List.map_take]
theorem nats_drop (l : List Nat) (k : Nat) : (nats l).drop k = nats (l.drop k) := by simp [nats, List.map_drop]
/-- places below i, the heaviest first -/
def OrdL (K : Nat → Int) (l : List Nat) (i : Nat) : Prop := l.length = i ∧ (∀ x ∈ l, x < i) ∧ l.Pairwise (LtK K)
theorem OrdL.nil (K : Nat → Int) : OrdL K [] 0 := ⟨rfl, (fun x h => by cases h), List.Pairwise.nil⟩
theorem OrdL.ins {K : Nat → Int} {l : List Nat} {i k : Nat} (h : OrdL K l i) (hk : k ≤ i) (h1 : ∀ p, p < k → ∀ hp : p < l.length, K i ≤ K l[p]) (h2 : ∀ hp : k < l.length, K l[k] < K i) : OrdL K (l.take k ++ [i] ++ l.drop k) (i + 1) := by
  obtain ⟨hl, hx, hp⟩ := h
  have hpw : (l.take k ++ l.drop k).Pairwise (LtK K) := by rw [List.take_append_drop]; exact hp
  rw [List.pairwise_append] at hpw
  obtain ⟨q1, q2, q3⟩ := hpw
  have hbef : ∀ x ∈ l.take k, LtK K x i := by
    intro x hm
    obtain ⟨p, hp1, rfl⟩ := List.mem_iff_getElem.1 hm
    rw [List.length_take] at hp1
    rw [List.getElem_take]
    have e1 := h1 p (by omega) (by omega)
    have e2 := hx l[p] (List.getElem_mem _)
    unfold LtK; omega
  have hbeh : ∀ y ∈ l.drop k, LtK K i y := by
    intro y hm
    obtain ⟨p, hp1, rfl⟩ := List.mem_iff_getElem.1 hm
    rw [List.length_drop] at hp1
    rw [List.getElem_drop]
    have e1 := h2 (by omega)
    by_cases h0 : p = 0
    · subst h0; simp only [Nat.add_zero]; unfold LtK; omega
    · have e2 := List.pairwise_iff_getElem.1 hp k (k + p) (by omega) (by omega) (by omega)
      unfold LtK at e2 ⊢; omega
  refine ⟨by simp; omega, fun x hm => ?_, ?_⟩
  · rw [List.mem_append, List.mem_append, List.mem_singleton] at hm
    rcases hm with (hm | rfl) | hm
    · have := hx x (List.mem_of_mem_take hm); omega
    · omega
    · have := hx x (List.mem_of_mem_drop hm); omega
  · rw [List.append_assoc, List.pairwise_append]
    refine ⟨q1, ?_, ?_⟩
    · rw [List.singleton_append, List.pairwise_cons]; exact ⟨hbeh, q2⟩
    · intro a ha b hb
      rw [List.singleton_append, List.mem_cons] at hb
      rcases hb with rfl | hb
      · exact hbef a ha
      · exact q3 a ha b hb
theorem OrdL.fin {K : Nat → Int} {l : List Nat} {n : Nat} (h : OrdL K l n) : PermN n (fun p => l[p]?.getD 0) ∧ SegS K (fun p => l[p]?.getD 0) 0 n ∧ rowF n (fun p => l[p]?.getD 0) = nats l := by
  obtain ⟨hl, hx, hp⟩ := h
  have hg : ∀ p, ∀ hp : p < n, l[p]?.getD 0 = l[p]'(by omega) := fun p hp => by rw [List.getElem?_eq_getElem (by omega)]; rfl
  have hpg := List.pairwise_iff_getElem.1 hp
  refine ⟨⟨fun p hp => ?_, fun p q hp hq e => ?_⟩, fun p q _ h1 h2 => ?_, ?_⟩
  · show l[p]?.getD 0 < n
    rw [hg p hp]; exact hx _ (List.getElem_mem _)
  · simp only [hg p hp, hg q hq] at e
    rcases Nat.lt_trichotomy p q with h | h | h
    · exact absurd (hpg p q (by omega) (by omega) h) (by rw [e]; unfold LtK; omega)
    · exact h
    · exact absurd (hpg q p (by omega) (by omega) h) (by rw [e]; unfold LtK; omega)
  · simp only [hg p (by omega), hg q (by omega)]
    exact hpg p q (by omega) (by omega) h1
  · apply List.ext_getElem
    · simp [rowF, nats, hl]
    · intro p h1 h2
      simp only [rowF, nats, List.getElem_map, List.getElem_range]
      rw [hg p (by simpa [rowF] using h1)]
theorem own_cut {w : World} {base g n c : Nat} {e : TypeId} {xs : List Value} (h : w.ownsRow base e 1 (.slice (some ⟨g, 0, none⟩) n c) n xs) {k : Nat} (hk : k ≤ n) : w.ownsRow base e 1 (.slice (some ⟨g, 0, none⟩) k c) k (xs.take k) := by
  obtain ⟨hl, h⟩ := h
  rcases h with ⟨h, -⟩ | ⟨g', cap, cur, h3, h4, h5, h6, h7, h8, h9⟩
  · cases h
  · simp only [Value.slice.injEq, Option.some.injEq, Addr.mk.injEq] at h3
    obtain ⟨⟨rfl, -⟩, -, rfl⟩ := h3
    refine ⟨by rw [List.length_take, hl]; omega, .inr ⟨_, _, cur, rfl, h4, h5, by omega, h7, h8, ?_⟩⟩
    rw [← h9, List.take_take, Nat.mul_one, Nat.mul_one, Nat.min_eq_left hk]
theorem info3' : (Try.prog.info? 3).map (fun i => (i.zero, i.size, i.bytes)) = some (some (.int .i64 0), 1, 8) := by kernel_rfl
theorem refF_ge {o1 o2 : Option Nat} {r1 r2 : Nat} (h1 : IsO o1 r1) (h2 : IsO o2 r2) : (0 ≤ refF r1 r2) ↔ keyO o2 ≤ keyO o1 := by
  rw [refF_key, h1.key, h2.key]
  unfold cmpI
  split
  · constructor <;> intro h <;> omega
  · split
    · constructor <;> intro h <;> omega
    · constructor <;> intro h <;> omega
def OrdPost (w : World) (K : Nat → Int) (n : Nat) (e : Ending) (w' : World) : Prop := ∃ A c l, e = .returned (.slice A n c) ∧ n ≤ c ∧ c ≤ 9223372036854775807 ∧ Rd w' A (nats l) ∧ OrdL K l n ∧ Below w.heap.size w w'
set_option maxHeartbeats 16000000 in
set_option maxRecDepth 100000 in
theorem reforder_any (w : World) (A A1 A2 B C : Option Addr) (c l1 c1 l2 c2 cb cc : Nat) (ns cs : List ByteArray) (hv : List Nat) (hr : RaceR w A ns) (hr1 : Rd w B (strsG cs)) (hr2 : Rd w C (fl hv))
    (hn : ns.length ≤ c) (hc : c ≤ 9223372036854775807) (h30 : ns.length ≤ 900) (hcb : cs.length ≤ cb) (hcb2 : cb ≤ 9223372036854775807) (hcc : hv.length ≤ cc) (hcc2 : cc ≤ 9223372036854775807) :
    Calls Try.prog 24 #[.agg #[.slice A ns.length c, .slice A1 l1 c1, .slice A2 l2 c2], .slice B cs.length cb, .slice C hv.length cc] w (OrdPost w (keyR ns cs hv) ns.length) := by
  have hwt0 : Hid (∀ j, j < ns.length → ∀ w', Below w.heap.size w w' → Calls Try.prog 26 #[.agg #[.slice A ns.length c, .slice A1 l1 c1, .slice A2 l2 c2], .int .i64 (j : Nat), .slice B cs.length cb, .slice C hv.length cc] w' fun e w'' => ∃ r, e = .returned (.float .f64 r) ∧ IsO (mulO (wtP cs hv (ns[j]?.getD ByteArray.empty) cs.length) (cntP ns (ns[j]?.getD ByteArray.empty) ns.length)) r ∧ Below w'.heap.size w' w'') := Lib.hid (fun j hj w' hb => refweight_any w' A A1 A2 B C c l1 c1 l2 c2 cb cc ns cs hv j hj (hr.below hb) (hr1.below hb) (hr2.below hb) hn hc (by omega) hcb hcb2 hcc hcc2)
  clear hr hr1 hr2
  obtain ⟨n, hnl⟩ : ∃ n, n = ns.length := ⟨_, rfl⟩
  rw [← hnl] at hwt0 hn h30 ⊢
  obtain ⟨nb, hnb⟩ : ∃ m, m = cs.length := ⟨_, rfl⟩
  obtain ⟨nc, hnc⟩ : ∃ m, m = hv.length := ⟨_, rfl⟩
  rw [← hnb, ← hnc] at hwt0 ⊢
  obtain ⟨W1, hW1⟩ : ∃ Z, Z = w.alloc (.cells #[.slice A n c, .slice A1 l1 c1, .slice A2 l2 c2] 48) := ⟨_, rfl⟩
  have hb1 : Hid (Below w.heap.size w W1) := Lib.hid (by rw [hW1]; exact bl_alloc (Below.refl _ _) _)
  have hbx : Hid (W1.heap[w.heap.size]? = some (.cells #[.slice A n c, .slice A1 l1 c1, .slice A2 l2 c2] 48 (0, 0))) := Lib.hid (by rw [hW1]; exact heap_alloc_new w _)
  have hbox : Hid (∀ w', Below W1.heap.size W1 w' → (w'.cell? ⟨w.heap.size, 0, none⟩ = some (.slice A n c) ∧ w'.cell? ⟨w.heap.size, 1, none⟩ = some (.slice A1 l1 c1) ∧ w'.cell? ⟨w.heap.size, 2, none⟩ = some (.slice A2 l2 c2))) := Lib.hid (fun w' hb => by
    have h := bl_row hb hbx.out
    refine ⟨?_, ?_, ?_⟩ <;> (rw [cell_of_row _ _ _ _ 48 (0, 0) h]; rfl))
  obtain ⟨K, hK⟩ : ∃ K : Nat → Int, K = keyR ns cs hv := ⟨_, rfl⟩
  rw [← hK]
  have hkey : Hid (∀ i j r1 r2, IsO (mulO (wtP cs hv (ns[i]?.getD ByteArray.empty) nb) (cntP ns (ns[i]?.getD ByteArray.empty) n)) r1 → IsO (mulO (wtP cs hv (ns[j]?.getD ByteArray.empty) nb) (cntP ns (ns[j]?.getD ByteArray.empty) n)) r2 → ((0 ≤ refF r1 r2) ↔ K j ≤ K i)) := Lib.hid (fun i j r1 r2 h1 h2 => by
    rw [hK]
    have := refF_ge h1 h2
    rw [hnb, hnl] at this
    exact this)
  replace hnl := Lib.hid hnl
  replace hnb := Lib.hid hnb
  replace hnc := Lib.hid hnc
  replace hK := Lib.hid hK
  go_enter Try.func24, Try.ntmps24
  go_upto_region 1 with fail
  rw [← hW1]
  replace hW1 := Lib.hid hW1
  go_wp2_with fail
  go_loopw [7, 8] (fun v7 v8 wr => ∃ (i : Nat) (l : List Nat), v8 = .int .i64 (i : Nat) ∧ i ≤ n ∧ (i = 0 → v7 = .slice none 0 0) ∧ Hid (OrdL K l i) ∧ Hid (wr.ownsRow W1.heap.size 3 1 v7 i (nats l)) ∧ Hid (Below W1.heap.size W1 wr)) (fun _ v _ => n - (intOf v).toNat)
  case atStart => exact ⟨0, [], rfl, Nat.zero_le _, fun _ => rfl, Lib.hid (OrdL.nil K), Lib.hid (own_nil _ _ _ _), Lib.hid (Below.refl _ _)⟩
  case round =>
    obtain ⟨wi, rfl⟩ : ∃ x, x = wr := ⟨_, rfl⟩
    obtain ⟨i, l, rfl, hi, h0, hO, ho, hB⟩ := hrel
    obtain ⟨x0, x1, x2⟩ := hbox.out wi hB.out
    by_cases hlt : i < n
    · have d1 : decide ((i : Int) < (n : Int)) = true := by simp; omega
      have hol := hO.out.1
      by_cases hi0 : i = 0
      · subst hi0
        have hv7 := h0 rfl
        subst hv7
        clear h0
        have hl0 : Hid (l = []) := Lib.hid (List.eq_nil_of_length_eq_zero hol)
        go_upto_block 2 with fail
        go_cut [9] (fun v9 wx => v9 = .int .i64 0 ∧ Hid (Below wi.heap.size wi wx))
        case first =>
          clear x0 x1 x2
          go_wp2_with fail
          go_loopw [9] (fun v9 wr => v9 = .int .i64 0 ∧ Hid (Below wi.heap.size wi wr)) (fun v _ => 0)
          case atStart => exact ⟨rfl, Lib.hid (Below.refl _ _)⟩
          case round =>
            obtain ⟨rfl, hBk⟩ := hrel
            go_upto_region 6 with fail
            refine wp_region_heldR (S := fun _ => True) opsO6 _ (by kernel_rfl) liO6 (by kernel_rfl) nsO6 (trivial) (fun hops hns hHeld => ?_)
            refine wpAnyH_takeR (i := 0) (v := ?vO6c_1) hops hns rdO6_0 (by rfl) frO6_0 rfl (fun _ _ _ h => h) stO6_0 (Or.inl ⟨by kernel_rfl, ?hyO6c_1⟩) (by assumption) ?restO6c_1
            case hyO6c_1 => (intro w hSw; go_simp; (try with_reducible rfl))
            try simp only [Act.put, sA, sB, sC]
            refine wpAnyH_oneR (i := 1) (v := ?vO6c_2) hops rdO6_1 rfl stO6_1 (Or.inl ⟨by kernel_rfl, ?hyO6c_2⟩) (by assumption) ?restO6c_2
            case hyO6c_2 => (intro w hSw; go_simp; (try with_reducible rfl))
            try simp only [Act.put, sA, sB, sC]
            refine wpAnyH_oneR (i := 2) (v := ?vO6c_3) hops rdO6_2 rfl stO6_2 (Or.inl ⟨by kernel_rfl, ?hyO6c_3⟩) (by assumption) ?restO6c_3
            case hyO6c_3 => (intro w hSw; go_simp; (try with_reducible rfl))
            try simp only [Act.put, sA, sB, sC]
            refine wpAnyH_oneR (i := 3) (v := ?vO6c_4) hops rdO6_3 rfl stO6_3 (Or.inl ⟨by kernel_rfl, ?hyO6c_4⟩) (by assumption) ?restO6c_4
            case hyO6c_4 => (intro w hSw; go_simp; (try with_reducible rfl))
            try simp only [Act.put, sA, sB, sC]
            refine wpAnyH_oneR (i := 4) (v := ?vO6c_5) hops rdO6_4 rfl stO6_4 (Or.inl ⟨by kernel_rfl, ?hyO6c_5⟩) (by assumption) ?restO6c_5
            case hyO6c_5 => (intro w hSw; go_simp; (try with_reducible rfl))
            try simp only [Act.put, sA, sB, sC]
            refine wpAnyH_takeR (i := 5) (v := undef) hops hns rdO6_5 (by rfl) frO6_1 rfl (fun _ _ _ h => h) stO6_5 (Or.inr ⟨by kernel_rfl, rfl⟩) (by assumption) ?_
            try simp only [Act.put, sA, sB, sC]
            refine wpAnyH_takeR (i := 6) (v := undef) hops hns rdO6_6 (by rfl) frO6_2 rfl (fun _ _ _ h => h) stO6_6 (Or.inr ⟨by kernel_rfl, rfl⟩) (by assumption) ?_
            try simp only [Act.put, sA, sB, sC]
            refine wpAnyH_takeR (i := 7) (v := undef) hops hns rdO6_7 (by rfl) frO6_3 rfl (fun _ _ _ h => h) stO6_7 (Or.inr ⟨by kernel_rfl, rfl⟩) (by assumption) ?_
            try simp only [Act.put, sA, sB, sC]
            refine wpAnyH_takeR (i := 8) (v := undef) hops hns rdO6_8 (by rfl) frO6_4 rfl (fun _ _ _ h => h) stO6_8 (Or.inr ⟨by kernel_rfl, rfl⟩) (by assumption) ?_
            try simp only [Act.put, sA, sB, sC]
            refine wpAnyH_takeR (i := 9) (v := undef) hops hns rdO6_9 (by rfl) frO6_5 rfl (fun _ _ _ h => h) stO6_9 (Or.inr ⟨by kernel_rfl, rfl⟩) (by assumption) ?_
            try simp only [Act.put, sA, sB, sC]
            refine wpAnyH_takeR (i := 10) (v := undef) hops hns rdO6_10 (by rfl) frO6_6 rfl (fun _ _ _ h => h) stO6_10 (Or.inr ⟨by kernel_rfl, rfl⟩) (by assumption) ?_
            try simp only [Act.put, sA, sB, sC]
            refine wpAnyH_takeR (i := 11) (v := undef) hops hns rdO6_11 (by rfl) frO6_7 rfl (fun _ _ _ h => h) stO6_11 (Or.inr ⟨by kernel_rfl, rfl⟩) (by assumption) ?_
            try simp only [Act.put, sA, sB, sC]
            refine wpAnyH_takeR (i := 12) (v := undef) hops hns rdO6_12 (by rfl) frO6_12 rfl (fun _ _ _ h => h) stO6_21 (Or.inr ⟨by kernel_rfl, rfl⟩) (by assumption) ?_
            try simp only [Act.put, sA, sB, sC]
            refine wpAnyH_takeR (i := 13) (v := undef) hops hns rdO6_22 (by rfl) frO6_13 rfl (fun _ _ _ h => h) stO6_22 (Or.inr ⟨by kernel_rfl, rfl⟩) (by assumption) ?_
            try simp only [Act.put, sA, sB, sC]
            refine wpAnyH_takeR (i := 14) (v := undef) hops hns rdO6_23 (by rfl) frO6_14 rfl (fun _ _ _ h => h) stO6_23 (Or.inr ⟨by kernel_rfl, rfl⟩) (by assumption) ?_
            try simp only [Act.put, sA, sB, sC]
            refine wpAnyH_takeR (i := 15) (v := undef) hops hns rdO6_24 (by rfl) frO6_15 rfl (fun _ _ _ h => h) stO6_24 (Or.inr ⟨by kernel_rfl, rfl⟩) (by assumption) ?_
            try simp only [Act.put, sA, sB, sC]
            refine wpAnyH_oneR (i := 16) (v := undef) hops rdO6_25 rfl stO6_25 (Or.inr ⟨by kernel_rfl, rfl⟩) (by assumption) ?_
            try simp only [Act.put, sA, sB, sC]
            refine wpAnyH_oneR (i := 17) (v := undef) hops rdO6_17 rfl stO6_17 (Or.inr ⟨by kernel_rfl, rfl⟩) (by assumption) ?_
            try simp only [Act.put, sA, sB, sC]
            refine wpAnyH_oneR (i := 18) (v := undef) hops rdO6_18 rfl stO6_18 (Or.inr ⟨by kernel_rfl, rfl⟩) (by assumption) ?_
            try simp only [Act.put, sA, sB, sC]
            refine wpAnyH_oneR (i := 19) (v := undef) hops rdO6_19 rfl stO6_19 (Or.inr ⟨by kernel_rfl, rfl⟩) (by assumption) ?_
            try simp only [Act.put, sA, sB, sC]
            refine wpAnyH_oneR (i := 20) (v := ?vO6c_6) hops rdO6_20 rfl stO6_20 (Or.inl ⟨by kernel_rfl, ?hyO6c_6⟩) (by assumption) ?restO6c_6
            case hyO6c_6 => (intro w hSw; go_simp; (try with_reducible rfl))
            try simp only [Act.put, sA, sB, sC]
            refine wpAnyH_doneR hops rdO6_21 ?_
            go_wp2_with fail
            go_meet
            exact ⟨rfl, Lib.hid hBk.out.drew⟩
        case rest =>
        obtain ⟨rfl, hBc⟩ := hcut
        have hWc := Lib.hid (bl_then hB.out hB.out.size hBc.out)
        have hrd8 : ∀ (W : World) {A : Option Addr} {c m : Nat} {xs : List Value}, W.ownsRow wc.heap.size 3 1 (.slice A m c) m xs → Rd W A xs := fun W A c m xs h => by
          obtain ⟨A', c', e, -, -, h4, -⟩ := Rd.own h
          cases e; exact h4
        have hA8 : ∀ (W : World) {A : Option Addr} {c m : Nat} {xs : List Value}, W.ownsRow wc.heap.size 3 1 (.slice A m c) m xs → A = none → m = 0 ∧ c = 0 := fun W A c m xs h => by
          obtain ⟨A', c', e, -, -, -, h5⟩ := Rd.own h
          cases e; exact h5
        clear x0 x1 x2
        go_wp2_with (first | (at_builtin; refine app_src (w0 := wc) wc.heap.size rfl _ _ 22 3 (.int .i64 0) 1 8 rfl Try.underlying22 info3' rfl (by decide) (by decide) (.slice (some ⟨wc.heap.size, 0, none⟩) 0 0) 0 [] rfl (own_lit wc wc.heap.size 3 1 0 [] (Nat.le_refl _) rfl (by omega)) (bl_alloc (Below.refl _ _) _) (by simp) none 0 0 (nats []) rfl rfl (Rd.nil _ _) (fun _ => ⟨rfl, rfl⟩) (nats_one _) (by omega) ?_; intro v8 w8 o8 b8 g8 a8; rw [Nat.zero_add, List.nil_append] at o8; obtain ⟨A8, c8, rfl, -, -, -, -⟩ := Rd.own o8; replace o8 := Lib.hid o8; replace b8 := Lib.hid b8; clear g8 a8) | (at_builtin; refine app_lit (w0 := w8) W1.heap.size rfl _ _ 22 3 (.int .i64 0) 1 8 rfl Try.underlying22 info3' rfl (by decide) (by decide) (.slice none 0 0) 0 [] rfl (own_nil _ _ _ _) (Below.refl _ _) (Nat.le_trans hWc.out.size b8.out.size) 1 1 [.int .i64 (0 : Nat)] rfl rfl (by simp [Value.oneCell']) (by omega) ?_; intro v9 w9 o9 b9 g9 a9; have o8k := Lib.hid (own_kept2 o8.out g9 (fun b e _ => by simp [Value.ownBlock] at e)); have B9 := Lib.hid ((bl_then hWc.out hWc.out.size b8.out).grown g9 (Nat.le_trans hWc.out.size b8.out.size) (fun k hk => by cases hk)); replace o9 := Lib.hid o9; clear b9 g9 a9) | (at_builtin; refine app_src (w0 := W1) W1.heap.size rfl _ _ 22 3 (.int .i64 0) 1 8 rfl Try.underlying22 info3' rfl (by decide) (by decide) v9 (0 + 1) ([] ++ [.int .i64 (0 : Nat)]) rfl o9.out B9.out B9.out.size A8 0 c8 (nats []) rfl rfl (hrd8 _ o8k.out) (hA8 _ o8k.out) (nats_one _) (by omega) ?_; intro v3 w3 o3 b3 g3 a3; replace o3 := Lib.hid o3; replace b3 := Lib.hid b3; clear g3 a3))
        refine ⟨⟨0 + 1, [0], by go_num, by omega, fun e => by omega, Lib.hid ?_, Lib.hid ?_, Lib.hid b3.out⟩, by simp [intOf]; omega⟩
        · have := hO.out.ins (k := 0) (Nat.le_refl _) (fun p hp => by omega) (fun hp => by rw [hl0.out] at hp; simp at hp)
          rw [hl0.out] at this
          exact this
        · simpa [nats] using o3.out
      · obtain ⟨g, cap, hv7, hcap, hgb⟩ := own_some ho.out (by omega)
        subst hv7
        have hcm : cap ≤ 9223372036854775807 := by
          obtain ⟨A', c', e, -, h3, -, -⟩ := Rd.own ho.out
          cases e; exact h3
        have hce : Hid (∀ k, ∀ h : k < l.length, ∀ w', Below wi.heap.size wi w' → w'.cell? ⟨g, k, none⟩ = some (.int .i64 (l[k] : Nat))) := Lib.hid (fun k h w' hb => by
          obtain ⟨A', c', e, -, -, h4, -⟩ := Rd.own ho.out
          cases e
          have := h4.cells k (.int .i64 (l[k] : Nat)) (by simp [nats, h])
          rw [add_plain] at this
          exact bl_cell hb this)
        clear h0
        replace hol := Lib.hid hol
        go_upto_block 2 with fail
        go_cut [9] (fun v9 wx => ∃ k : Nat, v9 = .int .i64 (k : Nat) ∧ k ≤ i ∧ Hid (∀ p, p < k → ∀ hp : p < l.length, K i ≤ K l[p]) ∧ Hid (∀ hp : k < l.length, K l[k] < K i) ∧ Hid (Below wi.heap.size wi wx))
        case first =>
          clear x0 x1 x2
          go_wp2_with fail
          go_loopw [9] (fun v9 wr => ∃ k : Nat, v9 = .int .i64 (k : Nat) ∧ k ≤ i ∧ Hid (∀ p, p < k → ∀ hp : p < l.length, K i ≤ K l[p]) ∧ Hid (Below wi.heap.size wi wr)) (fun v _ => i - (intOf v).toNat)
          case atStart => exact ⟨0, rfl, Nat.zero_le _, Lib.hid (fun p hp => by omega), Lib.hid (Below.refl _ _)⟩
          case round =>
            obtain ⟨k, rfl, hk, hbef, hBk⟩ := hrel
            by_cases hki : k < i
            · have d2 : decide ((k : Int) < (i : Int)) = true := by simp; omega
              have k1 : (0 : Int) ≤ (k : Int) := by omega
              have k2 : (k : Int) < (i : Int) := by omega
              have hkl : k < l.length := by rw [hol.out]; exact hki
              have hlk : l[k] < n := Nat.lt_trans (hO.out.2.1 _ (List.getElem_mem hkl)) hlt
              have hSk : Hid (∀ w', Below wr.heap.size wr w' → (w'.cell? ⟨w.heap.size, 0, none⟩ = some (.slice A n c) ∧ w'.cell? ⟨w.heap.size, 1, none⟩ = some (.slice A1 l1 c1) ∧ w'.cell? ⟨w.heap.size, 2, none⟩ = some (.slice A2 l2 c2) ∧ w'.cell? ⟨g, k, none⟩ = some (.int .i64 (l[k] : Nat)))) := Lib.hid (fun w' hb => by
                have h1 := bl_then hBk.out hBk.out.size hb
                obtain ⟨q0, q1, q2⟩ := hbox.out w' (bl_then hB.out hB.out.size h1)
                exact ⟨q0, q1, q2, hce.out k hkl w' h1⟩)
              have hwt : Hid (∀ j, j < n → ∀ w', Below wr.heap.size wr w' → Calls Try.prog 26 #[.agg #[.slice A n c, .slice A1 l1 c1, .slice A2 l2 c2], .int .i64 (j : Nat), .slice B nb cb, .slice C nc cc] w' fun e w'' => ∃ r, e = .returned (.float .f64 r) ∧ IsO (mulO (wtP cs hv (ns[j]?.getD ByteArray.empty) nb) (cntP ns (ns[j]?.getD ByteArray.empty) n)) r ∧ Below w'.heap.size w' w'') := Lib.hid (fun j hj w' hb => hwt0.out j hj w' (bl_then hb1.out hb1.out.size (bl_then hB.out hB.out.size (bl_then hBk.out hBk.out.size hb))))
              obtain ⟨x, hx⟩ : ∃ x, x = l[k] := ⟨_, rfl⟩
              rw [← hx] at hlk hSk
              replace hx := Lib.hid hx
              go_upto_region 6 with fail
              refine wp_region_heldR (S := fun w' => Below wr.heap.size wr w') opsO6 _ (by kernel_rfl) liO6 (by kernel_rfl) nsO6 ((Below.refl wr.heap.size wr).drew) (fun hops hns hHeld => ?_)
              refine wpAnyH_takeR (i := 0) (v := ?vO6a_1) hops hns rdO6_0 (by rfl) frO6_0 rfl (fun _ _ _ h => h) stO6_0 (Or.inl ⟨by kernel_rfl, ?hyO6a_1⟩) (by assumption) ?restO6a_1
              case hyO6a_1 => (intro w hSw; obtain ⟨y0, y1, y2, y3⟩ := hSk.out _ hSw; clear hSw; go_simp; (try with_reducible rfl))
              try simp only [Act.put, sA, sB, sC]
              refine wpAnyH_oneR (i := 1) (v := ?vO6a_2) hops rdO6_1 rfl stO6_1 (Or.inl ⟨by kernel_rfl, ?hyO6a_2⟩) (by assumption) ?restO6a_2
              case hyO6a_2 => (intro w hSw; obtain ⟨y0, y1, y2, y3⟩ := hSk.out _ hSw; clear hSw; go_simp; (try with_reducible rfl))
              try simp only [Act.put, sA, sB, sC]
              refine wpAnyH_oneR (i := 2) (v := ?vO6a_3) hops rdO6_2 rfl stO6_2 (Or.inl ⟨by kernel_rfl, ?hyO6a_3⟩) (by assumption) ?restO6a_3
              case hyO6a_3 => (intro w hSw; obtain ⟨y0, y1, y2, y3⟩ := hSk.out _ hSw; clear hSw; go_simp; (try with_reducible rfl))
              try simp only [Act.put, sA, sB, sC]
              refine wpAnyH_oneR (i := 3) (v := ?vO6a_4) hops rdO6_3 rfl stO6_3 (Or.inl ⟨by kernel_rfl, ?hyO6a_4⟩) (by assumption) ?restO6a_4
              case hyO6a_4 => (intro w hSw; obtain ⟨y0, y1, y2, y3⟩ := hSk.out _ hSw; clear hSw; go_simp; (try with_reducible rfl))
              try simp only [Act.put, sA, sB, sC]
              refine wpAnyH_oneR (i := 4) (v := ?vO6a_5) hops rdO6_4 rfl stO6_4 (Or.inl ⟨by kernel_rfl, ?hyO6a_5⟩) (by assumption) ?restO6a_5
              case hyO6a_5 => (intro w hSw; obtain ⟨y0, y1, y2, y3⟩ := hSk.out _ hSw; clear hSw; go_simp; (try with_reducible rfl))
              try simp only [Act.put, sA, sB, sC]
              refine wpAnyH_takeR (i := 5) (v := ?vO6a_6) hops hns rdO6_5 (by rfl) frO6_1 rfl (fun _ _ _ h => h) stO6_5 (Or.inl ⟨by kernel_rfl, ?hyO6a_6⟩) (by assumption) ?restO6a_6
              case hyO6a_6 => (intro w hSw; obtain ⟨y0, y1, y2, y3⟩ := hSk.out _ hSw; clear hSw; go_simp; (try with_reducible rfl))
              try simp only [Act.put, sA, sB, sC]
              refine wpAnyH_takeR (i := 6) (v := ?vO6a_7) hops hns rdO6_6 (by rfl) frO6_2 rfl (fun _ _ _ h => h) stO6_6 (Or.inl ⟨by kernel_rfl, ?hyO6a_7⟩) (by assumption) ?restO6a_7
              case hyO6a_7 => (intro w hSw; obtain ⟨y0, y1, y2, y3⟩ := hSk.out _ hSw; clear hSw; go_simp; (try with_reducible rfl))
              try simp only [Act.put, sA, sB, sC]
              refine wpAnyH_takeR (i := 7) (v := ?vO6a_8) hops hns rdO6_7 (by rfl) frO6_3 rfl (fun _ _ _ h => h) stO6_7 (Or.inl ⟨by kernel_rfl, ?hyO6a_8⟩) (by assumption) ?restO6a_8
              case hyO6a_8 => (intro w hSw; obtain ⟨y0, y1, y2, y3⟩ := hSk.out _ hSw; clear hSw; go_simp; (try with_reducible rfl))
              try simp only [Act.put, sA, sB, sC]
              refine wpAnyH_takeR (i := 8) (v := ?vO6a_9) hops hns rdO6_8 (by rfl) frO6_4 rfl (fun _ _ _ h => h) stO6_8 (Or.inl ⟨by kernel_rfl, ?hyO6a_9⟩) (by assumption) ?restO6a_9
              case hyO6a_9 => (intro w hSw; obtain ⟨y0, y1, y2, y3⟩ := hSk.out _ hSw; clear hSw; go_simp; (try with_reducible rfl))
              try simp only [Act.put, sA, sB, sC]
              refine wpAnyH_takeR (i := 9) (v := ?vO6a_10) hops hns rdO6_9 (by rfl) frO6_5 rfl (fun _ _ _ h => h) stO6_9 (Or.inl ⟨by kernel_rfl, ?hyO6a_10⟩) (by assumption) ?restO6a_10
              case hyO6a_10 => (intro w hSw; obtain ⟨y0, y1, y2, y3⟩ := hSk.out _ hSw; clear hSw; go_simp; (try with_reducible rfl))
              try simp only [Act.put, sA, sB, sC]
              refine wpAnyH_takeR (i := 10) (v := ?vO6a_11) hops hns rdO6_10 (by rfl) frO6_6 rfl (fun _ _ _ h => h) stO6_10 (Or.inl ⟨by kernel_rfl, ?hyO6a_11⟩) (by assumption) ?restO6a_11
              case hyO6a_11 => (intro w hSw; obtain ⟨y0, y1, y2, y3⟩ := hSk.out _ hSw; clear hSw; go_simp; (try with_reducible rfl))
              try simp only [Act.put, sA, sB, sC]
              refine wpAnyH_takeR (i := 11) (v := ?vO6a_12) hops hns rdO6_11 (by rfl) frO6_7 rfl (fun _ _ _ h => h) stO6_11 (Or.inl ⟨by kernel_rfl, ?hyO6a_12⟩) (by assumption) ?restO6a_12
              case hyO6a_12 => (intro w hSw; obtain ⟨y0, y1, y2, y3⟩ := hSk.out _ hSw; clear hSw; go_simp; (try with_reducible rfl))
              try simp only [Act.put, sA, sB, sC]
              refine wpAnyH_takeR (i := 13) (v := ?vO6a_13) hops hns rdO6_12 (by rfl) frO6_8 rfl (fun _ _ _ h => h) stO6_12 (Or.inl ⟨by kernel_rfl, ?hyO6a_13⟩) (by assumption) ?restO6a_13
              case hyO6a_13 => (intro w hSw; obtain ⟨y0, y1, y2, y3⟩ := hSk.out _ hSw; clear hSw; go_simp; (try with_reducible rfl))
              try simp only [Act.put, sA, sB, sC]
              refine wpAnyH_takeR (i := 14) (v := ?vO6a_14) hops hns rdO6_13 (by rfl) frO6_9 rfl (fun _ _ _ h => h) stO6_13 (Or.inl ⟨by kernel_rfl, ?hyO6a_14⟩) (by assumption) ?restO6a_14
              case hyO6a_14 => (intro w hSw; obtain ⟨y0, y1, y2, y3⟩ := hSk.out _ hSw; clear hSw; go_simp; (try with_reducible rfl))
              try simp only [Act.put, sA, sB, sC]
              refine wpAnyH_takeR (i := 15) (v := ?vO6a_15) hops hns rdO6_14 (by rfl) frO6_10 rfl (fun _ _ _ h => h) stO6_14 (Or.inl ⟨by kernel_rfl, ?hyO6a_15⟩) (by assumption) ?restO6a_15
              case hyO6a_15 => (intro w hSw; obtain ⟨y0, y1, y2, y3⟩ := hSk.out _ hSw; clear hSw; go_simp; (try with_reducible rfl))
              try simp only [Act.put, sA, sB, sC]
              refine wpAnyH_takeR (i := 16) (v := ?vO6a_16) hops hns rdO6_15 (by rfl) frO6_11 rfl (fun _ _ _ h => h) stO6_15 (Or.inl ⟨by kernel_rfl, ?hyO6a_16⟩) (by assumption) ?restO6a_16
              case hyO6a_16 => (intro w hSw; obtain ⟨y0, y1, y2, y3⟩ := hSk.out _ hSw; clear hSw; go_simp; (try with_reducible rfl))
              try simp only [Act.put, sA, sB, sC]
              refine wpAnyH_readyR (rs := [12]) hops rdO6_16 (by simp) (AllReadyH.consR rfl stO6_16 (fun K hK => ?_) AllReadyH.nil)
              (go_simp; go_wp2_with (go_at_call 26; (with_reducible refine (hwt.out _ hlk _ (Below.refl _ _).drew).mono ?_); rintro e w5 ⟨r1, rfl, hr1, hb5⟩; have hB5 := Lib.hid (bl_then (Below.refl wr.heap.size wr).drew (Nat.le_refl _) hb5); replace hr1 := Lib.hid hr1; clear hb5))
              refine hK.out _ _ (by exact hB5.out) (fun hHeld => ?_)
              clear hK K
              try simp only [Act.put, sA, sB, sC]
              refine wpAnyH_readyR (rs := [17]) hops rdO6_17 (by simp) (AllReadyH.consR rfl stO6_17 (fun K hK => ?_) AllReadyH.nil)
              (go_simp; go_wp2_with (go_at_call 26; (with_reducible refine (hwt.out _ hlt _ hB5.out).mono ?_); rintro e w6 ⟨r2, rfl, hr2, hb6⟩; have hB6 := Lib.hid (bl_then hB5.out hB5.out.size hb6); replace hr2 := Lib.hid hr2; clear hb6))
              refine hK.out _ _ (by exact hB6.out) (fun hHeld => ?_)
              clear hK K
              try simp only [Act.put, sA, sB, sC]
              refine wpAnyH_readyR (rs := [18]) hops rdO6_18 (by simp) (AllReadyH.consR rfl stO6_18 (fun K hK => ?_) AllReadyH.nil)
              (go_simp; go_wp2_with (go_at_call 14; (with_reducible refine (refcmp_any _ _ _).mono ?_); rintro e w7 ⟨rfl, rfl⟩))
              obtain ⟨q, hq⟩ : ∃ q, decide ((0 : Int) ≤ refF r1 r2) = q := ⟨_, rfl⟩
              replace hq := Lib.hid hq
              refine hK.out _ _ (by exact hB6.out) (fun hHeld => ?_)
              clear hK K
              try simp only [Act.put, sA, sB, sC]
              refine wpAnyH_oneR (i := 19) (v := .bool q) hops rdO6_19 rfl stO6_19 (Or.inl ⟨by kernel_rfl, ?hyO6a_17⟩) (by assumption) ?restO6a_17
              case hyO6a_17 => (intro w hSw; obtain ⟨y0, y1, y2, y3⟩ := hSk.out _ hSw; clear hSw; go_simp; (try rw [← hq.out]); (try rfl))
              try simp only [Act.put, sA, sB, sC]
              refine wpAnyH_oneR (i := 20) (v := ?vO6a_18) hops rdO6_20 rfl stO6_20 (Or.inl ⟨by kernel_rfl, ?hyO6a_18⟩) (by assumption) ?restO6a_18
              case hyO6a_18 => (intro w hSw; obtain ⟨y0, y1, y2, y3⟩ := hSk.out _ hSw; clear hSw; go_simp; (try with_reducible rfl))
              try simp only [Act.put, sA, sB, sC]
              refine wpAnyH_doneR hops rdO6_21 ?_
              have hBn := Lib.hid (bl_then hBk.out hBk.out.size hB6.out)
              have hcmp := hkey.out x i r1 r2 hr1.out hr2.out
              cases q with
              | true =>
                have hge : K i ≤ K l[k] := by rw [← hx.out]; exact hcmp.1 (of_decide_eq_true hq.out)
                replace hge := Lib.hid hge
                replace hcmp := Lib.hid hcmp
                go_wp2_with fail
                exact ⟨⟨k + 1, by go_num, by omega, Lib.hid (fun p hp hpl => by
                  by_cases e : p = k
                  · subst e; exact hge.out
                  · exact hbef.out p (by omega) hpl), hBn⟩, by simp [intOf]; omega⟩
              | false =>
                have hge : K l[k] < K i := by
                  have := of_decide_eq_false hq.out
                  rw [hcmp, hx.out] at this; omega
                replace hge := Lib.hid hge
                replace hcmp := Lib.hid hcmp
                go_wp2_with fail
                go_meet
                exact ⟨k, rfl, hk, hbef, Lib.hid (fun _ => hge.out), hBn⟩
            · have hki' : k = i := by omega
              have d2 : decide ((k : Int) < (i : Int)) = false := by simp; omega
              replace hki' := Lib.hid hki'
              go_upto_region 6 with fail
              refine wp_region_heldR (S := fun _ => True) opsO6 _ (by kernel_rfl) liO6 (by kernel_rfl) nsO6 (trivial) (fun hops hns hHeld => ?_)
              refine wpAnyH_takeR (i := 0) (v := ?vO6b_1) hops hns rdO6_0 (by rfl) frO6_0 rfl (fun _ _ _ h => h) stO6_0 (Or.inl ⟨by kernel_rfl, ?hyO6b_1⟩) (by assumption) ?restO6b_1
              case hyO6b_1 => (intro w hSw; go_simp; (try with_reducible rfl))
              try simp only [Act.put, sA, sB, sC]
              refine wpAnyH_oneR (i := 1) (v := ?vO6b_2) hops rdO6_1 rfl stO6_1 (Or.inl ⟨by kernel_rfl, ?hyO6b_2⟩) (by assumption) ?restO6b_2
              case hyO6b_2 => (intro w hSw; go_simp; (try with_reducible rfl))
              try simp only [Act.put, sA, sB, sC]
              refine wpAnyH_oneR (i := 2) (v := ?vO6b_3) hops rdO6_2 rfl stO6_2 (Or.inl ⟨by kernel_rfl, ?hyO6b_3⟩) (by assumption) ?restO6b_3
              case hyO6b_3 => (intro w hSw; go_simp; (try with_reducible rfl))
              try simp only [Act.put, sA, sB, sC]
              refine wpAnyH_oneR (i := 3) (v := ?vO6b_4) hops rdO6_3 rfl stO6_3 (Or.inl ⟨by kernel_rfl, ?hyO6b_4⟩) (by assumption) ?restO6b_4
              case hyO6b_4 => (intro w hSw; go_simp; (try with_reducible rfl))
              try simp only [Act.put, sA, sB, sC]
              refine wpAnyH_oneR (i := 4) (v := ?vO6b_5) hops rdO6_4 rfl stO6_4 (Or.inl ⟨by kernel_rfl, ?hyO6b_5⟩) (by assumption) ?restO6b_5
              case hyO6b_5 => (intro w hSw; go_simp; (try with_reducible rfl))
              try simp only [Act.put, sA, sB, sC]
              refine wpAnyH_takeR (i := 5) (v := undef) hops hns rdO6_5 (by rfl) frO6_1 rfl (fun _ _ _ h => h) stO6_5 (Or.inr ⟨by kernel_rfl, rfl⟩) (by assumption) ?_
              try simp only [Act.put, sA, sB, sC]
              refine wpAnyH_takeR (i := 6) (v := undef) hops hns rdO6_6 (by rfl) frO6_2 rfl (fun _ _ _ h => h) stO6_6 (Or.inr ⟨by kernel_rfl, rfl⟩) (by assumption) ?_
              try simp only [Act.put, sA, sB, sC]
              refine wpAnyH_takeR (i := 7) (v := undef) hops hns rdO6_7 (by rfl) frO6_3 rfl (fun _ _ _ h => h) stO6_7 (Or.inr ⟨by kernel_rfl, rfl⟩) (by assumption) ?_
              try simp only [Act.put, sA, sB, sC]
              refine wpAnyH_takeR (i := 8) (v := undef) hops hns rdO6_8 (by rfl) frO6_4 rfl (fun _ _ _ h => h) stO6_8 (Or.inr ⟨by kernel_rfl, rfl⟩) (by assumption) ?_
              try simp only [Act.put, sA, sB, sC]
              refine wpAnyH_takeR (i := 9) (v := undef) hops hns rdO6_9 (by rfl) frO6_5 rfl (fun _ _ _ h => h) stO6_9 (Or.inr ⟨by kernel_rfl, rfl⟩) (by assumption) ?_
              try simp only [Act.put, sA, sB, sC]
              refine wpAnyH_takeR (i := 10) (v := undef) hops hns rdO6_10 (by rfl) frO6_6 rfl (fun _ _ _ h => h) stO6_10 (Or.inr ⟨by kernel_rfl, rfl⟩) (by assumption) ?_
              try simp only [Act.put, sA, sB, sC]
              refine wpAnyH_takeR (i := 11) (v := undef) hops hns rdO6_11 (by rfl) frO6_7 rfl (fun _ _ _ h => h) stO6_11 (Or.inr ⟨by kernel_rfl, rfl⟩) (by assumption) ?_
              try simp only [Act.put, sA, sB, sC]
              refine wpAnyH_takeR (i := 12) (v := undef) hops hns rdO6_12 (by rfl) frO6_12 rfl (fun _ _ _ h => h) stO6_21 (Or.inr ⟨by kernel_rfl, rfl⟩) (by assumption) ?_
              try simp only [Act.put, sA, sB, sC]
              refine wpAnyH_takeR (i := 13) (v := undef) hops hns rdO6_22 (by rfl) frO6_13 rfl (fun _ _ _ h => h) stO6_22 (Or.inr ⟨by kernel_rfl, rfl⟩) (by assumption) ?_
              try simp only [Act.put, sA, sB, sC]
              refine wpAnyH_takeR (i := 14) (v := undef) hops hns rdO6_23 (by rfl) frO6_14 rfl (fun _ _ _ h => h) stO6_23 (Or.inr ⟨by kernel_rfl, rfl⟩) (by assumption) ?_
              try simp only [Act.put, sA, sB, sC]
              refine wpAnyH_takeR (i := 15) (v := undef) hops hns rdO6_24 (by rfl) frO6_15 rfl (fun _ _ _ h => h) stO6_24 (Or.inr ⟨by kernel_rfl, rfl⟩) (by assumption) ?_
              try simp only [Act.put, sA, sB, sC]
              refine wpAnyH_oneR (i := 16) (v := undef) hops rdO6_25 rfl stO6_25 (Or.inr ⟨by kernel_rfl, rfl⟩) (by assumption) ?_
              try simp only [Act.put, sA, sB, sC]
              refine wpAnyH_oneR (i := 17) (v := undef) hops rdO6_17 rfl stO6_17 (Or.inr ⟨by kernel_rfl, rfl⟩) (by assumption) ?_
              try simp only [Act.put, sA, sB, sC]
              refine wpAnyH_oneR (i := 18) (v := undef) hops rdO6_18 rfl stO6_18 (Or.inr ⟨by kernel_rfl, rfl⟩) (by assumption) ?_
              try simp only [Act.put, sA, sB, sC]
              refine wpAnyH_oneR (i := 19) (v := undef) hops rdO6_19 rfl stO6_19 (Or.inr ⟨by kernel_rfl, rfl⟩) (by assumption) ?_
              try simp only [Act.put, sA, sB, sC]
              refine wpAnyH_oneR (i := 20) (v := ?vO6b_6) hops rdO6_20 rfl stO6_20 (Or.inl ⟨by kernel_rfl, ?hyO6b_6⟩) (by assumption) ?restO6b_6
              case hyO6b_6 => (intro w hSw; go_simp; (try with_reducible rfl))
              try simp only [Act.put, sA, sB, sC]
              refine wpAnyH_doneR hops rdO6_21 ?_
              go_wp2_with fail
              go_meet
              exact ⟨k, rfl, hk, hbef, Lib.hid (fun hp => by have := hki'.out; have := hol.out; omega), Lib.hid hBk.out.drew⟩
        case rest =>
          obtain ⟨k, rfl, hk, hbef, haft, hBc⟩ := hcut
          have hWc := Lib.hid (bl_then hB.out hB.out.size hBc.out)
          have hoc := Lib.hid (own_below ho.out hBc.out)
          have hgc : Hid (W1.heap.size ≤ g ∧ g < wc.heap.size) := Lib.hid ⟨hgb, (hoc.out.lt g rfl).2⟩
          have k1 : (0 : Int) ≤ (k : Int) := by omega
          have k2 : (k : Int) ≤ (i : Int) := by omega
          have k3 : (k : Int) ≤ (cap : Int) := by omega
          have hdr : Hid (Rd wc (if cap = k then some ⟨g, 0, none⟩ else some ⟨g, k, none⟩) (nats (l.drop k))) := Lib.hid (by
            obtain ⟨A', c', e, -, -, h4, -⟩ := Rd.own hoc.out
            cases e
            split
            · rw [List.drop_of_length_le (by have := hol.out; omega)]; exact Rd.nil _ _
            · have := h4.dropA k
              rwa [add_plain, nats_drop] at this)
          have hrd8 : ∀ (W : World) {A : Option Addr} {c m : Nat} {xs : List Value}, W.ownsRow wc.heap.size 3 1 (.slice A m c) m xs → Rd W A xs := fun W A c m xs h => by
            obtain ⟨A', c', e, -, -, h4, -⟩ := Rd.own h
            cases e; exact h4
          have hA8 : ∀ (W : World) {A : Option Addr} {c m : Nat} {xs : List Value}, W.ownsRow wc.heap.size 3 1 (.slice A m c) m xs → A = none → m = 0 ∧ c = 0 := fun W A c m xs h => by
            obtain ⟨A', c', e, -, -, -, h5⟩ := Rd.own h
            cases e; exact h5
          have hlen1 : (nats (l.drop k)).length = (i - k) * 1 := by rw [nats_len, List.length_drop, hol.out]; omega
          have hlen1 := Lib.hid hlen1
          clear x0 x1 x2
          go_wp2_with (first | (at_builtin; refine app_src (w0 := wc) wc.heap.size rfl _ _ 22 3 (.int .i64 0) 1 8 rfl Try.underlying22 info3' rfl (by decide) (by decide) (.slice (some ⟨wc.heap.size, 0, none⟩) 0 0) 0 [] rfl (own_lit wc wc.heap.size 3 1 0 [] (Nat.le_refl _) rfl (by omega)) (bl_alloc (Below.refl _ _) _) (by simp) (if cap = k then some ⟨g, 0, none⟩ else some ⟨g, k, none⟩) (i - k) (cap - k) (nats (l.drop k)) rfl hlen1.out (hdr.out.below (bl_alloc (Below.refl _ _) _)) (fun e => by split at e <;> cases e) (nats_one _) (by omega) ?_; intro v8 w8 o8 b8 g8 a8; rw [Nat.zero_add, List.nil_append] at o8; obtain ⟨A8, c8, rfl, -, -, -, -⟩ := Rd.own o8; replace o8 := Lib.hid o8; replace b8 := Lib.hid b8; clear g8 a8) | (at_builtin; refine app_lit (w0 := w8) W1.heap.size rfl _ _ 22 3 (.int .i64 0) 1 8 rfl Try.underlying22 info3' rfl (by decide) (by decide) (.slice (some ⟨g, 0, none⟩) k cap) k ((nats l).take k) rfl (own_cut (own_below hoc.out b8.out) hk) (Below.refl _ _) (Nat.le_trans hWc.out.size b8.out.size) 1 1 [.int .i64 (i : Nat)] rfl rfl (by simp [Value.oneCell']) (by omega) ?_; intro v9 w9 o9 b9 g9 a9; have o8k := Lib.hid (own_kept2 o8.out g9 (fun b e e2 => by have h1 := (o8.out.lt b e2).1; simp only [Value.ownBlock, Option.some.injEq] at e; have := hgc.out.2; omega)); have B9 := Lib.hid ((bl_then hWc.out hWc.out.size b8.out).grown g9 (Nat.le_trans hWc.out.size b8.out.size) (fun b e => by simp only [Value.ownBlock, Option.some.injEq] at e; have := hgc.out.1; omega)); replace o9 := Lib.hid o9; clear b9 g9 a9) | (at_builtin; refine app_src (w0 := W1) W1.heap.size rfl _ _ 22 3 (.int .i64 0) 1 8 rfl Try.underlying22 info3' rfl (by decide) (by decide) v9 (k + 1) ((nats l).take k ++ [.int .i64 (i : Nat)]) rfl o9.out B9.out B9.out.size A8 (i - k) c8 (nats (l.drop k)) rfl hlen1.out (hrd8 _ o8k.out) (hA8 _ o8k.out) (nats_one _) (by omega) ?_; intro v3 w3 o3 b3 g3 a3; replace o3 := Lib.hid o3; replace b3 := Lib.hid b3; clear g3 a3))
          have e1 : k + 1 + (i - k) = i + 1 := by omega
          exact ⟨⟨i + 1, l.take k ++ [i] ++ l.drop k, by go_num, by omega, fun e => by omega, Lib.hid (hO.out.ins hk hbef.out haft.out), Lib.hid (by
            have := o3.out
            rw [e1] at this
            simpa [nats, List.map_take] using this), b3⟩, by simp [intOf]; omega⟩
    · have hin : Hid (i = n) := Lib.hid (by omega)
      have d1 : decide ((i : Int) < (n : Int)) = false := by simp; omega
      obtain ⟨A', c', e, h2, h3, h4, -⟩ := Rd.own ho.out
      subst e
      replace h4 := Lib.hid h4
      clear h0
      go_wp2_with fail
      first | go_ret | go_end0
      refine ⟨A', c', l, by rw [hin.out]; rfl, by have := hin.out; omega, h3, h4.out, by have := hO.out; rwa [hin.out] at this, bl_then hb1.out hb1.out.size hB.out⟩
end Go.Proofs.Ytdhklfbelplbcaa
