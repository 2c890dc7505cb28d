/- The walk of RankParts. -/
import Derived.Test.YtdhklfbelplbcaaFc
import Derived.Test.YtdhklfbelplbcaaFi
namespace Go.Proofs.Ytdhklfbelplbcaa
set_option linter.unusedVariables false
set_option linter.unusedSimpArgs false
open Go.RowKit

def part (x : Int) : Int := x % 1048576 - 524288
def parts (ns : List Int) (k : Nat) : List Int := (ns.take k).map part
def bitsOf (l : List Int) : List Nat := l.map (floatOfInt .f64)
theorem part_bd (x : Int) : -524288 ≤ part x ∧ part x ≤ 524287 := by unfold part; omega
theorem parts_snoc (ns : List Int) (k : Nat) (h : k < ns.length) : parts ns (k + 1) = parts ns k ++ [part ns[k]] := by
  unfold parts; rw [List.take_succ_eq_append_getElem h, List.map_append]; rfl
theorem parts_len (ns : List Int) (k : Nat) (h : k ≤ ns.length) : (parts ns k).length = k := by simp [parts]; omega
theorem sum_bd (l : List Int) (h : ∀ x ∈ l, -524288 ≤ x ∧ x ≤ 524288) : -524288 * (l.length : Int) ≤ l.sum ∧ l.sum ≤ 524288 * (l.length : Int) := by
  induction l with
  | nil => simp
  | cons x l ih =>
    have h1 := h x (by simp)
    have h2 := ih (fun y hy => h y (by simp [hy]))
    simp only [List.sum_cons, List.length_cons]
    push_cast
    omega
theorem parts_bd (ns : List Int) (k : Nat) (h : k ≤ ns.length) : -524288 * (k : Int) ≤ (parts ns k).sum ∧ (parts ns k).sum ≤ 524288 * (k : Int) := by
  have := sum_bd (parts ns k) (fun x hx => by
    simp only [parts, List.mem_map] at hx
    obtain ⟨y, _, rfl⟩ := hx
    have := part_bd y; omega)
  rwa [parts_len ns k h] at this

theorem sum_n (A : Option Addr) (c n : Nat) (l : List Nat) (w : World) (hl : l.length = n) (hr : Rd w A (fl l)) (hn : n ≤ c) (hc : c ≤ 9223372036854775807) (r : Nat) (hs : sumO l = some r) :
    Calls Try.prog 15 #[.slice A n c] w fun e w' => e = .returned (.float .f64 r) ∧ Below w.heap.size w w' := by
  subst hl
  refine (sum_any A c l w hr hn hc).mono ?_
  rintro e w' ⟨r', he, ho, hb⟩
  rw [hs] at ho
  have : r' = r := ho
  subst this
  exact ⟨he, hb⟩
theorem z1 : sumO [9223372036854775808] = some 0 := by decide +kernel
theorem z2 : (cmpF 0 0 == 0) = true := by decide +kernel

set_option maxHeartbeats 4000000 in
set_option maxRecDepth 100000 in
theorem rankparts_any (w : World) (A : Option Addr) (c : Nat) (ns : List Int) (hr : Rd w A (ints ns)) (hn : ns.length ≤ c) (hc : c ≤ 9223372036854775807) (_ : ∀ x ∈ ns, (Lit.int .i64 x).wf = true) :
    Calls Try.prog 6 #[.slice A ns.length c] w fun e w' => e = .returned (.bool true) ∧ Below w.heap.size w w' := by
  have hr' := Lib.hid hr
  clear hr
  go_enter Try.func6, Try.ntmps6
  go_upto_block 0 with (go_at_call 11; refine (known_any _).mono ?_; rintro e w1 ⟨rfl, hb1⟩)
  have hr1 := Lib.hid (hr'.out.below hb1)
  clear hr'
  go_cut [7, 3, 5] (fun i v n wr => ∃ k : Nat, k ≤ 30 ∧ k ≤ ns.length ∧ n = .int .i64 (parts ns k).sum ∧ wr.ownsRow w1.heap.size 23 1 v k (fl (bitsOf (parts ns k))) ∧ Below w1.heap.size w1 wr)
  case first =>
    go_wp2_with fail
    go_loopw [7, 3, 5] (fun i v n wr => ∃ k : Nat, i = .int .i64 k ∧ k ≤ 30 ∧ k ≤ ns.length ∧ n = .int .i64 (parts ns k).sum ∧ wr.ownsRow w1.heap.size 23 1 v k (fl (bitsOf (parts ns k))) ∧ Below w1.heap.size w1 wr) (fun i _ _ _ => 30 - (intOf i).toNat)
    case atStart => exact ⟨0, rfl, by omega, by omega, rfl, own_nil _ _ _ _, Below.refl _ _⟩
    case round =>
      obtain ⟨k, rfl, hk, hk2, rfl, hown, hb⟩ := hrel
      have hown' := Lib.hid hown
      have hb' := Lib.hid hb
      have hsz := hb.size
      clear hown hb
      by_cases h1 : k < ns.length
      · have hd1 : decide (k < ns.length) = true := by simpa using h1
        by_cases h2 : k < 30
        · have hd2 : decide ((k : Int) < 30) = true := by simp; omega
          obtain ⟨ad, x, rfl, hx, hxe⟩ := (hr1.out.below hb'.out).at k h1
          have hpb := part_bd x
          have hsb := parts_bd ns k hk2
          have hsn : Hid (parts ns (k + 1) = parts ns k ++ [part x]) := Lib.hid (by rw [parts_snoc ns k h1, hxe])
          clear hxe
          have hpx : Hid (x % 1048576 = part x + 524288) := Lib.hid (by unfold part; omega)
          obtain ⟨S, hS⟩ : ∃ S, S = (parts ns k).sum := ⟨_, rfl⟩
          rw [← hS] at hsb ⊢
          have hS' := Lib.hid hS
          clear hS
          go_wp2_with (first
            | (go_at_call 18; refine (within_any _ _ _ (by omega) (by omega)).mono ?_; rintro e w' ⟨rfl, rfl⟩; rw [hpx.out])
            | (at_builtin; refine app_lit (w0 := w1) w1.heap.size rfl _ _ 25 23 (.float .f64 0) 1 8 rfl Try.underlying25 info23 rfl (by decide) (by decide) _ k (fl (bitsOf (parts ns k))) rfl hown'.out hb'.out (by omega) 1 1 [.float .f64 (floatOfInt .f64 (part x))] rfl rfl (by simp [Value.oneCell']) (by omega) ?_; intro v3 w3 hown3 hb3 hg3 hat3; clear hg3 hat3))
          go_roundw
          case rel =>
            refine ⟨k + 1, by go_num, by omega, by omega, ?_, ?_, hb3⟩
            · rw [hsn.out, List.sum_append, ← hS'.out]; simp
            · rw [hsn.out]; simpa [fl, enc, bitsOf] using hown3
          case measure => simp [intOf]; omega
        · have hd2 : decide ((k : Int) < 30) = false := by simp; omega
          go_wp2_with fail
          go_meet
          case rel => exact ⟨k, hk, hk2, rfl, hown'.out, hb'.out⟩
      · have hd1 : decide (k < ns.length) = false := by simpa using h1
        go_wp2_with fail
        go_meet
        case rel => exact ⟨k, hk, hk2, rfl, hown'.out, hb'.out⟩
  case rest =>
    obtain ⟨K, hK, hK2, rfl, hown, hb2⟩ := hcut
    obtain ⟨A2, c2, rfl, hn2, hc2, hr2, hA2⟩ := Rd.own hown
    have hA2' := Lib.hid hA2
    clear hA2
    obtain ⟨P, hP⟩ : ∃ P, P = parts ns K := ⟨_, rfl⟩
    have hPl : P.length = K := by rw [hP, parts_len ns K hK2]
    have hPb : ∀ x ∈ P, -524288 ≤ x ∧ x ≤ 524287 := by
      intro x hx
      rw [hP] at hx
      simp only [parts, List.mem_map] at hx
      obtain ⟨y, _, rfl⟩ := hx
      exact part_bd y
    rw [← hP] at hr2 ⊢
    clear hP hown hr1 hK2
    have hr2' := Lib.hid hr2
    have hb2' := Lib.hid (bl_then hb1 hb1.size hb2)
    have hPl' := Lib.hid hPl
    have hPb' := Lib.hid hPb
    clear hr2 hb2 hb1 hPl hPb
    go_wp2_with fail
    go_loopw [9, 4] (fun i t wr => ∃ j : Nat, i = .int .i64 j ∧ j ≤ K ∧ wr.ownsRow wc.heap.size 23 1 t (K - j) (fl (bitsOf (P.drop j).reverse)) ∧ Below wc.heap.size wc wr) (fun i _ _ => (intOf i).toNat)
    case atStart => exact ⟨K, rfl, Nat.le_refl _, by rw [List.drop_of_length_le (by rw [hPl'.out]; exact Nat.le_refl _), Nat.sub_self]; exact own_nil _ _ _ _, Below.refl _ _⟩
    case round =>
      obtain ⟨j, rfl, hj, hown, hb⟩ := hrel
      have hown' := Lib.hid hown
      have hb' := Lib.hid hb
      have hsz := hb.size
      clear hown hb
      by_cases h0 : 0 < j
      · obtain ⟨m, rfl⟩ : ∃ m, j = m + 1 := ⟨j - 1, by omega⟩
        obtain ⟨ad, x, rfl, hx, hxe⟩ := (hr2'.out.below hb'.out).at m (by have := hPl'.out; simp [bitsOf]; omega)
        have hd : Hid ((P.drop m).reverse = (P.drop (m + 1)).reverse ++ [P[m]'(by have := hPl'.out; omega)]) := Lib.hid (by
          rw [List.drop_eq_getElem_cons (by have := hPl'.out; omega), List.reverse_cons])
        have hxe' : Hid (x = floatOfInt .f64 (P[m]'(by have := hPl'.out; omega))) := Lib.hid (by rw [hxe]; simp [bitsOf])
        clear hxe
        go_wp2_with (at_builtin; refine app_lit (w0 := wc) wc.heap.size rfl _ _ 25 23 (.float .f64 0) 1 8 rfl Try.underlying25 info23 rfl (by decide) (by decide) _ (K - (m + 1)) (fl (bitsOf (P.drop (m + 1)).reverse)) rfl hown'.out hb'.out (by omega) 1 1 [.float .f64 x] rfl rfl (by simp [Value.oneCell']) (by omega) ?_; intro v3 w3 hown3 hb3 hg3 hat3; clear hg3 hat3)
        go_roundw
        case rel =>
          refine ⟨m, by go_num, by omega, ?_, hb3⟩
          rw [hd.out, show K - m = K - (m + 1) + 1 by omega]
          rw [hxe'.out] at hown3
          simpa [fl, enc, bitsOf] using hown3
        case measure => simp [intOf]
      · have hj0 : j = 0 := by omega
        subst hj0
        obtain ⟨A3, c3, rfl, hn3, hc3, hr3, -⟩ := Rd.own hown'.out
        rw [List.drop_zero, Nat.sub_zero] at *
        have hr3' := Lib.hid hr3
        have hr2'' := Lib.hid (hr2'.out.below hb'.out)
        have hb3' := Lib.hid (bl_then hb2'.out hb2'.out.size hb'.out)
        clear hown' hr2' hr3 hb' hb2'
        obtain ⟨r1, hr1, hi1⟩ := sum_int (bitsOf P) P (by simp [bitsOf]) (fun i h1 h2 => by
          have := hPb'.out P[i] (List.getElem_mem h2)
          refine ⟨?_, by omega⟩
          simp only [bitsOf, List.getElem_map]
          exact ofInt_int _ (by omega)) (by have := hPl'.out; omega)
        obtain ⟨r2, hr2, hi2⟩ := sum_int (bitsOf P.reverse) P.reverse (by simp [bitsOf]) (fun i h1 h2 => by
          have := hPb'.out P.reverse[i] (List.mem_reverse.1 (List.getElem_mem h2))
          refine ⟨?_, by omega⟩
          simp only [bitsOf, List.getElem_map]
          exact ofInt_int _ (by omega)) (by have := hPl'.out; simp; omega)
        rw [List.sum_reverse] at hi2
        have hbd := sum_bd P (fun x hx => by have := hPb'.out x hx; omega)
        rw [hPl'.out] at hbd
        have hS := ofInt_int P.sum (by omega)
        have e1 := int_eq hi1 hS
        have e2 := int_eq hi2 hS
        obtain ⟨S, hSe⟩ : ∃ S, S = P.sum := ⟨_, rfl⟩
        rw [← hSe] at e1 e2 hbd hS ⊢
        have hr1' := Lib.hid hr1
        have hr2s' := Lib.hid hr2
        have hSe' := Lib.hid hSe
        have hS' := Lib.hid hS
        have hi1' := Lib.hid hi1
        clear hr1 hr2 hSe hS hi1 hi2
        obtain ⟨r3, hr3s, hi3⟩ := sum_int (bitsOf P ++ [0, 9223372036854775808]) (P ++ [0, 0]) (by simp [bitsOf]) (fun i h1 h2 => by
          by_cases hi : i < P.length
          · rw [List.getElem_append_left (by simpa [bitsOf] using hi), List.getElem_append_left hi]
            have := hPb'.out P[i] (List.getElem_mem hi)
            refine ⟨?_, by omega⟩
            simp only [bitsOf, List.getElem_map]
            exact ofInt_int _ (by omega)
          · have hi2 : i = P.length ∨ i = P.length + 1 := by simp at h2; omega
            have hb : (bitsOf P).length = P.length := by simp [bitsOf]
            rcases hi2 with rfl | rfl
            · rw [List.getElem_append_right (by omega), List.getElem_append_right (by omega)]
              simp only [hb, Nat.sub_self]
              exact ⟨int_0, by simp⟩
            · rw [List.getElem_append_right (by omega), List.getElem_append_right (by omega)]
              simp only [hb, Nat.add_sub_cancel_left]
              exact ⟨int_mz, by simp⟩) (by have := hPl'.out; simp; omega)
        have e3 := int_eq hi3 (show IntF (floatOfInt .f64 S) (P ++ [0, 0]).sum by rw [List.sum_append, ← hSe'.out]; simpa using hS'.out)
        have hr3s' := Lib.hid hr3s
        clear hr3s hi3
        have hm := fun w => run_float_arith (P := Try.prog) w .mul 23 .f64 _ _ _ m_zero
        have z2' := z2
        clear h0 hj
        have hbl : Hid ((bitsOf P).length = K) := Lib.hid (by have := hPl'.out; simpa [bitsOf] using this)
        have hfl : Hid ((fl (bitsOf P)).length = K) := Lib.hid (by have := hPl'.out; simpa [fl, enc, bitsOf] using this)
        have hwz := hb3'.out.size
        go_wp2_with fail
        refine (sum_n A2 c2 K (bitsOf P) _ hbl.out hr2''.out hn2 hc2 r1 hr1'.out).mono ?_
        rintro e w4 ⟨rfl, hb4⟩
        have hb4' := Lib.hid (bl_then hb3'.out hwz hb4)
        have hw4 := hb4.size
        have hr2w := Lib.hid (hr2''.out.below hb4)
        have hr3w := Lib.hid (hr3'.out.below hb4)
        clear hb4 hr2'' hr3' hb3'
        go_wp2_with fail
        refine (sum_n A3 c3 K (bitsOf P.reverse) _ (by have := hPl'.out; simpa [bitsOf] using this) hr3w.out hn3 hc3 r2 hr2s'.out).mono ?_
        rintro e w5 ⟨rfl, hb5⟩
        have hb5' := Lib.hid (bl_then hb4'.out (Nat.le_trans hwz hw4) hb5)
        have hw5 := hb5.size
        have hr2v := Lib.hid (hr2w.out.below hb5)
        clear hb5 hr2w hr3w hb4'
        go_wp2_with (first
          | (at_builtin; refine app_src (w0 := w5) w5.heap.size (by rfl) _ _ 25 23 (.float .f64 0) 1 8 rfl Try.underlying25 info23 rfl (by decide) (by decide) _ 0 [] rfl (own_lit w5 w5.heap.size 23 1 0 [] (Nat.le_refl _) rfl (by omega)) ((Below.refl _ _).alloc (Nat.le_refl _) _) (by simp) A2 K c2 (fl (bitsOf P)) rfl (by rw [hfl.out, Nat.mul_one]) (hr2v.out.below ((Below.refl _ _).alloc (Nat.le_refl _) _)) hA2'.out (by intro u hu; simp only [fl, enc, List.mem_map] at hu; obtain ⟨q, _, rfl⟩ := hu; rfl) (by omega) ?_; intro v6 w6 hown6 hb6 hg6 hat6; clear hg6 hat6; have hown6' := Lib.hid hown6; have hb6' := Lib.hid hb6; have hw6 := hb6.size; clear hown6 hb6)
          | (at_builtin; refine app_lit (w0 := w5) w5.heap.size (by rfl) _ _ 25 23 (.float .f64 0) 1 8 rfl Try.underlying25 info23 rfl (by decide) (by decide) v6 (0 + K) ([] ++ fl (bitsOf P)) rfl hown6'.out hb6'.out hw6 2 2 [.float .f64 0, .float .f64 9223372036854775808] rfl rfl (by simp [Value.oneCell']) (by omega) ?_; intro v7 w7 hown7 hb7 hg7 hat7; clear hg7 hat7))
        obtain ⟨A7, c7, rfl, hn7, hc7, hr7, -⟩ := Rd.own hown7
        clear hown7 hb6' hown6'
        refine (sum_n A7 c7 (0 + K + 2) (bitsOf P ++ [0, 9223372036854775808]) _ (by have := hbl.out; simp; omega) (by simpa [fl, enc] using hr7) hn7 hc7 r3 hr3s'.out).mono ?_
        rintro e w8 ⟨rfl, hb8⟩
        have hb8' := Lib.hid (bl_then hb5'.out (by omega) (bl_then hb7 hb7.size hb8))
        have hw8 := hb8.size
        have hw7 := hb7.size
        clear hb8 hb7 hr7 hb5' hr2v
        go_wp2_with fail
        refine (sum_n (some ⟨w8.heap.size, 0, none⟩) 1 1 [9223372036854775808] _ rfl (rd_new w8 [.float .f64 9223372036854775808] 23) (Nat.le_refl _) (by omega) 0 z1).mono ?_
        rintro e w9 ⟨rfl, hb9⟩
        have hb9' := Lib.hid (bl_then (bl_alloc hb8'.out _) (by simp; omega) hb9)
        clear hb9 hb8'
        go_wp2_with (go_at_call 13; refine (cmp_any _ _ _).mono ?_; rintro e w' ⟨rfl, rfl⟩)
        go_ret
        exact ⟨rfl, hb9'.out⟩
end Go.Proofs.Ytdhklfbelplbcaa
