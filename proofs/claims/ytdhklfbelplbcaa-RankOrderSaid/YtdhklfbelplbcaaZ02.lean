/-
  The walks: the document's All, Least, Most, Then, Put, Has.
-/
import Derived.Test.YtdhklfbelplbcaaZ01
namespace Go.Proofs.Ytdhklfbelplbcaa
set_option linter.unusedVariables false
set_option linter.unusedSimpArgs false
open Go.RowKit

theorem conv_drew (w : World) (x : Int) (h0 : 0 ≤ x) (h1 : x < 256) :
    (convert 127 9 (.slice (some ⟨w.heap.size, 0, none⟩) 1 1)).run Try.prog (w.alloc (.cells #[.int .u8 x] 5)).drew = .ok (.string (st [x])) (w.alloc (.cells #[.int .u8 x] 5)).drew := conv_one w.drew x h0 h1
theorem bl_ad {w W : World} (h : Below w.heap.size w W) (o : Obj) : Below w.heap.size w (W.alloc o).drew := (bl_alloc h o).drew

set_option maxHeartbeats 4000000 in
set_option maxRecDepth 100000 in
theorem refall_to {n : Nat} {c : Int} {l : List Int} (h : allL n c = l) (hn : n ≤ 1000) (h0 : 48 ≤ c) (h1 : c ≤ 50) (w : World) :
    Calls Try.prog 56 #[.int .i64 n, .int .u8 c] w fun e w' => e = .returned (.string (st l)) ∧ Below w.heap.size w w' := by
  subst h
  have hcv := fun (w : World) => conv_one w c (by omega) (by omega)
  go_enter Try.func56, Try.ntmps56
  go_wp2_with fail
  go_loopw [5] (fun s wr => ∃ k : Nat, k ≤ n ∧ s = .string (st (allL k c)) ∧ Below w.heap.size w wr) (fun s _ => n - (match s with | .string b => b.size | _ => 0))
  case atStart => exact ⟨0, by omega, rfl, Below.refl _ _⟩
  case round =>
    obtain ⟨k, hk, rfl, hb⟩ := hrel
    have hsz : (st (allL k c)).size = k := by rw [st_size]; simp [allL]
    have hs1 : ∀ x, (st [x]).size = 1 := fun x => st_size [x]
    have hap : st (allL k c) ++ st [c] = st (allL (k + 1) c) := by rw [st_snoc]; simp [allL, List.replicate_succ']
    have hsz1 : Hid ((st (allL (k + 1) c)).size = k + 1) := Lib.hid (by rw [st_size]; simp [allL])
    by_cases hlt : k < n
    · have hd : decide (k < n) = true := by simpa using hlt
      have hd2 : decide ((k : Int) < (n : Int)) = true := by simp; omega
      go_wp2_with fail
      refine ⟨⟨k + 1, by omega, rfl, bl_alloc hb _⟩, ?_⟩
      simp only [hsz1.out]
      omega
    · have hd : decide (k < n) = false := by simpa using hlt
      have hd2 : decide ((k : Int) < (n : Int)) = false := by simp; omega
      have hkb : Hid (k = n) := Lib.hid (by omega)
      clear hk
      go_wp2_with fail
      go_ret
      exact ⟨ret_str (by rw [hkb.out]), hb⟩

set_option maxHeartbeats 4000000 in
set_option maxRecDepth 100000 in
theorem refleast_to {a b l : List Int} (h : leastL a b = l) (ha : Asc a) (hb : Asc b) (hab : a.length = b.length) (hla : a.length ≤ 1000) (w : World) :
    Calls Try.prog 68 #[.string (st a), .string (st b)] w fun e w' => e = .returned (.string (st l)) ∧ Below w.heap.size w w' := by
  subst h
  have ha' := Lib.hid ha
  have hb' := Lib.hid hb
  have hab' := Lib.hid hab
  have hsa := st_size a
  have hsb := st_size b
  clear ha hb hab
  go_enter Try.func68, Try.ntmps68
  go_wp2_with fail
  go_loopw [5, 6] (fun s i wr => ∃ k : Nat, i = .int .i64 k ∧ k ≤ a.length ∧ s = .string (st (leastL (a.take k) (b.take k))) ∧ Below w.heap.size w wr) (fun _ i _ => a.length - (intOf i).toNat)
  case atStart => exact ⟨0, rfl, by omega, rfl, Below.refl _ _⟩
  case round =>
    obtain ⟨k, rfl, hk, rfl, hbl⟩ := hrel
    have hsz : (st (leastL (a.take k) (b.take k))).size + 1 ≤ 2000 := by rw [st_size]; simp [leastL]; omega
    have hs1 : ∀ x, (st [x]).size = 1 := fun x => st_size [x]
    have hap := fun x => st_snoc (leastL (a.take k) (b.take k)) x
    by_cases hlt : k < a.length
    · have hd : decide (k < a.length) = true := by simpa using hlt
      have hlb : k < b.length := by rw [← hab'.out]; exact hlt
      have hx := ha'.out.get k hlt
      have hy := hb'.out.get k hlb
      have gx : ∀ h, (((st a)[k]'h).toNat : Int) = a[k] := fun h => st_get a ha'.out k h
      have gy : ∀ h, (((st b)[k]'h).toNat : Int) = b[k] := fun h => st_get b hb'.out k h
      have hz := Lib.hid (zip_succ min a b k hlt hlb)
      have hcv := fun (w : World) => conv_one w (min a[k] b[k]) (by omega) (by omega)
      have hcd := fun (w : World) => conv_drew w (min a[k] b[k]) (by omega) (by omega)
      have hm1 : (if b[k] < a[k] then b[k] else a[k]) = min a[k] b[k] := by split <;> omega
      have hm2 : (if a[k] < b[k] then a[k] else b[k]) = min a[k] b[k] := by split <;> omega
      go_upto_region 5 with fail
      go_region_with fail
      all_goals (go_wp2_with fail)
      all_goals
        refine ⟨⟨k + 1, by go_num, by omega, ?_, by first | exact bl_ad hbl _ | exact bl_alloc hbl.drew _⟩, by simp [intOf]; omega⟩
        show _ = Value.string (st (List.zipWith min (a.take (k + 1)) (b.take (k + 1))))
        rw [hz.out]
        rfl
    · have hd : decide (k < a.length) = false := by simpa using hlt
      have hkb : Hid (k = a.length) := Lib.hid (by omega)
      clear hk
      go_wp2_with fail
      go_ret
      refine ⟨ret_str ?_, hbl⟩
      rw [hkb.out, List.take_of_length_le (Nat.le_refl _), List.take_of_length_le (by rw [hab'.out]; exact Nat.le_refl _)]

set_option maxHeartbeats 4000000 in
set_option maxRecDepth 100000 in
theorem refmost_to {a b l : List Int} (h : mostL a b = l) (ha : Asc a) (hb : Asc b) (hab : a.length = b.length) (hla : a.length ≤ 1000) (w : World) :
    Calls Try.prog 67 #[.string (st a), .string (st b)] w fun e w' => e = .returned (.string (st l)) ∧ Below w.heap.size w w' := by
  subst h
  have ha' := Lib.hid ha
  have hb' := Lib.hid hb
  have hab' := Lib.hid hab
  have hsa := st_size a
  have hsb := st_size b
  clear ha hb hab
  go_enter Try.func67, Try.ntmps67
  go_wp2_with fail
  go_loopw [5, 6] (fun s i wr => ∃ k : Nat, i = .int .i64 k ∧ k ≤ a.length ∧ s = .string (st (mostL (a.take k) (b.take k))) ∧ Below w.heap.size w wr) (fun _ i _ => a.length - (intOf i).toNat)
  case atStart => exact ⟨0, rfl, by omega, rfl, Below.refl _ _⟩
  case round =>
    obtain ⟨k, rfl, hk, rfl, hbl⟩ := hrel
    have hsz : (st (mostL (a.take k) (b.take k))).size + 1 ≤ 2000 := by rw [st_size]; simp [mostL]; omega
    have hs1 : ∀ x, (st [x]).size = 1 := fun x => st_size [x]
    have hap := fun x => st_snoc (mostL (a.take k) (b.take k)) x
    by_cases hlt : k < a.length
    · have hd : decide (k < a.length) = true := by simpa using hlt
      have hlb : k < b.length := by rw [← hab'.out]; exact hlt
      have hx := ha'.out.get k hlt
      have hy := hb'.out.get k hlb
      have gx : ∀ h, (((st a)[k]'h).toNat : Int) = a[k] := fun h => st_get a ha'.out k h
      have gy : ∀ h, (((st b)[k]'h).toNat : Int) = b[k] := fun h => st_get b hb'.out k h
      have hz := Lib.hid (zip_succ max a b k hlt hlb)
      have hcv := fun (w : World) => conv_one w (max a[k] b[k]) (by omega) (by omega)
      have hcd := fun (w : World) => conv_drew w (max a[k] b[k]) (by omega) (by omega)
      have hm1 : (if a[k] < b[k] then b[k] else a[k]) = max a[k] b[k] := by split <;> omega
      have hm2 : (if b[k] < a[k] then a[k] else b[k]) = max a[k] b[k] := by split <;> omega
      go_upto_region 5 with fail
      go_region_with fail
      all_goals (go_wp2_with fail)
      all_goals
        refine ⟨⟨k + 1, by go_num, by omega, ?_, by first | exact bl_ad hbl _ | exact bl_alloc hbl.drew _⟩, by simp [intOf]; omega⟩
        show _ = Value.string (st (List.zipWith max (a.take (k + 1)) (b.take (k + 1))))
        rw [hz.out]
        rfl
    · have hd : decide (k < a.length) = false := by simpa using hlt
      have hkb : Hid (k = a.length) := Lib.hid (by omega)
      clear hk
      go_wp2_with fail
      go_ret
      refine ⟨ret_str ?_, hbl⟩
      rw [hkb.out, List.take_of_length_le (Nat.le_refl _), List.take_of_length_le (by rw [hab'.out]; exact Nat.le_refl _)]

set_option maxHeartbeats 4000000 in
set_option maxRecDepth 100000 in
theorem refthen_to {a b l : List Int} (h : thenL a b = l) (ha : Asc a) (hb : Asc b) (hab : a.length = b.length) (hla : a.length ≤ 1000) (w : World) :
    Calls Try.prog 59 #[.string (st a), .string (st b)] w fun e w' => e = .returned (.string (st l)) ∧ Below w.heap.size w w' := by
  subst h
  have ha' := Lib.hid ha
  have hb' := Lib.hid hb
  have hab' := Lib.hid hab
  have hsa := st_size a
  have hsb := st_size b
  clear ha hb hab
  go_enter Try.func59, Try.ntmps59
  go_wp2_with fail
  go_loopw [5, 6] (fun s i wr => ∃ k : Nat, i = .int .i64 k ∧ k ≤ a.length ∧ s = .string (st (thenL (a.take k) (b.take k))) ∧ Below w.heap.size w wr) (fun _ i _ => a.length - (intOf i).toNat)
  case atStart => exact ⟨0, rfl, by omega, rfl, Below.refl _ _⟩
  case round =>
    obtain ⟨k, rfl, hk, rfl, hbl⟩ := hrel
    have hsz : (st (thenL (a.take k) (b.take k))).size + 1 ≤ 2000 := by rw [st_size]; simp [thenL]; omega
    have hs1 : ∀ x, (st [x]).size = 1 := fun x => st_size [x]
    have hap := fun x => st_snoc (thenL (a.take k) (b.take k)) x
    by_cases hlt : k < a.length
    · have hd : decide (k < a.length) = true := by simpa using hlt
      have hlb : k < b.length := by rw [← hab'.out]; exact hlt
      have hx := ha'.out.get k hlt
      have hy := hb'.out.get k hlb
      have gx : ∀ h, (((st a)[k]'h).toNat : Int) = a[k] := fun h => st_get a ha'.out k h
      have gy : ∀ h, (((st b)[k]'h).toNat : Int) = b[k] := fun h => st_get b hb'.out k h
      have hz := Lib.hid (zip_succ th a b k hlt hlb)
      have hcx := fun (w : World) => conv_one w a[k] (by omega) (by omega)
      have hcy := fun (w : World) => conv_one w b[k] (by omega) (by omega)
      by_cases h49 : b[k] = 49
      · have hq : (b[k] == 49) = true := by simpa using h49
        have hz2 := Lib.hid (show th a[k] b[k] = a[k] by unfold th; rw [if_pos h49])
        have h49' := Lib.hid h49
        clear h49
        go_wp2_with fail
        refine ⟨⟨k + 1, by go_num, by omega, ?_, bl_alloc hbl _⟩, by simp [intOf]; omega⟩
        show _ = Value.string (st (List.zipWith th (a.take (k + 1)) (b.take (k + 1))))
        rw [hz.out, hz2.out]
        rfl
      · have hq : (b[k] == 49) = false := by simpa using h49
        have hz2 := Lib.hid (show th a[k] b[k] = b[k] by unfold th; rw [if_neg h49])
        have h49' := Lib.hid h49
        clear h49
        go_wp2_with fail
        refine ⟨⟨k + 1, by go_num, by omega, ?_, bl_alloc hbl _⟩, by simp [intOf]; omega⟩
        show _ = Value.string (st (List.zipWith th (a.take (k + 1)) (b.take (k + 1))))
        rw [hz.out, hz2.out]
        rfl
    · have hd : decide (k < a.length) = false := by simpa using hlt
      have hkb : Hid (k = a.length) := Lib.hid (by omega)
      clear hk
      go_wp2_with fail
      go_ret
      refine ⟨ret_str ?_, hbl⟩
      rw [hkb.out, List.take_of_length_le (Nat.le_refl _), List.take_of_length_le (by rw [hab'.out]; exact Nat.le_refl _)]


theorem refhas_to {a : List Int} {p : Int} {b : Bool} (h : hasL a p = b) (ha : Asc a) (hla : a.length ≤ 1000) (w : World) :
    Calls Try.prog 40 #[.string (st a), .int .i64 p] w fun e w' => e = .returned (.bool b) ∧ Below w.heap.size w w' := by
  have hsa := st_size a
  by_cases h0 : 0 ≤ p
  · obtain ⟨k, rfl⟩ : ∃ k : Nat, p = k := ⟨p.toNat, by omega⟩
    by_cases hlt : k < a.length
    · have hz : Hid ((a[k] == 50) = b) := Lib.hid (by rw [← h]; unfold hasL; simp [hlt])
      have gx : ∀ h, (((st a)[k]'h).toNat : Int) = a[k] := fun h => st_get a ha k h
      have hd : decide (k < a.length) = true := by simpa using hlt
      clear h ha h0
      go_enter Try.func40, Try.ntmps40
      go_wp2_with fail
      go_ret
      exact ⟨ret_bool hz.out, Below.refl _ _⟩
    · have hz : Hid (false = b) := Lib.hid (by rw [← h]; unfold hasL; simp [show a.length ≤ k by omega])
      have hd : decide (k < a.length) = false := by simpa using hlt
      clear h ha h0
      go_enter Try.func40, Try.ntmps40
      go_wp2_with fail
      go_ret
      exact ⟨ret_bool hz.out, Below.refl _ _⟩
  · have hz : Hid (false = b) := Lib.hid (by rw [← h]; unfold hasL; simp [h0])
    have hd : decide (p ≥ 0) = false := by simpa using h0
    have hd2 : decide (0 ≤ p) = false := by simpa using h0
    clear h ha
    go_enter Try.func40, Try.ntmps40
    go_wp2_with fail
    go_ret
    exact ⟨ret_bool hz.out, Below.refl _ _⟩

theorem put_mid (a : List Int) (k : Nat) (c : Int) (h : k < a.length) : putL a k c = a.take k ++ [c] ++ a.drop (k + 1) := by
  unfold putL
  rw [if_pos (by omega), Int.toNat_natCast, List.set_eq_take_append_cons_drop, if_pos h]
  simp
theorem put_out (a : List Int) (p c : Int) (h : ¬ (0 ≤ p ∧ p < a.length)) : putL a p c = a := by
  unfold putL
  split
  · rw [List.set_eq_of_length_le (by omega)]
  · rfl
set_option maxHeartbeats 4000000 in
set_option maxRecDepth 100000 in
theorem refput_to {a l : List Int} {p c : Int} (h : putL a p c = l) (ha : Asc a) (h0 : 48 ≤ c) (h1 : c ≤ 50) (hla : a.length ≤ 1000) (w : World) :
    Calls Try.prog 65 #[.string (st a), .int .i64 p, .int .u8 c] w fun e w' => e = .returned (.string (st l)) ∧ Below w.heap.size w w' := by
  have hsa := st_size a
  by_cases hp : 0 ≤ p
  · obtain ⟨k, rfl⟩ : ∃ k : Nat, p = k := ⟨p.toNat, by omega⟩
    by_cases hlt : k < a.length
    · have hz : Hid (a.take k ++ [c] ++ a.drop (k + 1) = l) := Lib.hid ((put_mid a k c hlt).symm.trans h)
      have e1 : (st a).extract 0 k = st (a.take k) := by rw [st_extract, List.drop_zero]
      have e2 : (st a).extract (k + 1) a.length = st (a.drop (k + 1)) := by rw [st_extract, List.take_of_length_le (Nat.le_refl _)]
      have s1 : (st (a.take k)).size = k := by rw [st_size, List.length_take]; omega
      have s2 : (st (a.drop (k + 1))).size = a.length - (k + 1) := by rw [st_size, List.length_drop]
      have s3 : ∀ x, (st [x]).size = 1 := fun x => st_size [x]
      have p1 : st (a.take k) ++ st [c] = st (a.take k ++ [c]) := st_app _ _
      have p2 : st (a.take k ++ [c]) ++ st (a.drop (k + 1)) = st l := by rw [st_app, hz.out]
      have s4 : (st (a.take k ++ [c])).size = k + 1 := by rw [st_size, List.length_append, List.length_take]; simp; omega
      have hcv := fun (w : World) => conv_one w c (by omega) (by omega)
      have hcd := fun (w : World) => conv_drew w c (by omega) (by omega)
      have hd : decide (k < a.length) = true := by simpa using hlt
      have hd2 : decide (k ≥ a.length) = false := by simpa using hlt
      have hd3 : decide (a.length ≤ k) = false := by simpa using hlt
      have hk1 : k + 1 ≤ a.length := hlt
      have hi1 : ((k : Int) + 1).toNat = k + 1 := by omega
      have hk2 : ((k : Int) + 1) ≤ (a.length : Int) := by omega
      have hk3 : (k : Int) ≤ (a.length : Int) := by omega
      have hk4 : (0 : Int) ≤ (k : Int) + 1 := by omega
      have hk5 : IntKind.i64.wrap ((k : Int) + 1) = (k : Int) + 1 := by rw [IntKind.wrap_i64]; omega
      clear h ha hp
      go_enter Try.func65, Try.ntmps65
      go_wp2_with fail
      go_region_with fail
      all_goals (go_wp2_with fail)
      all_goals go_ret
      all_goals exact ⟨rfl, by first | exact bl_ad (Below.refl _ _) _ | exact bl_alloc (Below.refl _ _).drew _⟩
    · have hz : Hid (a = l) := Lib.hid ((put_out a k c (by omega)).symm.trans h)
      have hd2 : decide (k ≥ a.length) = true := by simpa using hlt
      have hd3 : decide (a.length ≤ k) = true := by simpa using hlt
      clear h ha hp
      go_enter Try.func65, Try.ntmps65
      go_wp2_with fail
      go_ret
      exact ⟨ret_str (by rw [hz.out]), Below.refl _ _⟩
  · have hz : Hid (a = l) := Lib.hid ((put_out a p c (by omega)).symm.trans h)
    have hd2 : decide (p < 0) = true := by simpa using hp
    clear h ha
    go_enter Try.func65, Try.ntmps65
    go_wp2_with fail
    go_ret
    exact ⟨ret_str (by rw [hz.out]), Below.refl _ _⟩

/-- an effect of so many locks -/
def Ef (m : Nat) (l : List Int) : Prop := Sg l ∧ l.length = m
theorem zip_ef {op : Int → Int → Int} (hop : ∀ x y, 48 ≤ x ∧ x ≤ 50 → 48 ≤ y ∧ y ≤ 50 → 48 ≤ op x y ∧ op x y ≤ 50) {m : Nat} {a b : List Int} (ha : Ef m a) (hb : Ef m b) : Ef m (List.zipWith op a b) := by
  refine ⟨fun x hx => ?_, by rw [List.length_zipWith, ha.2, hb.2]; omega⟩
  obtain ⟨i, hi, rfl⟩ := List.mem_iff_getElem.1 hx
  rw [List.getElem_zipWith]
  exact hop _ _ (ha.1.get _ _) (hb.1.get _ _)
theorem Ef.tn {m : Nat} {a b : List Int} (ha : Ef m a) (hb : Ef m b) : Ef m (thenL a b) := zip_ef (fun x y h k => by unfold th; split <;> assumption) ha hb
theorem Ef.le {m : Nat} {a b : List Int} (ha : Ef m a) (hb : Ef m b) : Ef m (leastL a b) := zip_ef (fun x y h k => by omega) ha hb
theorem Ef.mo {m : Nat} {a b : List Int} (ha : Ef m a) (hb : Ef m b) : Ef m (mostL a b) := zip_ef (fun x y h k => by omega) ha hb
theorem Ef.allc (m : Nat) {c : Int} (h0 : 48 ≤ c) (h1 : c ≤ 50) : Ef m (allL m c) := ⟨fun x hx => by have := List.eq_of_mem_replicate hx; omega, by simp [allL]⟩
theorem Ef.put {m : Nat} {a : List Int} (ha : Ef m a) (p : Int) {c : Int} (h0 : 48 ≤ c) (h1 : c ≤ 50) : Ef m (putL a p c) := ⟨put_sg ha.1 p h0 h1, by rw [put_len, ha.2]⟩


variable {m : Nat}
theorem refthen_e {a b c : List Int} (h : Hid (thenL a b = c)) (ha : Hid (Ef m a)) (hb : Hid (Ef m b)) (hm : Hid (m ≤ 1000)) (w : World) :
    Calls Try.prog 59 #[.string (st a), .string (st b)] w fun e w' => e = .returned (.string (st c)) ∧ Below w.heap.size w w' :=
  refthen_to h.out ha.out.1.asc hb.out.1.asc (by rw [ha.out.2, hb.out.2]) (by rw [ha.out.2]; exact hm.out) w
theorem refleast_e {a b c : List Int} (h : Hid (leastL a b = c)) (ha : Hid (Ef m a)) (hb : Hid (Ef m b)) (hm : Hid (m ≤ 1000)) (w : World) :
    Calls Try.prog 68 #[.string (st a), .string (st b)] w fun e w' => e = .returned (.string (st c)) ∧ Below w.heap.size w w' :=
  refleast_to h.out ha.out.1.asc hb.out.1.asc (by rw [ha.out.2, hb.out.2]) (by rw [ha.out.2]; exact hm.out) w
theorem refmost_e {a b c : List Int} (h : Hid (mostL a b = c)) (ha : Hid (Ef m a)) (hb : Hid (Ef m b)) (hm : Hid (m ≤ 1000)) (w : World) :
    Calls Try.prog 67 #[.string (st a), .string (st b)] w fun e w' => e = .returned (.string (st c)) ∧ Below w.heap.size w w' :=
  refmost_to h.out ha.out.1.asc hb.out.1.asc (by rw [ha.out.2, hb.out.2]) (by rw [ha.out.2]; exact hm.out) w
theorem refput_e {a l : List Int} {p c : Int} (h : Hid (putL a p c = l)) (ha : Hid (Ef m a)) (hc : Hid (48 ≤ c ∧ c ≤ 50)) (hm : Hid (m ≤ 1000)) (w : World) :
    Calls Try.prog 65 #[.string (st a), .int .i64 p, .int .u8 c] w fun e w' => e = .returned (.string (st l)) ∧ Below w.heap.size w w' :=
  refput_to h.out ha.out.1.asc hc.out.1 hc.out.2 (by rw [ha.out.2]; exact hm.out) w
theorem refhas_e {a : List Int} {p : Int} {b : Bool} (h : Hid (hasL a p = b)) (ha : Hid (Ef m a)) (hm : Hid (m ≤ 1000)) (w : World) :
    Calls Try.prog 40 #[.string (st a), .int .i64 p] w fun e w' => e = .returned (.bool b) ∧ Below w.heap.size w w' :=
  refhas_to h.out ha.out.1.asc (by rw [ha.out.2]; exact hm.out) w

end Go.Proofs.Ytdhklfbelplbcaa
