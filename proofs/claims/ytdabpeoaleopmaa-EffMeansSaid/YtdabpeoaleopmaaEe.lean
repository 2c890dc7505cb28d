/- The walks: the document's own All, Least, Most, Then, Put, Has. -/
import Derived.Test.YtdabpeoaleopmaaEd
import Derived.Deep.RegionHeld3
namespace Go.Proofs.Ytdabpeoaleopmaa
set_option linter.unusedVariables false
set_option linter.unusedSimpArgs false
open Go.RowKit

theorem conv_drew (w : World) (x : Int) (h0 : 0 ≤ x) (h1 : x < 256) :
    (convert 38 9 (.slice (some ⟨w.heap.size, 0, none⟩) 1 1)).run Try.prog (w.alloc (.cells #[.int .u8 x] 5)).drew = .ok (.string (st [x])) (w.alloc (.cells #[.int .u8 x] 5)).drew := conv_one w.drew x h0 h1
theorem bl_ad {w W : World} (h : Below w.heap.size w W) (o : Obj) : Below w.heap.size w (W.alloc o).drew := (bl_alloc h o).drew

set_option maxHeartbeats 2000000 in
theorem refall_to {n : Nat} {c : Int} {l : List Int} (h : allL n c = l) (hn : n ≤ 1000) (h0 : 48 ≤ c) (h1 : c ≤ 50) (w : World) :
    Calls Try.prog 13 #[.int .i64 n, .int .u8 c] w fun e w' => e = .returned (.string (st l)) ∧ Below w.heap.size w w' := by
  subst h
  have hcv := fun (w : World) => conv_one w c (by omega) (by omega)
  go_enter Try.func13, Try.ntmps13
  go_wp2_with fail
  go_loopw [5] (fun s wr => ∃ k : Nat, k ≤ n ∧ s = .string (st (allL k c)) ∧ Below w.heap.size w wr) (fun s _ => n - (match s with | .string b => b.size | _ => 0))
  case atStart => exact ⟨0, by omega, rfl, Below.refl _ _⟩
  case round =>
    obtain ⟨k, hk, rfl, hb⟩ := hrel
    have hsz : (st (allL k c)).size = k := by rw [st_size]; simp [allL]
    have hs1 : ∀ x, (st [x]).size = 1 := fun x => st_size [x]
    have hap : st (allL k c) ++ st [c] = st (allL (k + 1) c) := by rw [st_snoc]; simp [allL, List.replicate_succ']
    have hsz1 : Hid ((st (allL (k + 1) c)).size = k + 1) := Lib.hid (by rw [st_size]; simp [allL])
    by_cases hlt : k < n
    · have hd : decide (k < n) = true := by simpa using hlt
      have hd2 : decide ((k : Int) < (n : Int)) = true := by simp; omega
      go_wp2_with fail
      refine ⟨⟨k + 1, by omega, rfl, bl_alloc hb _⟩, ?_⟩
      simp only [hsz1.out]
      omega
    · have hd : decide (k < n) = false := by simpa using hlt
      have hd2 : decide ((k : Int) < (n : Int)) = false := by simp; omega
      have hkb : Hid (k = n) := Lib.hid (by omega)
      clear hk
      go_wp2_with fail
      go_ret
      exact ⟨ret_str (by rw [hkb.out]), hb⟩

set_option maxHeartbeats 2000000 in
theorem refleast_to {a b l : List Int} (h : leastL a b = l) (ha : Asc a) (hb : Asc b) (hab : a.length = b.length) (hla : a.length ≤ 1000) (w : World) :
    Calls Try.prog 17 #[.string (st a), .string (st b)] w fun e w' => e = .returned (.string (st l)) ∧ Below w.heap.size w w' := by
  subst h
  have ha' := Lib.hid ha
  have hb' := Lib.hid hb
  have hab' := Lib.hid hab
  have hsa := st_size a
  have hsb := st_size b
  clear ha hb hab
  go_enter Try.func17, Try.ntmps17
  go_wp2_with fail
  go_loopw [5, 6] (fun s i wr => ∃ k : Nat, i = .int .i64 k ∧ k ≤ a.length ∧ s = .string (st (leastL (a.take k) (b.take k))) ∧ Below w.heap.size w wr) (fun _ i _ => a.length - (intOf i).toNat)
  case atStart => exact ⟨0, rfl, by omega, rfl, Below.refl _ _⟩
  case round =>
    obtain ⟨k, rfl, hk, rfl, hbl⟩ := hrel
    have hsz : (st (leastL (a.take k) (b.take k))).size + 1 ≤ 2000 := by rw [st_size]; simp [leastL]; omega
    have hs1 : ∀ x, (st [x]).size = 1 := fun x => st_size [x]
    have hap := fun x => st_snoc (leastL (a.take k) (b.take k)) x
    by_cases hlt : k < a.length
    · have hd : decide (k < a.length) = true := by simpa using hlt
      have hlb : k < b.length := by rw [← hab'.out]; exact hlt
      have hx := ha'.out.get k hlt
      have hy := hb'.out.get k hlb
      have gx : ∀ h, (((st a)[k]'h).toNat : Int) = a[k] := fun h => st_get a ha'.out k h
      have gy : ∀ h, (((st b)[k]'h).toNat : Int) = b[k] := fun h => st_get b hb'.out k h
      have hz := Lib.hid (zip_succ min a b k hlt hlb)
      have hcv := fun (w : World) => conv_one w (min a[k] b[k]) (by omega) (by omega)
      have hcd := fun (w : World) => conv_drew w (min a[k] b[k]) (by omega) (by omega)
      go_upto_region 5 with fail
      go_region_with fail
      all_goals (go_wp2_with fail)
      all_goals
        refine ⟨⟨k + 1, by go_num, by omega, ?_, by first | exact bl_ad hbl _ | exact bl_alloc hbl.drew _⟩, by simp [intOf]; omega⟩
        show _ = Value.string (st (List.zipWith min (a.take (k + 1)) (b.take (k + 1))))
        rw [hz.out]
        rfl
    · have hd : decide (k < a.length) = false := by simpa using hlt
      have hkb : Hid (k = a.length) := Lib.hid (by omega)
      clear hk
      go_wp2_with fail
      go_ret
      refine ⟨ret_str ?_, hbl⟩
      rw [hkb.out, List.take_of_length_le (Nat.le_refl _), List.take_of_length_le (by rw [hab'.out]; exact Nat.le_refl _)]

set_option maxHeartbeats 2000000 in
theorem refmost_to {a b l : List Int} (h : mostL a b = l) (ha : Asc a) (hb : Asc b) (hab : a.length = b.length) (hla : a.length ≤ 1000) (w : World) :
    Calls Try.prog 18 #[.string (st a), .string (st b)] w fun e w' => e = .returned (.string (st l)) ∧ Below w.heap.size w w' := by
  subst h
  have ha' := Lib.hid ha
  have hb' := Lib.hid hb
  have hab' := Lib.hid hab
  have hsa := st_size a
  have hsb := st_size b
  clear ha hb hab
  go_enter Try.func18, Try.ntmps18
  go_wp2_with fail
  go_loopw [5, 6] (fun s i wr => ∃ k : Nat, i = .int .i64 k ∧ k ≤ a.length ∧ s = .string (st (mostL (a.take k) (b.take k))) ∧ Below w.heap.size w wr) (fun _ i _ => a.length - (intOf i).toNat)
  case atStart => exact ⟨0, rfl, by omega, rfl, Below.refl _ _⟩
  case round =>
    obtain ⟨k, rfl, hk, rfl, hbl⟩ := hrel
    have hsz : (st (mostL (a.take k) (b.take k))).size + 1 ≤ 2000 := by rw [st_size]; simp [mostL]; omega
    have hs1 : ∀ x, (st [x]).size = 1 := fun x => st_size [x]
    have hap := fun x => st_snoc (mostL (a.take k) (b.take k)) x
    by_cases hlt : k < a.length
    · have hd : decide (k < a.length) = true := by simpa using hlt
      have hlb : k < b.length := by rw [← hab'.out]; exact hlt
      have hx := ha'.out.get k hlt
      have hy := hb'.out.get k hlb
      have gx : ∀ h, (((st a)[k]'h).toNat : Int) = a[k] := fun h => st_get a ha'.out k h
      have gy : ∀ h, (((st b)[k]'h).toNat : Int) = b[k] := fun h => st_get b hb'.out k h
      have hz := Lib.hid (zip_succ max a b k hlt hlb)
      have hcv := fun (w : World) => conv_one w (max a[k] b[k]) (by omega) (by omega)
      have hcd := fun (w : World) => conv_drew w (max a[k] b[k]) (by omega) (by omega)
      go_upto_region 5 with fail
      go_region_with fail
      all_goals (go_wp2_with fail)
      all_goals
        refine ⟨⟨k + 1, by go_num, by omega, ?_, by first | exact bl_ad hbl _ | exact bl_alloc hbl.drew _⟩, by simp [intOf]; omega⟩
        show _ = Value.string (st (List.zipWith max (a.take (k + 1)) (b.take (k + 1))))
        rw [hz.out]
        rfl
    · have hd : decide (k < a.length) = false := by simpa using hlt
      have hkb : Hid (k = a.length) := Lib.hid (by omega)
      clear hk
      go_wp2_with fail
      go_ret
      refine ⟨ret_str ?_, hbl⟩
      rw [hkb.out, List.take_of_length_le (Nat.le_refl _), List.take_of_length_le (by rw [hab'.out]; exact Nat.le_refl _)]

set_option maxHeartbeats 2000000 in
theorem refthen_to {a b l : List Int} (h : thenL a b = l) (ha : Asc a) (hb : Asc b) (hab : a.length = b.length) (hla : a.length ≤ 1000) (w : World) :
    Calls Try.prog 25 #[.string (st a), .string (st b)] w fun e w' => e = .returned (.string (st l)) ∧ Below w.heap.size w w' := by
  subst h
  have ha' := Lib.hid ha
  have hb' := Lib.hid hb
  have hab' := Lib.hid hab
  have hsa := st_size a
  have hsb := st_size b
  clear ha hb hab
  go_enter Try.func25, Try.ntmps25
  go_wp2_with fail
  go_loopw [5, 6] (fun s i wr => ∃ k : Nat, i = .int .i64 k ∧ k ≤ a.length ∧ s = .string (st (thenL (a.take k) (b.take k))) ∧ Below w.heap.size w wr) (fun _ i _ => a.length - (intOf i).toNat)
  case atStart => exact ⟨0, rfl, by omega, rfl, Below.refl _ _⟩
  case round =>
    obtain ⟨k, rfl, hk, rfl, hbl⟩ := hrel
    have hsz : (st (thenL (a.take k) (b.take k))).size + 1 ≤ 2000 := by rw [st_size]; simp [thenL]; omega
    have hs1 : ∀ x, (st [x]).size = 1 := fun x => st_size [x]
    have hap := fun x => st_snoc (thenL (a.take k) (b.take k)) x
    by_cases hlt : k < a.length
    · have hd : decide (k < a.length) = true := by simpa using hlt
      have hlb : k < b.length := by rw [← hab'.out]; exact hlt
      have hx := ha'.out.get k hlt
      have hy := hb'.out.get k hlb
      have gx : ∀ h, (((st a)[k]'h).toNat : Int) = a[k] := fun h => st_get a ha'.out k h
      have gy : ∀ h, (((st b)[k]'h).toNat : Int) = b[k] := fun h => st_get b hb'.out k h
      have hz := Lib.hid (zip_succ th a b k hlt hlb)
      have hcx := fun (w : World) => conv_one w a[k] (by omega) (by omega)
      have hcy := fun (w : World) => conv_one w b[k] (by omega) (by omega)
      by_cases h49 : b[k] = 49
      · have hq : (b[k] == 49) = true := by simpa using h49
        have hz2 := Lib.hid (show th a[k] b[k] = a[k] by unfold th; rw [if_pos h49])
        have h49' := Lib.hid h49
        clear h49
        go_wp2_with fail
        refine ⟨⟨k + 1, by go_num, by omega, ?_, bl_alloc hbl _⟩, by simp [intOf]; omega⟩
        show _ = Value.string (st (List.zipWith th (a.take (k + 1)) (b.take (k + 1))))
        rw [hz.out, hz2.out]
        rfl
      · have hq : (b[k] == 49) = false := by simpa using h49
        have hz2 := Lib.hid (show th a[k] b[k] = b[k] by unfold th; rw [if_neg h49])
        have h49' := Lib.hid h49
        clear h49
        go_wp2_with fail
        refine ⟨⟨k + 1, by go_num, by omega, ?_, bl_alloc hbl _⟩, by simp [intOf]; omega⟩
        show _ = Value.string (st (List.zipWith th (a.take (k + 1)) (b.take (k + 1))))
        rw [hz.out, hz2.out]
        rfl
    · have hd : decide (k < a.length) = false := by simpa using hlt
      have hkb : Hid (k = a.length) := Lib.hid (by omega)
      clear hk
      go_wp2_with fail
      go_ret
      refine ⟨ret_str ?_, hbl⟩
      rw [hkb.out, List.take_of_length_le (Nat.le_refl _), List.take_of_length_le (by rw [hab'.out]; exact Nat.le_refl _)]

end Go.Proofs.Ytdabpeoaleopmaa
