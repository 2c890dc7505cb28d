/- The walks: All, Put, Has; the document's own. -/
import Derived.Test.YtdabpeoaleopmaaEc
import Derived.Test.YtdabpeoaleopmaaSh
namespace Go.Proofs.Ytdabpeoaleopmaa
set_option linter.unusedVariables false
set_option linter.unusedSimpArgs false
open Go.RowKit

theorem may_yes (c : Int) (h0 : 48 ≤ c) (h1 : c ≤ 50) (w : World) : Calls Try.prog 30 #[.int .i32 c] w fun e w' => e = .returned (.bool true) ∧ w = w' := by
  have d1 : decide (c ≥ 48) = true := by simpa using h0
  have d2 : decide (c ≤ 50) = true := by simpa using h1
  go_enter Try.func30, Try.ntmps30
  go_wp2
  go_ret
  exact ⟨rfl, rfl⟩

theorem rep_one (c : Int) (n : Nat) : Lib.repeatL (st [c]).data.toList n = (allL n c).map fun x => UInt8.ofNat x.toNat := by
  rw [st_data]
  simp only [allL, List.map_replicate, List.map_cons, List.map_nil]
  induction n with
  | zero => rfl
  | succ n ih => rw [Lib.repeatL, ih]; rfl
theorem all_to {n : Nat} {c : Int} {l : List Int} (h : allL n c = l) (hn : n ≤ 20) (h0 : 48 ≤ c) (h1 : c ≤ 50) (w : World) :
    Calls Try.prog 24 #[.int .i64 n, .int .u8 c] w fun e w' => e = .returned (.string (st l)) ∧ Below w.heap.size w w' := by
  subst h
  have hen := enc_st c (by omega) (by omega)
  have hre := fun w => Try.strings_Repeat (st [c]) n w (by omega) (by rw [st_size]; simp; omega)
  rw [rep_one] at hre
  have d1 : decide ((n : Int) < 0) = false := by simp
  have d2 : decide ((n : Int) > 20) = false := by simp; omega
  have hw : IntKind.i32.wrap c = c := by rw [IntKind.wrap_i32]; omega
  go_enter Try.func24, Try.ntmps24
  go_wp2_with (first
    | (go_at_call 30; refine (may_yes c h0 h1 _).mono ?_; rintro e w' ⟨rfl, rfl⟩)
    | (go_at_call 31; refine (hre _).mono ?_; rintro e w1 ⟨rfl, hb1⟩))
  go_ret
  exact ⟨rfl, hb1⟩
/-! ### Put, Has -/
theorem put_len (a : List Int) (p c : Int) : (putL a p c).length = a.length := by unfold putL; split <;> simp
theorem put_sg {a : List Int} (h : Sg a) (p : Int) {c : Int} (h0 : 48 ≤ c) (h1 : c ≤ 50) : Sg (putL a p c) := by
  intro x hx
  unfold putL at hx
  split at hx
  · rcases List.mem_or_eq_of_mem_set hx with h' | h'
    · exact h x h'
    · omega
  · exact h x hx
theorem put_get (a : List Int) (p c : Int) (k : Nat) (hk : k < a.length) : (putL a p c)[k]'(by rw [put_len]; exact hk) = if (k : Int) = p then c else a[k] := by
  unfold putL
  by_cases h : 0 ≤ p
  · simp only [if_pos h, List.getElem_set]
    by_cases e : (k : Int) = p
    · rw [if_pos e, if_pos (by omega)]
    · rw [if_neg e, if_neg (by omega)]
  · simp only [if_neg h]
    exact (if_neg (by omega)).symm
theorem put_succ (a : List Int) (p c : Int) (k : Nat) (hk : k < a.length) : (putL a p c).take (k + 1) = (putL a p c).take k ++ [if (k : Int) = p then c else a[k]] := by
  rw [List.take_succ_eq_append_getElem (by rw [put_len]; exact hk), put_get a p c k hk]

/-- the round of a range over a string of letters -/
theorem next_yes (a : List Int) (ha : Asc a) (k : Nat) (hk : k < a.length) (w : World) (ty : TypeId) :
    (Instr.next (.pointer (some ⟨w.heap.size, 0, none⟩)) true ty).run Try.prog (w.iter (st a) k) = .ok (.tuple #[.bool true, .int .i64 k, .int .i32 a[k]]) (w.iter (st a) (k + 1)) := by
  have h := run_next_any (P := Try.prog) w (st a) k ty (by rw [st_size]; exact hk)
  rw [decode_st a ha k hk] at h
  have := ha.get k hk
  rw [h]
  have e : ((a[k].toNat : Nat) : Int) = a[k] := by omega
  simp only [e]
theorem next_no (a : List Int) (k : Nat) (hk : ¬ k < a.length) (w : World) (ty : TypeId) :
    (Instr.next (.pointer (some ⟨w.heap.size, 0, none⟩)) true ty).run Try.prog (w.iter (st a) k) = .ok (.tuple #[.bool false]) (w.iter (st a) k) :=
  run_next_end w (st a) k ty (by rw [st_size]; exact hk)
theorem iter_below (w : World) (s : ByteArray) (k : Nat) : Below w.heap.size w (w.iter s k) := bl_alloc (Below.refl _ _) _

set_option maxHeartbeats 2000000 in
theorem put_to {a l : List Int} {p c : Int} (h : putL a p c = l) (ha : Sg a) (hla : a.length ≤ 1000) (h0 : 48 ≤ c) (h1 : c ≤ 50) (w : World) :
    Calls Try.prog 21 #[.string (st a), .int .i64 p, .int .u8 c] w fun e w' => e = .returned (.string (st l)) ∧ Below w.heap.size w w' := by
  have hl : Hid (putL a p c = l) := Lib.hid h
  have hll : Hid (l.length = a.length) := Lib.hid (by rw [← h, put_len])
  have hst : Hid (∀ k, ∀ hk : k < a.length, l.take (k + 1) = l.take k ++ [if (k : Int) = p then c else a[k]]) := Lib.hid (by intro k hk; rw [← h]; exact put_succ a p c k hk)
  clear h
  have ha' := Lib.hid ha
  clear ha
  go_enter Try.func21, Try.ntmps21
  go_wp2_with fail
  go_loopw [7] (fun s wr => ∃ k : Nat, k ≤ a.length ∧ wr = w.iter (st a) k ∧ s = .string (st (l.take k))) (fun _ wr => a.length - wr.iterPos w.heap.size)
  case atStart => exact ⟨0, by omega, rfl, rfl⟩
  case round =>
    obtain ⟨k, hk, rfl, rfl⟩ := hrel
    by_cases hlt : k < a.length
    · have hnx := fun ty => next_yes a ha'.out.asc k hlt w ty
      have hx := ha'.out.get k hlt
      have hz := Lib.hid (hst.out k hlt)
      have hsz : (st (l.take k)).size + 1 ≤ 2000 := by rw [st_size, List.length_take]; omega
      have hs1 : ∀ x, (st [x]).size = 1 := fun x => st_size [x]
      have hap := fun x => st_snoc (l.take k) x
      have hit : (w.iter (st a) (k + 1)).iterPos w.heap.size = k + 1 := World.iterPos_iter w (st a) (k + 1)
      have hit0 : (w.iter (st a) k).iterPos w.heap.size = k := World.iterPos_iter w (st a) k
      by_cases hkp : (k : Int) = p
      · have hz2 : Hid (l.take (k + 1) = l.take k ++ [c]) := Lib.hid (by rw [hz.out, if_pos hkp])
        subst hkp
        have hen := enc_st c (by omega) (by omega)
        have hw : IntKind.i32.wrap c = c := by rw [IntKind.wrap_i32]; omega
        go_wp2_with (go_at_call 30; refine (may_yes c h0 h1 _).mono ?_; rintro e w' ⟨rfl, rfl⟩)
        refine ⟨⟨k + 1, by omega, rfl, ?_⟩, by omega⟩
        rw [hz2.out]
      · have hz2 : Hid (l.take (k + 1) = l.take k ++ [a[k]]) := Lib.hid (by rw [hz.out, if_neg hkp])
        have hq : ((k : Int) == p) = false := by simpa using hkp
        have hen := enc_st a[k] (by omega) (by omega)
        have hkp' := Lib.hid hkp
        clear hkp
        go_wp2_with fail
        refine ⟨⟨k + 1, by omega, rfl, ?_⟩, by omega⟩
        rw [hz2.out]
    · have hnx := fun ty => next_no a k hlt w ty
      have hkb : Hid (k = a.length) := Lib.hid (by omega)
      clear hk
      go_wp2_with fail
      go_ret
      refine ⟨ret_str ?_, iter_below _ _ _⟩
      rw [hkb.out, ← hll.out, List.take_of_length_le (Nat.le_refl _)]

theorem has_no {a : List Int} {p : Int} {k : Nat} (hlt : ¬ k < a.length) (h : ∀ i : Nat, i < k → (i : Int) ≠ p) : hasL a p = false := by
  unfold hasL
  by_cases h0 : 0 ≤ p
  · have : ¬ p.toNat < a.length := fun h1 => h p.toNat (by omega) (by omega)
    rw [List.getElem?_eq_none (by omega)]; simp
  · simp [h0]
set_option maxHeartbeats 2000000 in
theorem has_to {a : List Int} {p : Int} {b : Bool} (h : hasL a p = b) (ha : Asc a) (w : World) :
    Calls Try.prog 20 #[.string (st a), .int .i64 p] w fun e w' => e = .returned (.bool b) ∧ Below w.heap.size w w' := by
  have hb : Hid (hasL a p = b) := Lib.hid h
  clear h
  have ha' := Lib.hid ha
  clear ha
  go_enter Try.func20, Try.ntmps20
  go_wp2_with fail
  go_loopw [4] (fun s wr => ∃ k : Nat, k ≤ a.length ∧ wr = w.iter (st a) k ∧ s = .bool false ∧ Hid (∀ i : Nat, i < k → (i : Int) ≠ p)) (fun _ wr => a.length - wr.iterPos w.heap.size)
  case atStart => exact ⟨0, by omega, rfl, rfl, Lib.hid (fun i hi => by omega)⟩
  case round =>
    obtain ⟨k, hk, rfl, rfl, hno⟩ := hrel
    by_cases hlt : k < a.length
    · have hnx := fun ty => next_yes a ha'.out k hlt w ty
      have hit : (w.iter (st a) (k + 1)).iterPos w.heap.size = k + 1 := World.iterPos_iter w (st a) (k + 1)
      have hit0 : (w.iter (st a) k).iterPos w.heap.size = k := World.iterPos_iter w (st a) k
      by_cases hkp : (k : Int) = p
      · have hz : Hid (decide (a[k] = 50) = b) := Lib.hid (by
          rw [← hb.out]
          unfold hasL
          subst hkp
          simp [hlt]
          by_cases e : a[k] = 50 <;> simp [e])
        subst hkp
        go_wp2_with fail
        go_ret
        refine ⟨ret_bool ?_, iter_below _ _ _⟩
        rw [← hz.out]
        by_cases e : a[k] = 50 <;> simp [e]
      · have hq : ((k : Int) == p) = false := by simpa using hkp
        have hno' : Hid (∀ i : Nat, i < k + 1 → (i : Int) ≠ p) := Lib.hid (by
          intro i hi e
          by_cases hik : i = k
          · subst hik; exact hkp e
          · exact hno.out i (by omega) e)
        have hkp' := Lib.hid hkp
        clear hkp
        go_wp2_with fail
        exact ⟨⟨k + 1, by omega, rfl, rfl, hno'⟩, by omega⟩
    · have hnx := fun ty => next_no a k hlt w ty
      have hz := Lib.hid ((has_no hlt hno.out).symm.trans hb.out)
      go_wp2_with fail
      go_ret
      exact ⟨ret_bool hz.out, iter_below _ _ _⟩
end Go.Proofs.Ytdabpeoaleopmaa
