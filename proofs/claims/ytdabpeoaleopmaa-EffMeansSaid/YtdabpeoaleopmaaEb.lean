/- The walks: within, Make, both, Then, Least, Most. -/
import Derived.Test.YtdabpeoaleopmaaEa
import Derived.Test.YtdabpeoaleopmaaProg
import Derived.StillTailTactics
import Derived.Sort.AtCall
import Derived.Shelf.Abstract
namespace Go.Proofs.Ytdabpeoaleopmaa
set_option linter.unusedVariables false
set_option linter.unusedSimpArgs false
open Go.RowKit

theorem ret_str {a b : ByteArray} (h : a = b) : Ending.returned (.string a) = .returned (.string b) := by rw [h]
theorem tmod_bd (a n : Int) (h : 1 ≤ n) : -n < a.tmod n ∧ a.tmod n < n := by
  have h1 := Int.tmod_lt_of_pos a (show 0 < n by omega)
  have h2 := Int.lt_tmod_of_pos a (show 0 < n by omega)
  exact ⟨h2, h1⟩
theorem tmod_mod (a n : Int) (h : 1 ≤ n) : (if a.tmod n < 0 then a.tmod n + n else a.tmod n) = a % n := by
  have h1 := Int.emod_nonneg a (show n ≠ 0 by omega)
  have h2 := Int.emod_lt_of_pos a (show 0 < n by omega)
  rw [Int.tmod_eq_emod]
  have e : (n.natAbs : Int) = n := by omega
  by_cases g : 0 ≤ a ∨ n ∣ a
  · simp only [if_pos g]; split <;> omega
  · simp only [if_neg g]; split <;> omega

set_option maxHeartbeats 1000000 in
theorem within_any (a n : Int) (w : World) (h : 1 ≤ n) (h2 : n ≤ 9223372036854775807) :
    Calls Try.prog 11 #[.int .i64 a, .int .i64 n] w fun e w' => e = .returned (.int .i64 (a % n)) ∧ w = w' := by
  have hb := tmod_bd a n h
  have hm := Lib.hid (tmod_mod a n h)
  have hn : (n == 0) = false := by simp; omega
  go_enter Try.func11, Try.ntmps11
  go_wp2
  all_goals go_ret
  · have g : a.tmod n < 0 := by assumption
    exact ⟨ret_int (by rw [← hm.out, if_pos g]), rfl⟩
  · have g : 0 ≤ a.tmod n := by assumption
    exact ⟨ret_int (by rw [← hm.out, if_neg (by omega)]), rfl⟩

/-- string(b) of one byte that was just laid -/
theorem conv_one (w : World) (x : Int) (h0 : 0 ≤ x) (h1 : x < 256) :
    (convert 38 9 (.slice (some ⟨w.heap.size, 0, none⟩) 1 1)).run Try.prog (w.alloc (.cells #[.int .u8 x] 5)) = .ok (.string (st [x])) (w.alloc (.cells #[.int .u8 x] 5)) := by
  have := run_convert_bytes_back (P := Try.prog) (w.alloc (.cells #[.int .u8 x] 5)) 38 9 5 ⟨w.heap.size, 0, none⟩ 1 [UInt8.ofNat x.toNat] Try.underlying38 Try.underlying5 Try.underlying9 (by
    intro j hj
    have hj0 : j = 0 := by simpa using hj
    subst hj0
    have := cell_of_row (w.alloc (.cells #[.int .u8 x] 5)) w.heap.size 0 #[.int .u8 x] 5 (0, 0) (heap_alloc_new w _)
    rw [add_plain, this]
    simp
    omega)
  exact this

theorem info5 : (Try.prog.info? 5).map (fun i => (i.zero, i.size, i.bytes)) = some (some (.int .u8 0), 1, 1) := by kernel_rfl
/-- one more letter -/
theorem st_snoc (l : List Int) (x : Int) : st l ++ st [x] = st (l ++ [x]) := st_app l [x]

set_option maxHeartbeats 2000000 in
theorem make_any (n : Int) (A : Option Addr) (c : Nat) (ns : List Int) (w : World) (h0 : 0 ≤ n) (h1 : n ≤ 1000) (hr : Rd w A (enc (Value.int .i64) ns)) (hn : ns.length ≤ c) (hc : c ≤ 9223372036854775807) :
    Calls Try.prog 12 #[.int .i64 n, .slice A ns.length c] w fun e w' => e = .returned (.string (st (makeL n.toNat ns))) ∧ Below w.heap.size w w' := by
  obtain ⟨m, rfl⟩ : ∃ m : Nat, n = m := ⟨n.toNat, by omega⟩
  have hr' := Lib.hid hr
  clear hr h0
  go_enter Try.func12, Try.ntmps12
  go_wp2
  go_loopw [5, 6] (fun s i wr => ∃ k : Nat, i = .int .i64 k ∧ k ≤ m ∧ s = .string (st (makeL k ns)) ∧ Below w.heap.size w wr) (fun _ i _ => m - (intOf i).toNat)
  case atStart => exact ⟨0, rfl, by omega, rfl, Below.refl _ _⟩
  case round =>
    obtain ⟨k, rfl, hk, rfl, hb⟩ := hrel
    by_cases hlt : k < m
    · have hd : decide (k < m) = true := by simpa using hlt
      have hd2 : decide ((k : Int) < (m : Int)) = true := by simp; omega
      have hsz : (st (makeL k ns)).size + 1 ≤ 2000 := by rw [st_size, make_len]; omega
      have hs1 : ∀ x, (st [x]).size = 1 := fun x => st_size [x]
      have hap := fun x => st_snoc (makeL k ns) x
      have hmk := Lib.hid (make_succ k ns)
      by_cases hin : k < ns.length
      · have hd3 : decide (k < ns.length) = true := by simpa using hin
        obtain ⟨ad, x, rfl, hx, hxe⟩ := (hr'.out.below hb).at k hin
        have m1 := Int.emod_nonneg x (show (3 : Int) ≠ 0 by omega)
        have m2 := Int.emod_lt_of_pos x (show (0 : Int) < 3 by omega)
        have hxe' := Lib.hid (show ns[k]?.getD (k : Int) = x by rw [hxe]; simp [hin])
        clear hxe
        have hcv := fun (w : World) => conv_one w (48 + x % 3) (by omega) (by omega)
        go_wp2_with (go_at_call 11; refine (within_any x 3 _ (by decide) (by decide)).mono ?_; rintro e w' ⟨rfl, rfl⟩)
        refine ⟨⟨k + 1, by go_num, by omega, ?_, bl_alloc hb _⟩, by simp [intOf]; omega⟩
        rw [hmk.out, hxe'.out]
      · have hd3 : decide (k < ns.length) = false := by simpa using hin
        have m1 := Int.emod_nonneg (k : Int) (show (3 : Int) ≠ 0 by omega)
        have m2 := Int.emod_lt_of_pos (k : Int) (show (0 : Int) < 3 by omega)
        have hxe' := Lib.hid (show ns[k]?.getD (k : Int) = k by simp [hin])
        have hcv := fun (w : World) => conv_one w (48 + (k : Int) % 3) (by omega) (by omega)
        go_wp2_with (go_at_call 11; refine (within_any k 3 _ (by decide) (by decide)).mono ?_; rintro e w' ⟨rfl, rfl⟩)
        refine ⟨⟨k + 1, by go_num, by omega, ?_, bl_alloc hb _⟩, by simp [intOf]; omega⟩
        rw [hmk.out, hxe'.out]
    · have hd : decide (k < m) = false := by simpa using hlt
      have hd2 : decide ((k : Int) < (m : Int)) = false := by simp; omega
      go_wp2
      go_ret
      exact ⟨ret_str (by congr 2; omega), hb⟩
end Go.Proofs.Ytdabpeoaleopmaa
