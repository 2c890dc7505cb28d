/- The walks: both, Then, Least, Most. -/
import Derived.Test.YtdabpeoaleopmaaEb
namespace Go.Proofs.Ytdabpeoaleopmaa
set_option linter.unusedVariables false
set_option linter.unusedSimpArgs false
open Go.RowKit

/-- []rune(s): a row of the call's own -/
theorem run_runes (l : List Int) (ha : Asc l) (hl : l.length ≤ 1000) (w : World) :
    ∃ cap w', (convert 9 43 (.string (st l))).run Try.prog w = .ok (.slice (some ⟨w.heap.size, 0, none⟩) l.length cap) w' ∧ l.length ≤ cap ∧ cap ≤ 9223372036854775807 ∧
      Rd w' (some ⟨w.heap.size, 0, none⟩) (enc (Value.int .i32) l) ∧ Below w.heap.size w w' ∧ w'.heap.size = w.heap.size + 1 := by
  have hr := run_runes_of_string (P := Try.prog) w 9 43 21 (st l) Try.underlying9 Try.underlying43 Try.underlying21 (by rw [runes_st l ha]; simp; omega)
  rw [runes_st l ha] at hr
  have hsz : ((l.map (Value.int .i32)).toArray).size = l.length := by simp
  have hge := grownCap_ge w l.length 0 21
  have hle := grownCap_le_maxLen w l.length 0 21 (by unfold maxLen; omega)
  rw [hsz] at hr
  refine ⟨_, _, hr, hge, by unfold maxLen at hle; omega, ?_, bl_alloc (Below.refl _ _).drew _, by simp⟩
  intro i hi
  have hi' : i < l.length := by simpa [enc] using hi
  refine ⟨_, rfl, ?_⟩
  rw [add_plain]
  refine (cell_of_row _ w.drew.heap.size i _ 21 (0, 0) (heap_alloc_new w.drew _)).trans ?_
  simp [enc, hi', Array.getElem?_append]

/-- what is handed over to both -/
def OpFn (f : Nat) (op : Int → Int → Int) : Prop := (∀ args w, (callFunc f args).run Try.prog w = .ok (.enter f args) w) ∧
  (∀ x y w, Calls Try.prog f #[.int .i32 x, .int .i32 y] w fun e w' => e = .returned (.int .i32 (op x y)) ∧ w = w')

theorem zip_succ (op : Int → Int → Int) (a b : List Int) (k : Nat) (h1 : k < a.length) (h2 : k < b.length) :
    List.zipWith op (a.take (k + 1)) (b.take (k + 1)) = List.zipWith op (a.take k) (b.take k) ++ [op a[k] b[k]] := by
  rw [List.take_succ_eq_append_getElem h1, List.take_succ_eq_append_getElem h2, List.zipWith_append (by simp; omega)]
  rfl
theorem zip_stay (op : Int → Int → Int) (a b : List Int) (k : Nat) (h1 : ¬ k < a.length) :
    List.zipWith op (a.take (k + 1)) (b.take (k + 1)) = List.zipWith op (a.take k) (b.take k) := by
  apply List.ext_getElem
  · simp; omega
  · intro i h1 h2
    simp

theorem th_fn : OpFn 27 th := by
  refine ⟨enters_of Try.func27 (by kernel_rfl) rfl, fun x y w => ?_⟩
  by_cases h : y = 49
  · subst h
    go_enter Try.func27, Try.ntmps27
    go_wp2
    go_ret
    exact ⟨ret_int (by simp [th]), rfl⟩
  · have hq : (y == 49) = false := by simpa using h
    have he := Lib.hid h
    clear h
    go_enter Try.func27, Try.ntmps27
    go_wp2
    go_ret
    exact ⟨ret_int (by simp [th, he.out]), rfl⟩
theorem min_fn : OpFn 28 min := by
  refine ⟨enters_of Try.func28 (by kernel_rfl) rfl, fun x y w => ?_⟩
  go_enter Try.func28, Try.ntmps28
  go_wp2
  all_goals go_ret
  all_goals exact ⟨ret_int (by omega), rfl⟩
theorem max_fn : OpFn 29 max := by
  refine ⟨enters_of Try.func29 (by kernel_rfl) rfl, fun x y w => ?_⟩
  go_enter Try.func29, Try.ntmps29
  go_wp2
  all_goals go_ret
  all_goals exact ⟨ret_int (by omega), rfl⟩

def LT (x : Int) : Prop := 0 ≤ x ∧ x < 128
set_option maxHeartbeats 4000000 in
theorem both_any (f : Nat) (op : Int → Int → Int) (hf : OpFn f op) (hop : ∀ x y, LT x → LT y → LT (op x y)) (a b : List Int) (ha : Asc a) (hb : Asc b) (hla : a.length ≤ 1000) (hlb : b.length ≤ 1000) (w : World) :
    Calls Try.prog 26 #[.string (st a), .string (st b), .func (.func f) #[] #[]] w fun e w' => e = .returned (.string (st (List.zipWith op a b))) ∧ Below w.heap.size w w' := by
  obtain ⟨eg, hc⟩ := hf
  obtain ⟨cap1, w1, hr1, hn1, hc1, hrd1, hb1, hz1⟩ := run_runes a ha hla w
  obtain ⟨cap2, w2, hr2, hn2, hc2, hrd2, hb2, hz2⟩ := run_runes b hb hlb w1
  have hrd1' := Lib.hid (hrd1.below hb2)
  have hrd2' := Lib.hid hrd2
  have hbw := Lib.hid (bl_then hb1 hb1.size hb2)
  have ha' := Lib.hid ha
  have hb' := Lib.hid hb
  have hop' := Lib.hid hop
  clear hrd1 hrd2 hz1 hz2 hb1 hb2 ha hb hop
  go_enter Try.func26, Try.ntmps26
  go_wp2_with fail
  go_loopw [7, 16] (fun s i wr => ∃ k : Nat, i = .int .i64 k ∧ k ≤ b.length ∧ s = .string (st (List.zipWith op (a.take k) (b.take k))) ∧ w2 = wr) (fun _ i _ => b.length - (intOf i).toNat)
  case atStart => exact ⟨0, rfl, by omega, by simp [st], rfl⟩
  case round =>
    obtain ⟨k, rfl, hk, rfl, rfl⟩ := hrel
    have hsz : (st (List.zipWith op (a.take k) (b.take k))).size + 1 ≤ 2000 := by rw [st_size]; simp; omega
    have hs1 : ∀ x, (st [x]).size = 1 := fun x => st_size [x]
    have hap := fun x => st_snoc (List.zipWith op (a.take k) (b.take k)) x
    by_cases hlt : k < b.length
    · have hd : decide (k < b.length) = true := by simpa using hlt
      obtain ⟨ad, y, hae, hy, hye⟩ := hrd2'.out.at k hlt
      cases hae
      rw [add_plain] at hy
      by_cases hla' : k < a.length
      · have hd2 : decide (k < a.length) = true := by simpa using hla'
        obtain ⟨ad, x, hae, hx, hxe⟩ := hrd1'.out.at k hla'
        cases hae
        rw [add_plain] at hx
        have hz := Lib.hid (zip_succ op a b k hla' hlt)
        have hL := hop'.out x y (by rw [hxe]; exact ha'.out.get k hla') (by rw [hye]; exact hb'.out.get k hlt)
        have hxe' := Lib.hid hxe
        have hye' := Lib.hid hye
        clear hxe hye
        have hen := enc_st (op x y) hL.1 hL.2
        clear hL
        go_wp2_with (go_at_fn f; refine (hc x y _).mono ?_; rintro e w' ⟨rfl, rfl⟩)
        refine ⟨⟨k + 1, by go_num, by omega, ?_, trivial⟩, by simp [intOf]; omega⟩
        rw [hz.out, hxe'.out, hye'.out]
      · have hd2 : decide (k < a.length) = false := by simpa using hla'
        have hz := Lib.hid (zip_stay op a b k hla')
        have hye' := Lib.hid hye
        clear hye
        go_wp2_with fail
        refine ⟨⟨k + 1, by go_num, by omega, ?_, trivial⟩, by simp [intOf]; omega⟩
        rw [hz.out]
    · have hd : decide (k < b.length) = false := by simpa using hlt
      have hkb : Hid (k = b.length) := Lib.hid (by omega)
      clear hk
      go_wp2_with fail
      go_ret
      refine ⟨ret_str ?_, hbw.out⟩
      rw [hkb.out, List.take_of_length_le (Nat.le_refl _)]
      congr 1
      apply List.ext_getElem
      · simp; omega
      · intro i h1 h2
        simp
theorem th_lt (x y : Int) (h : LT x) (k : LT y) : LT (th x y) := by unfold th; split <;> assumption
theorem min_lt (x y : Int) (h : LT x) (k : LT y) : LT (min x y) := by unfold LT at *; omega
theorem max_lt (x y : Int) (h : LT x) (k : LT y) : LT (max x y) := by unfold LT at *; omega

/-- Then, to a list that is known -/
theorem then_to {a b c : List Int} (h : thenL a b = c) (ha : Asc a) (hb : Asc b) (hla : a.length ≤ 1000) (hlb : b.length ≤ 1000) (w : World) :
    Calls Try.prog 14 #[.string (st a), .string (st b)] w fun e w' => e = .returned (.string (st c)) ∧ Below w.heap.size w w' := by
  subst h
  have hc := fun w => both_any 27 th th_fn th_lt a b ha hb hla hlb w
  clear ha hb hla hlb
  go_enter Try.func14, Try.ntmps14
  go_wp2_with (go_at_call 26; refine (hc _).mono ?_; rintro e w1 ⟨rfl, hb1⟩)
  go_ret
  exact ⟨rfl, hb1⟩
theorem least_to {a b c : List Int} (h : leastL a b = c) (ha : Asc a) (hb : Asc b) (hla : a.length ≤ 1000) (hlb : b.length ≤ 1000) (w : World) :
    Calls Try.prog 15 #[.string (st a), .string (st b)] w fun e w' => e = .returned (.string (st c)) ∧ Below w.heap.size w w' := by
  subst h
  have hc := fun w => both_any 28 min min_fn min_lt a b ha hb hla hlb w
  clear ha hb hla hlb
  go_enter Try.func15, Try.ntmps15
  go_wp2_with (go_at_call 26; refine (hc _).mono ?_; rintro e w1 ⟨rfl, hb1⟩)
  go_ret
  exact ⟨rfl, hb1⟩
theorem most_to {a b c : List Int} (h : mostL a b = c) (ha : Asc a) (hb : Asc b) (hla : a.length ≤ 1000) (hlb : b.length ≤ 1000) (w : World) :
    Calls Try.prog 16 #[.string (st a), .string (st b)] w fun e w' => e = .returned (.string (st c)) ∧ Below w.heap.size w w' := by
  subst h
  have hc := fun w => both_any 29 max max_fn max_lt a b ha hb hla hlb w
  clear ha hb hla hlb
  go_enter Try.func16, Try.ntmps16
  go_wp2_with (go_at_call 26; refine (hc _).mono ?_; rintro e w1 ⟨rfl, hb1⟩)
  go_ret
  exact ⟨rfl, hb1⟩
end Go.Proofs.Ytdabpeoaleopmaa
