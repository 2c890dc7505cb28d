/- The walks: the document's own Put, Has; known. -/
import Derived.Test.YtdabpeoaleopmaaEe
import Derived.WalkSpells
namespace Go.Proofs.Ytdabpeoaleopmaa
set_option linter.unusedVariables false
set_option linter.unusedSimpArgs false
open Go.RowKit

theorem refhas_to {a : List Int} {p : Int} {b : Bool} (h : hasL a p = b) (ha : Asc a) (hla : a.length ≤ 1000) (w : World) :
    Calls Try.prog 23 #[.string (st a), .int .i64 p] w fun e w' => e = .returned (.bool b) ∧ Below w.heap.size w w' := by
  have hsa := st_size a
  by_cases h0 : 0 ≤ p
  · obtain ⟨k, rfl⟩ : ∃ k : Nat, p = k := ⟨p.toNat, by omega⟩
    by_cases hlt : k < a.length
    · have hz : Hid ((a[k] == 50) = b) := Lib.hid (by rw [← h]; unfold hasL; simp [hlt])
      have gx : ∀ h, (((st a)[k]'h).toNat : Int) = a[k] := fun h => st_get a ha k h
      have hd : decide (k < a.length) = true := by simpa using hlt
      clear h ha h0
      go_enter Try.func23, Try.ntmps23
      go_wp2_with fail
      go_ret
      exact ⟨ret_bool hz.out, Below.refl _ _⟩
    · have hz : Hid (false = b) := Lib.hid (by rw [← h]; unfold hasL; simp [show a.length ≤ k by omega])
      have hd : decide (k < a.length) = false := by simpa using hlt
      clear h ha h0
      go_enter Try.func23, Try.ntmps23
      go_wp2_with fail
      go_ret
      exact ⟨ret_bool hz.out, Below.refl _ _⟩
  · have hz : Hid (false = b) := Lib.hid (by rw [← h]; unfold hasL; simp [h0])
    have hd : decide (p ≥ 0) = false := by simpa using h0
    have hd2 : decide (0 ≤ p) = false := by simpa using h0
    clear h ha
    go_enter Try.func23, Try.ntmps23
    go_wp2_with fail
    go_ret
    exact ⟨ret_bool hz.out, Below.refl _ _⟩

theorem put_mid (a : List Int) (k : Nat) (c : Int) (h : k < a.length) : putL a k c = a.take k ++ [c] ++ a.drop (k + 1) := by
  unfold putL
  rw [if_pos (by omega), Int.toNat_natCast, List.set_eq_take_append_cons_drop, if_pos h]
  simp
theorem put_out (a : List Int) (p c : Int) (h : ¬ (0 ≤ p ∧ p < a.length)) : putL a p c = a := by
  unfold putL
  split
  · rw [List.set_eq_of_length_le (by omega)]
  · rfl
set_option maxHeartbeats 2000000 in
theorem refput_to {a l : List Int} {p c : Int} (h : putL a p c = l) (ha : Asc a) (h0 : 48 ≤ c) (h1 : c ≤ 50) (hla : a.length ≤ 1000) (w : World) :
    Calls Try.prog 22 #[.string (st a), .int .i64 p, .int .u8 c] w fun e w' => e = .returned (.string (st l)) ∧ Below w.heap.size w w' := by
  have hsa := st_size a
  by_cases hp : 0 ≤ p
  · obtain ⟨k, rfl⟩ : ∃ k : Nat, p = k := ⟨p.toNat, by omega⟩
    by_cases hlt : k < a.length
    · have hz : Hid (a.take k ++ [c] ++ a.drop (k + 1) = l) := Lib.hid ((put_mid a k c hlt).symm.trans h)
      have e1 : (st a).extract 0 k = st (a.take k) := by rw [st_extract, List.drop_zero]
      have e2 : (st a).extract (k + 1) a.length = st (a.drop (k + 1)) := by rw [st_extract, List.take_of_length_le (Nat.le_refl _)]
      have s1 : (st (a.take k)).size = k := by rw [st_size, List.length_take]; omega
      have s2 : (st (a.drop (k + 1))).size = a.length - (k + 1) := by rw [st_size, List.length_drop]
      have s3 : ∀ x, (st [x]).size = 1 := fun x => st_size [x]
      have p1 : st (a.take k) ++ st [c] = st (a.take k ++ [c]) := st_app _ _
      have p2 : st (a.take k ++ [c]) ++ st (a.drop (k + 1)) = st l := by rw [st_app, hz.out]
      have s4 : (st (a.take k ++ [c])).size = k + 1 := by rw [st_size, List.length_append, List.length_take]; simp; omega
      have hcv := fun (w : World) => conv_one w c (by omega) (by omega)
      have hcd := fun (w : World) => conv_drew w c (by omega) (by omega)
      have hd : decide (k < a.length) = true := by simpa using hlt
      have hd2 : decide (k ≥ a.length) = false := by simpa using hlt
      have hd3 : decide (a.length ≤ k) = false := by simpa using hlt
      have hk1 : k + 1 ≤ a.length := hlt
      have hi1 : ((k : Int) + 1).toNat = k + 1 := by omega
      have hk2 : ((k : Int) + 1) ≤ (a.length : Int) := by omega
      have hk3 : (k : Int) ≤ (a.length : Int) := by omega
      have hk4 : (0 : Int) ≤ (k : Int) + 1 := by omega
      have hk5 : IntKind.i64.wrap ((k : Int) + 1) = (k : Int) + 1 := by rw [IntKind.wrap_i64]; omega
      clear h ha hp
      go_enter Try.func22, Try.ntmps22
      go_wp2_with fail
      go_region_with fail
      all_goals (go_wp2_with fail)
      all_goals go_ret
      all_goals exact ⟨rfl, by first | exact bl_ad (Below.refl _ _) _ | exact bl_alloc (Below.refl _ _).drew _⟩
    · have hz : Hid (a = l) := Lib.hid ((put_out a k c (by omega)).symm.trans h)
      have hd2 : decide (k ≥ a.length) = true := by simpa using hlt
      have hd3 : decide (a.length ≤ k) = true := by simpa using hlt
      clear h ha hp
      go_enter Try.func22, Try.ntmps22
      go_wp2_with fail
      go_ret
      exact ⟨ret_str (by rw [hz.out]), Below.refl _ _⟩
  · have hz : Hid (a = l) := Lib.hid ((put_out a p c (by omega)).symm.trans h)
    have hd2 : decide (p < 0) = true := by simpa using hp
    clear h ha
    go_enter Try.func22, Try.ntmps22
    go_wp2_with fail
    go_ret
    exact ⟨ret_str (by rw [hz.out]), Below.refl _ _⟩
/-! ### constant strings -/
def Lit8 (s : ByteArray) (l : List Int) : Prop := s = st l ∧ Asc l ∧ l.length ≤ 1000
theorem then_lit {s t u : ByteArray} (a b : List Int) (hs : Lit8 s a) (ht : Lit8 t b) (hu : u = st (thenL a b)) (w : World) :
    Calls Try.prog 14 #[.string s, .string t] w fun e w' => e = .returned (.string u) ∧ Below w.heap.size w w' := by
  obtain ⟨rfl, h1, h2⟩ := hs
  obtain ⟨rfl, h3, h4⟩ := ht
  subst hu
  exact then_to rfl h1 h3 h2 h4 w
theorem least_lit {s t u : ByteArray} (a b : List Int) (hs : Lit8 s a) (ht : Lit8 t b) (hu : u = st (leastL a b)) (w : World) :
    Calls Try.prog 15 #[.string s, .string t] w fun e w' => e = .returned (.string u) ∧ Below w.heap.size w w' := by
  obtain ⟨rfl, h1, h2⟩ := hs
  obtain ⟨rfl, h3, h4⟩ := ht
  subst hu
  exact least_to rfl h1 h3 h2 h4 w
theorem most_lit {s t u : ByteArray} (a b : List Int) (hs : Lit8 s a) (ht : Lit8 t b) (hu : u = st (mostL a b)) (w : World) :
    Calls Try.prog 16 #[.string s, .string t] w fun e w' => e = .returned (.string u) ∧ Below w.heap.size w w' := by
  obtain ⟨rfl, h1, h2⟩ := hs
  obtain ⟨rfl, h3, h4⟩ := ht
  subst hu
  exact most_to rfl h1 h3 h2 h4 w
theorem all_lit {u : ByteArray} {n : Nat} {c : Int} (hu : u = st (allL n c)) (hn : n ≤ 20) (h0 : 48 ≤ c) (h1 : c ≤ 50) (w : World) :
    Calls Try.prog 24 #[.int .i64 n, .int .u8 c] w fun e w' => e = .returned (.string u) ∧ Below w.heap.size w w' := by
  subst hu
  exact all_to rfl hn h0 h1 w
theorem put_lit {s u : ByteArray} (a : List Int) {p c : Int} (hs : s = st a ∧ Sg a ∧ a.length ≤ 1000) (hu : u = st (putL a p c)) (h0 : 48 ≤ c) (h1 : c ≤ 50) (w : World) :
    Calls Try.prog 21 #[.string s, .int .i64 p, .int .u8 c] w fun e w' => e = .returned (.string u) ∧ Below w.heap.size w w' := by
  obtain ⟨rfl, h2, h3⟩ := hs
  subst hu
  exact put_to rfl h2 h3 h0 h1 w
theorem has_lit {s : ByteArray} {b : Bool} (a : List Int) {p : Int} (hs : Lit8 s a) (hb : hasL a p = b) (w : World) :
    Calls Try.prog 20 #[.string s, .int .i64 p] w fun e w' => e = .returned (.bool b) ∧ Below w.heap.size w w' := by
  obtain ⟨rfl, h2, h3⟩ := hs
  exact has_to hb h2 w
instance (l : List Int) : Decidable (Asc l) := by unfold Asc; infer_instance
instance (l : List Int) : Decidable (Sg l) := by unfold Sg; infer_instance

theorem known_any (w : World) : Calls Try.prog 10 #[] w fun e w' => e = .returned (.bool true) ∧ Below w.heap.size w w' := by
  have h1 := fun w => then_lit (s := ⟨#[50]⟩) (t := ⟨#[49]⟩) (u := ⟨#[50]⟩) [50] [49] ⟨rfl, by decide, by decide⟩ ⟨rfl, by decide, by decide⟩ rfl w
  have h2 := fun w => all_lit (u := ⟨#[49, 49, 49]⟩) (n := 3) (c := 49) rfl (by decide) (by decide) (by decide) w
  go_enter Try.func10, Try.ntmps10
  go_wp2_with (first
    | (go_at_call 14; refine (h1 _).mono ?_; rintro e w1 ⟨rfl, hb1⟩; have hb1' := Lib.hid hb1; clear hb1)
    | (go_at_call 24; refine (h2 _).mono ?_; rintro e w2 ⟨rfl, hb2⟩; have hb2' := Lib.hid hb2; clear hb2))
  go_ret
  exact ⟨rfl, bl_then hb1'.out hb1'.out.size hb2'.out⟩
end Go.Proofs.Ytdabpeoaleopmaa
