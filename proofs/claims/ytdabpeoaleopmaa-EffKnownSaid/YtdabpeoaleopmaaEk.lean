/- The walk of EffKnown. -/
import Derived.Test.YtdabpeoaleopmaaEg
namespace Go.Proofs.Ytdabpeoaleopmaa
set_option linter.unusedVariables false
set_option linter.unusedSimpArgs false
open Go.RowKit

theorem seven (w : World) (q : Nat) (hq : q < 7) : (w.alloc (.cells #[.bool true, .bool true, .bool true, .bool true, .bool true, .bool true, .bool true] 4)).cell? ⟨w.heap.size, q, none⟩ = some (.bool true) := by
  rw [cell_of_row _ w.heap.size q _ 4 (0, 0) (heap_alloc_new w _)]
  match q, hq with
  | 0, _ => rfl
  | 1, _ => rfl
  | 2, _ => rfl
  | 3, _ => rfl
  | 4, _ => rfl
  | 5, _ => rfl
  | 6, _ => rfl

set_option maxHeartbeats 8000000 in
set_option maxRecDepth 100000 in
theorem known_walk (w : World) (which : Int) (h0 : (Lit.int .i64 which).wf = true) : Calls Try.prog 9 #[.int .i64 which] w fun e w' => e = .returned (.bool true) ∧ Below w.heap.size w w' := by
  clear h0
  obtain ⟨q, hq, hqe⟩ : ∃ q : Nat, q < 7 ∧ which % 7 = (q : Int) := ⟨(which % 7).toNat, by omega, by omega⟩
  replace hqe := Lib.hid hqe
  have hcell := fun w => seven w q hq
  have k0 := fun w => Lib.hid (then_lit (s := (⟨#[48, 49, 50, 48, 49, 50, 48, 49, 50]⟩ : ByteArray)) (t := (⟨#[48, 48, 48, 49, 49, 49, 50, 50, 50]⟩ : ByteArray)) (u := (⟨#[48, 48, 48, 48, 49, 50, 50, 50, 50]⟩ : ByteArray)) [48, 49, 50, 48, 49, 50, 48, 49, 50] [48, 48, 48, 49, 49, 49, 50, 50, 50] ⟨rfl, by decide, by decide⟩ ⟨rfl, by decide, by decide⟩ rfl w)
  have k1 := fun w => Lib.hid (least_lit (s := (⟨#[48, 49, 50, 48, 49, 50, 48, 49, 50]⟩ : ByteArray)) (t := (⟨#[48, 48, 48, 49, 49, 49, 50, 50, 50]⟩ : ByteArray)) (u := (⟨#[48, 48, 48, 48, 49, 49, 48, 49, 50]⟩ : ByteArray)) [48, 49, 50, 48, 49, 50, 48, 49, 50] [48, 48, 48, 49, 49, 49, 50, 50, 50] ⟨rfl, by decide, by decide⟩ ⟨rfl, by decide, by decide⟩ rfl w)
  have k2 := fun w => Lib.hid (most_lit (s := (⟨#[48, 49, 50, 48, 49, 50, 48, 49, 50]⟩ : ByteArray)) (t := (⟨#[48, 48, 48, 49, 49, 49, 50, 50, 50]⟩ : ByteArray)) (u := (⟨#[48, 49, 50, 49, 49, 50, 50, 50, 50]⟩ : ByteArray)) [48, 49, 50, 48, 49, 50, 48, 49, 50] [48, 48, 48, 49, 49, 49, 50, 50, 50] ⟨rfl, by decide, by decide⟩ ⟨rfl, by decide, by decide⟩ rfl w)
  have k3 := fun w => Lib.hid (then_lit (s := (⟨#[]⟩ : ByteArray)) (t := (⟨#[]⟩ : ByteArray)) (u := (⟨#[]⟩ : ByteArray)) [] [] ⟨rfl, by decide, by decide⟩ ⟨rfl, by decide, by decide⟩ rfl w)
  have k4 := fun w => Lib.hid (least_lit (s := (⟨#[]⟩ : ByteArray)) (t := (⟨#[]⟩ : ByteArray)) (u := (⟨#[]⟩ : ByteArray)) [] [] ⟨rfl, by decide, by decide⟩ ⟨rfl, by decide, by decide⟩ rfl w)
  have p0 := fun w => Lib.hid (put_lit (s := (⟨#[49, 49, 49]⟩ : ByteArray)) (u := (⟨#[49, 50, 49]⟩ : ByteArray)) (p := 1) (c := 50) [49, 49, 49] ⟨rfl, by decide, by decide⟩ rfl (by decide) (by decide) w)
  have p1 := fun w => Lib.hid (put_lit (s := (⟨#[49, 49, 49]⟩ : ByteArray)) (u := (⟨#[49, 49, 49]⟩ : ByteArray)) (p := 3) (c := 50) [49, 49, 49] ⟨rfl, by decide, by decide⟩ rfl (by decide) (by decide) w)
  have p2 := fun w => Lib.hid (put_lit (s := (⟨#[49, 49, 49]⟩ : ByteArray)) (u := (⟨#[49, 49, 49]⟩ : ByteArray)) (p := -1) (c := 48) [49, 49, 49] ⟨rfl, by decide, by decide⟩ rfl (by decide) (by decide) w)
  have s0 := fun w => Lib.hid (has_lit (s := (⟨#[48, 49, 50]⟩ : ByteArray)) (p := 0) (b := false) [48, 49, 50] ⟨rfl, by decide, by decide⟩ (by decide) w)
  have s1 := fun w => Lib.hid (has_lit (s := (⟨#[48, 49, 50]⟩ : ByteArray)) (p := 1) (b := false) [48, 49, 50] ⟨rfl, by decide, by decide⟩ (by decide) w)
  have s2 := fun w => Lib.hid (has_lit (s := (⟨#[48, 49, 50]⟩ : ByteArray)) (p := 2) (b := true) [48, 49, 50] ⟨rfl, by decide, by decide⟩ (by decide) w)
  have s3 := fun w => Lib.hid (has_lit (s := (⟨#[48, 49, 50]⟩ : ByteArray)) (p := 3) (b := false) [48, 49, 50] ⟨rfl, by decide, by decide⟩ (by decide) w)
  have s4 := fun w => Lib.hid (has_lit (s := (⟨#[50]⟩ : ByteArray)) (p := -1) (b := false) [50] ⟨rfl, by decide, by decide⟩ (by decide) w)
  have a0 := fun w => Lib.hid (show Calls Try.prog 24 #[.int .i64 0, .int .u8 49] w fun e w' => e = .returned (.string (⟨#[]⟩ : ByteArray)) ∧ Below w.heap.size w w' from all_lit (u := (⟨#[]⟩ : ByteArray)) (n := 0) (c := 49) rfl (by decide) (by decide) (by decide) w)
  have a1 := fun w => Lib.hid (show Calls Try.prog 24 #[.int .i64 2, .int .u8 48] w fun e w' => e = .returned (.string (⟨#[48, 48]⟩ : ByteArray)) ∧ Below w.heap.size w w' from all_lit (u := (⟨#[48, 48]⟩ : ByteArray)) (n := 2) (c := 48) rfl (by decide) (by decide) (by decide) w)
  have hB := Lib.hid (Below.refl w.heap.size w)
  go_enter Try.func9, Try.ntmps9
  go_wp2_with (first
    | (go_at_call 10; refine (known_any _).mono ?_; rintro e w1 ⟨rfl, hb1⟩; replace hB := Lib.hid (bl_then hB.out hB.out.size hb1); clear hb1)
    | (go_at_call 14; (first | (with_reducible refine (k0 _).out.mono ?_) | (with_reducible refine (k3 _).out.mono ?_)); rintro e w1 ⟨rfl, hb1⟩; replace hB := Lib.hid (bl_then hB.out hB.out.size hb1); clear hb1)
    | (go_at_call 15; (first | (with_reducible refine (k1 _).out.mono ?_) | (with_reducible refine (k4 _).out.mono ?_)); rintro e w1 ⟨rfl, hb1⟩; replace hB := Lib.hid (bl_then hB.out hB.out.size hb1); clear hb1)
    | (go_at_call 16; (first | (with_reducible refine (k2 _).out.mono ?_)); rintro e w1 ⟨rfl, hb1⟩; replace hB := Lib.hid (bl_then hB.out hB.out.size hb1); clear hb1)
    | (go_at_call 21; (first | (with_reducible refine (p0 _).out.mono ?_) | (with_reducible refine (p1 _).out.mono ?_) | (with_reducible refine (p2 _).out.mono ?_)); rintro e w1 ⟨rfl, hb1⟩; replace hB := Lib.hid (bl_then hB.out hB.out.size hb1); clear hb1)
    | (go_at_call 20; (first | (with_reducible refine (s0 _).out.mono ?_) | (with_reducible refine (s1 _).out.mono ?_) | (with_reducible refine (s2 _).out.mono ?_) | (with_reducible refine (s3 _).out.mono ?_) | (with_reducible refine (s4 _).out.mono ?_)); rintro e w1 ⟨rfl, hb1⟩; replace hB := Lib.hid (bl_then hB.out hB.out.size hb1); clear hb1)
    | (go_at_call 24; (first | (with_reducible refine (a0 _).out.mono ?_) | (with_reducible refine (a1 _).out.mono ?_)); rintro e w1 ⟨rfl, hb1⟩; replace hB := Lib.hid (bl_then hB.out hB.out.size hb1); clear hb1)
    | (go_at_call 11; refine (within_any which 7 _ (by decide) (by decide)).mono ?_; rintro e w' ⟨rfl, rfl⟩; rw [hqe.out]))
  go_ret
  exact ⟨rfl, bl_alloc hB.out _⟩
end Go.Proofs.Ytdabpeoaleopmaa
