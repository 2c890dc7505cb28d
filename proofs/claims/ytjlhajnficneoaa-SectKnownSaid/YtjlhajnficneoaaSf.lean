/- The walks: known, SectSums. -/
import Derived.Test.YtjlhajnficneoaaSe
import Derived.Lib.SlBytesConst
namespace Go.Proofs.Ytjlhajnficneoaa
set_option linter.unusedVariables false
set_option linter.unusedSimpArgs false
open Go.RowKit

theorem own_get {w : World} {base n : Nat} {e size : Nat} {g cap : Nat} {cells : List Value} (h : w.ownsRow base e size (.slice (some ⟨g, 0, none⟩) n cap) n cells) {j : Nat} {u : Value} (hj : cells[j]? = some u) : w.cell? ⟨g, j, none⟩ = some u := by
  have := h.cells rfl j u hj
  rwa [add_plain] at this
theorem own_some {w : World} {base n e size : Nat} {v : Value} {cells : List Value} (h : w.ownsRow base e size v n cells) (hn : 0 < n) : ∃ g cap, v = .slice (some ⟨g, 0, none⟩) n cap ∧ n ≤ cap ∧ base ≤ g := by
  rcases h.2 with ⟨_, h2⟩ | ⟨g, cap, cur, h3, h4, h5, h6, _⟩
  · omega
  · exact ⟨g, cap, h3, h6, h4⟩

theorem crc_nil : crc [] = 0 := by decide

theorem rd_mark (w : World) (xs : List Value) (t : TypeId) (fr : Nat × Nat) : Rd (w.alloc (.cells xs.toArray t fr)) (some ⟨w.heap.size, 0, none⟩) xs := by
  intro i hi
  refine ⟨_, rfl, ?_⟩
  rw [add_plain, cell_of_row _ _ i xs.toArray t fr (heap_alloc_new w _)]
  simp [hi]

set_option maxHeartbeats 1000000 in
set_option maxRecDepth 100000 in
theorem known_any (w : World) : Calls Try.prog 12 #[] w fun e w' => e = .returned (.bool true) ∧ Below w.heap.size w w' := by
  have hcv := fun (w : World) (C : Array Value) (n c : Nat) => Lib.run_convert_bytes_const (P := Try.prog) w 22 5 C n c Try.underlying22 Try.underlying5
  have hb0 := bl_alloc (Below.refl w.heap.size w) (Obj.cells #[.int .u8 97] 5 (1, 2))
  have hcut := Lib.hid (cut_ok 1 0 (some ⟨w.heap.size, 0, none⟩) 1 [97] (w.alloc (.cells #[.int .u8 97] 5 (1, 2))) (by unfold cutArg; omega) (by decide) (rd_mark w (bs [97]) 5 _) (fun x hx => by simp at hx; omega) (by decide))
  go_enter Try.func12, Try.ntmps12
  go_wp2_with fail
  refine hcut.out.mono ?_
  rintro e w1 ⟨v, cells, rfl, hown, hin, hb1⟩
  have hown2 : w1.ownsRow (w.alloc (.cells #[.int .u8 97] 5 (1, 2))).heap.size 33 5 v 1 cells := hown
  obtain ⟨g, cap, rfl, hcap, -⟩ := own_some hown2 (by decide)
  obtain ⟨u, -, -, -, -, h3, -⟩ := hin 0 (by decide)
  have hx := own_get hown2 h3
  have hbel := Lib.hid (bl_then hb0 (by simp) hb1)
  clear hown hown2 hin h3 hb1 hb0 hcut hcv
  have hof : ((cutOf 1 0 [97])[0]).ofn = 1 := by decide
  rw [hof] at hx
  clear hof
  have hcrc := Lib.hid (crc_any none 0 [] w1 (Rd.nil _ _) Bytes8.nil (by simp) (by omega))
  rw [crc_nil] at hcrc
  go_wp2_with (go_at_call 13; refine hcrc.out.mono ?_; rintro e w' ⟨rfl, rfl⟩)
  go_ret
  exact ⟨rfl, hbel.out⟩

set_option maxHeartbeats 1000000 in
theorem sums_any (w : World) (A : Option Addr) (c : Nat) (l : List Nat) (hr : Rd w A (bs l)) (h8 : Bytes8 l) (hn : l.length ≤ c) (hc : c ≤ 9223372036854775807) (hA : A = none → l.length = 0 ∧ c = 0) :
    Calls Try.prog 3 #[.slice A l.length c] w fun e w' => e = .returned (.bool true) ∧ Below w.heap.size w w' := by
  have hr' := Lib.hid hr
  have h8' := Lib.hid h8
  clear hr h8 hA
  have hlt := crc_lt l h8'.out
  by_cases h3 : 3000 < l.length
  · have hd : decide (3000 < l.length) = true := by simpa using h3
    have hd2 : decide ((l.length : Int) > 3000) = true := by simp; omega
    go_enter Try.func3, Try.ntmps3
    go_wp2_with (go_at_call 12; refine (known_any _).mono ?_; rintro e w1 ⟨rfl, hb1⟩)
    go_ret
    exact ⟨rfl, hb1⟩
  · have hd : decide (3000 < l.length) = false := by simpa using h3
    have hd2 : decide ((l.length : Int) > 3000) = false := by simp; omega
    go_enter Try.func3, Try.ntmps3
    go_wp2_with (first
      | (go_at_call 12; refine (known_any _).mono ?_; rintro e w1 ⟨rfl, hb1⟩)
      | (go_at_call 13; refine (crc_any A c l _ (hr'.out.below hb1) h8'.out hn hc).mono ?_; rintro e w' ⟨rfl, rfl⟩)
      | (go_at_call 14; refine (refcrc_any A c l _ (hr'.out.below hb1) h8'.out hn hc).mono ?_; rintro e w' ⟨rfl, rfl⟩))
    go_ret
    exact ⟨rfl, hb1⟩
end Go.Proofs.Ytjlhajnficneoaa
