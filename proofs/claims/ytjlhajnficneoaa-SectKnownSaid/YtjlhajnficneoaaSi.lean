/- The walks: Parse of whatever length; SectBytes. -/
import Derived.Test.YtjlhajnficneoaaSh
namespace Go.Proofs.Ytjlhajnficneoaa
set_option linter.unusedVariables false
set_option linter.unusedSimpArgs false
open Go.RowKit

set_option maxHeartbeats 4000000 in
set_option maxRecDepth 100000 in
theorem parse_any (A : Option Addr) (c : Nat) (l : List Nat) (w : World) (hr : Rd w A (bs l)) (h8 : Bytes8 l) (hn : l.length ≤ c) (hc : c ≤ 9223372036854775807) :
    Calls Try.prog 17 #[.slice A l.length c] w fun e w' => ∃ v, e = .returned (.tuple #[(parseD l).1.val v, .bool (parseD l).2]) ∧ OwnB w' w.heap.size v (parseD l).1.data ∧ Below w.heap.size w w' := by
  by_cases hl : l.length = 64
  · obtain ⟨ad, rfl, -⟩ := hr 0 (by rw [bs_length]; omega)
    rw [hl] at hn ⊢
    exact parse_64 ad c l w hr h8 hl hn hc
  have hpd : Hid (parseD l = (zeroP, false)) := Lib.hid (if_neg (fun h => hl h.1))
  have h1 : decide ((l.length : Int) = 64) = false := by simp; omega
  have h2 : decide (¬ (l.length : Int) = 64) = true := by simp; omega
  clear hr h8
  go_enter Try.func17, Try.ntmps17
  go_wp2_with (refine store_mid (by rfl) 33 _ _ rfl w.heap.size 0 #[Value.int .i64 0, Value.int .i64 0, Value.int .i64 0, Value.int .i64 0, Value.slice none 0 0] rfl rfl 33 [Value.int .i64 0, Value.int .i64 0, Value.int .i64 0, Value.int .i64 0, Value.slice none 0 0] (by exact heap_alloc_new _ _) (by kernel_rfl) (by simp) (by simp [Value.oneCell']) ?_)
  have hr0 := setRow_heap (w.alloc (Obj.cells #[Value.int .i64 0, Value.int .i64 0, Value.int .i64 0, Value.int .i64 0, Value.slice none 0 0] 33)) w.heap.size _ #[Value.int .i64 0, Value.int .i64 0, Value.int .i64 0, Value.int .i64 0, Value.slice none 0 0] 33 _ (heap_alloc_new _ _)
  exact bodyPost_ret (res_ct rfl _ _ w.heap.size 33 #[Value.int .i64 0, Value.int .i64 0, Value.int .i64 0, Value.int .i64 0, Value.slice none 0 0] (0, 0) _ rfl hr0 Try.underlying33 (by kernel_rfl) (by kernel_rfl)) rfl ⟨.slice none 0 0, by rw [hpd.out]; rfl, by rw [hpd.out]; exact own_nil _ _ _ _, below_setRow (bl_alloc (Below.refl _ _) _) (Nat.le_refl _) _⟩
end Go.Proofs.Ytjlhajnficneoaa
