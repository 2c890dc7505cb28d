/- The walks: same. -/
import Derived.Test.YtjlhajnficneoaaSk
namespace Go.Proofs.Ytjlhajnficneoaa
set_option linter.unusedVariables false
set_option linter.unusedSimpArgs false
open Go.RowKit

/-- a slice of bytes that can be read -/
def SlB (w : World) (v : Value) (l : List Nat) : Prop := ∃ A c, v = .slice A l.length c ∧ Rd w A (bs l) ∧ (A = none → l.length = 0 ∧ c = 0)
theorem OwnB.slB {w : World} {base : Nat} {v : Value} {l : List Nat} (h : OwnB w base v l) : SlB w v l := by
  obtain ⟨A, c, e, h1, h2, h3, h4⟩ := Rd.own h
  exact ⟨A, c, e, h3, h4⟩
theorem SlB.below {w w' : World} {v : Value} {l : List Nat} (h : SlB w v l) (hb : Below w.heap.size w w') : SlB w' v l := by
  obtain ⟨A, c, e, h1, h2⟩ := h
  exact ⟨A, c, e, h1.below hb, h2⟩

theorem ret_dec {b : Bool} {p : Prop} [Decidable p] (h : b = true ↔ p) : Ending.returned (.bool b) = .returned (.bool (decide p)) := by
  have : b = decide p := by rw [Bool.eq_iff_iff, h, decide_eq_true_eq]
  rw [this]

theorem strB_beq {l m : List Nat} (h8 : Bytes8 l) (k8 : Bytes8 m) : ((strB l).toList == (strB m).toList) = true ↔ l = m := by
  rw [beq_iff_eq]
  constructor
  · intro h
    refine strB_inj h8 k8 ?_
    unfold strB at h ⊢
    rw [ByteArray.toList_mk, ByteArray.toList_mk] at h
    rw [h]
  · intro h; rw [h]

set_option maxHeartbeats 1000000 in
set_option maxRecDepth 100000 in
theorem same_any (p q : PartD) (v v' : Value) (w : World) (h1 : SlB w v p.data) (h2 : SlB w v' q.data) (h8 : Bytes8 p.data) (k8 : Bytes8 q.data) :
    Calls Try.prog 19 #[p.val v, q.val v'] w fun e w' => e = .returned (.bool (decide (p.gen = q.gen ∧ p.rc = q.rc ∧ p.n = q.n ∧ p.ofn = q.ofn ∧ p.data = q.data))) ∧ Below w.heap.size w w' := by
  obtain ⟨a, b, c, d, l⟩ := p
  obtain ⟨a', b', c', d', l'⟩ := q
  obtain ⟨A, k, rfl, hr, hA⟩ := h1
  obtain ⟨A', k', rfl, hr', hA'⟩ := h2
  dsimp only at hr hr' hA hA' h8 k8
  have hz := Lib.hid (strB_beq h8 k8)
  have s1 := fun (w1 : World) (hb : Below w.heap.size w w1) => str_any A l.length k l w1 rfl (hr.below hb) hA
  have s2 := fun (w1 : World) (hb : Below w.heap.size w w1) => str_any A' l'.length k' l' w1 rfl (hr'.below hb) hA'
  replace s1 := s1 _ (bl_alloc (bl_alloc (Below.refl w.heap.size w) (.cells #[.int .i64 a, .int .i64 b, .int .i64 c, .int .i64 d, .slice A l.length k] 33)) (.cells #[.int .i64 a', .int .i64 b', .int .i64 c', .int .i64 d', .slice A' l'.length k'] 28))
  replace s2 := s2 _ (bl_alloc (bl_alloc (Below.refl w.heap.size w) (.cells #[.int .i64 a, .int .i64 b, .int .i64 c, .int .i64 d, .slice A l.length k] 33)) (.cells #[.int .i64 a', .int .i64 b', .int .i64 c', .int .i64 d', .slice A' l'.length k'] 28))
  have hbl := Lib.hid (bl_alloc (bl_alloc (Below.refl w.heap.size w) (.cells #[.int .i64 a, .int .i64 b, .int .i64 c, .int .i64 d, .slice A l.length k] 33)) (.cells #[.int .i64 a', .int .i64 b', .int .i64 c', .int .i64 d', .slice A' l'.length k'] 28))
  clear hr hr' hA hA' h8 k8
  unfold PartD.val
  dsimp only
  by_cases e1 : a = a'
  · subst e1
    by_cases e2 : b = b'
    · subst e2
      by_cases e3 : c = c'
      · subst e3
        by_cases e4 : d = d'
        · subst e4
          go_enter Try.func19, Try.ntmps19
          go_wp2_with fail
          go_ret
          exact ⟨ret_dec (by rw [hz.out]; simp), hbl.out⟩
        · have e4' : (d == d') = false := by simpa using e4
          go_enter Try.func19, Try.ntmps19
          go_wp2_with fail
          go_ret
          exact ⟨ret_dec (by simp [e4]), hbl.out⟩
      · have e3' : (c == c') = false := by simpa using e3
        go_enter Try.func19, Try.ntmps19
        go_wp2_with fail
        go_ret
        exact ⟨ret_dec (by simp [e3]), hbl.out⟩
    · have e2' : (b == b') = false := by simpa using e2
      go_enter Try.func19, Try.ntmps19
      go_wp2_with fail
      go_ret
      exact ⟨ret_dec (by simp [e2]), hbl.out⟩
  · have e1' : (a == a') = false := by simpa using e1
    go_enter Try.func19, Try.ntmps19
    go_wp2_with fail
    go_ret
    exact ⟨ret_dec (by simp [e1]), hbl.out⟩
end Go.Proofs.Ytjlhajnficneoaa
