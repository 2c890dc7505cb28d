/- The walks: Bytes of a Part. -/
import Derived.Test.YtjlhajnficneoaaSc
namespace Go.Proofs.Ytjlhajnficneoaa
set_option linter.unusedVariables false
set_option linter.unusedSimpArgs false
open Go.RowKit

/-- a Part's value -/
def PartD.val (p : PartD) (v : Value) : Value := .agg #[.int .i64 p.gen, .int .i64 p.rc, .int .i64 p.n, .int .i64 p.ofn, v]

theorem lay_step {w0 W W' : World} {B b0 g off : Nat} {o : Obj} {cur xs : List Value} (hW : W' = W.drew.setRow g (splice cur off xs).toArray) (hbox : W.heap[b0]? = some o)
    (hrow : W.heap[g]? = some (.cells cur.toArray 5 (0, 0))) (hne : b0 ≠ g) (hB : Below B w0 W) (hg : B ≤ g) :
    W'.heap[b0]? = some o ∧ W'.heap[g]? = some (.cells (splice cur off xs).toArray 5 (0, 0)) ∧ Below B w0 W' := by
  subst hW
  refine ⟨?_, ?_, below_setRow hB.drew hg _⟩
  · rw [setRow_other _ _ _ _ hne]; exact hbox
  · exact setRow_heap W.drew g cur.toArray _ 5 _ hrow
theorem splice_app (pre xs s1 s2 : List Value) (off : Nat) (h1 : s1.length = xs.length) (ho : pre.length = off) : splice (pre ++ (s1 ++ s2)) off xs = pre ++ (xs ++ s2) := by
  subst ho
  unfold splice
  rw [List.take_left, ← h1, List.drop_append]
  simp
theorem zer_add (z : Value) (k m : Nat) : zer z (k + m) = zer z k ++ zer z m := by unfold zer; rw [List.replicate_append_replicate]
theorem splice_zer (pre xs : List Value) (z : Value) (k m off : Nat) (hx : xs.length = k) (ho : pre.length = off) : splice (pre ++ zer z (k + m)) off xs = (pre ++ xs) ++ zer z m := by
  rw [zer_add, splice_app pre xs _ _ off (by rw [zer_length, hx]) ho, List.append_assoc]
theorem zer_bs (n : Nat) : zer (.int .u8 0) n = bs (List.replicate n 0) := by simp [zer, bs, enc, by_]
theorem head_len (p : PartD) : p.head.length = 8 := by simp [PartD.head, leN_len]
theorem leN_8 (x : Int) (k : Nat) : Bytes8 (leN x k) := by
  intro y hy
  simp only [leN, List.mem_map] at hy
  obtain ⟨i, _, rfl⟩ := hy
  omega
theorem head_8 (p : PartD) : Bytes8 p.head := (((leN_8 _ _).append (leN_8 _ _)).append (leN_8 _ _)).append (leN_8 _ _)
/-- the row behind the four numbers -/
theorem row_head (p : PartD) : splice (splice (splice (splice (zer (.int .u8 0) 64) 0 (bs (leN p.gen 4))) 4 (bs (leN p.rc 2))) 6 (bs (leN p.n 1))) 7 (bs (leN p.ofn 1)) = bs p.head ++ zer (.int .u8 0) 56 := by
  rw [show zer (.int .u8 0) 64 = [] ++ zer (.int .u8 0) (4 + 60) from rfl, splice_zer [] _ _ 4 60 0 (by rw [bs_length, leN_len]) rfl,
    splice_zer _ _ _ 2 58 _ (by rw [bs_length, leN_len]) (by simp [bs_length, leN_len]), splice_zer _ _ _ 1 57 _ (by rw [bs_length, leN_len]) (by simp [bs_length, leN_len]),
    splice_zer _ _ _ 1 56 _ (by rw [bs_length, leN_len]) (by simp [bs_length, leN_len])]
  simp [PartD.head, bs_append]
theorem row_data (p : PartD) (h : p.data.length = 52) : splice (bs p.head ++ zer (.int .u8 0) 56) 12 (bs p.data) = bs (p.head ++ (List.replicate 4 0 ++ p.data)) := by
  rw [show (56 : Nat) = 4 + 52 from rfl, zer_add, ← List.append_assoc, show zer (.int .u8 0) 52 = zer (.int .u8 0) (52 + 0) from rfl, splice_zer _ _ _ 52 0 _ (by rw [bs_length, h]) (by simp [bs_length, head_len, zer_length])]
  rw [bs_append, bs_append, ← zer_bs]
  simp [zer]
theorem row_sum (p : PartD) (c : Int) : splice (bs (p.head ++ (List.replicate 4 0 ++ p.data))) 8 (bs (leN c 4)) = bs (p.head ++ leN c 4 ++ p.data) := by
  rw [bs_append, bs_append, splice_app _ _ _ _ _ (by simp [bs_length, leN_len]) (by rw [bs_length, head_len]), bs_append, bs_append, List.append_assoc]
theorem box_cell {W : World} {b : Nat} {cs : Array Value} {t : TypeId} (h : W.heap[b]? = some (.cells cs t (0, 0))) (i : Nat) : W.cell? ⟨b, i, none⟩ = cs[i]? := cell_of_row W b i cs t (0, 0) h

set_option maxHeartbeats 2000000 in
set_option maxRecDepth 100000 in
theorem bytes_ok (p : PartD) (A : Option Addr) (c : Nat) (w : World) (hok : p.ok) (hr : Rd w A (bs p.data)) (h8 : Bytes8 p.data) :
    Calls Try.prog 16 #[.agg #[.int .i64 p.gen, .int .i64 p.rc, .int .i64 p.n, .int .i64 p.ofn, .slice A 52 c]] w fun e w' => ∃ v, e = .returned (.tuple #[v, .int .i64 0]) ∧ w'.ownsRow w.heap.size 5 1 v 64 (bs p.bytes) ∧ Below w.heap.size w w' := by
  obtain ⟨a1, a2, a3, a4, a5, a6, a7, a8, a9⟩ := hok
  have e1 : decide (1 ≤ p.gen ∧ p.gen ≤ 4294967295) = true := by simp; omega
  have e2 : decide (0 ≤ p.rc ∧ p.rc ≤ 65535) = true := by simp; omega
  have e3 : decide (1 ≤ p.ofn ∧ p.ofn ≤ 255) = true := by simp; omega
  have e4 : decide (0 ≤ p.n ∧ p.n ≤ p.ofn - 1) = true := by simp; omega
  have hr' := Lib.hid hr
  have h8' := Lib.hid h8
  have a9' := Lib.hid a9
  clear hr h8 a9
  have hmk : ∀ w, (Instr.makeSlice 22 (.int .i64 64) (.int .i64 64)).run Try.prog w = .ok (.slice (some ⟨w.heap.size, 0, none⟩) 64 64) (w.alloc (.cells (zer (.int .u8 0) 64).toArray 5)) := mk_row 22 5 (.int .u8 0) 1 Try.underlying22 info5 rfl 64 (by decide) (by decide)
  go_enter Try.func16, Try.ntmps16
  go_upto_region 4 with (go_at_call 26; refine (win26_any _ _ _ _).mono ?_; rintro e w' ⟨rfl, rfl⟩)
  generalize hW : ((w.alloc (Obj.cells #[Value.int .i64 p.gen, Value.int .i64 p.rc, Value.int .i64 p.n, Value.int .i64 p.ofn, Value.slice A 52 c] 33)).alloc (Obj.cells (zer (Value.int .u8 0) 64).toArray 5)) = W
  have hbox : W.heap[w.heap.size]? = some (.cells #[Value.int .i64 p.gen, Value.int .i64 p.rc, Value.int .i64 p.n, Value.int .i64 p.ofn, Value.slice A 52 c] 33 (0, 0)) := by
    rw [← hW, Below.heap_alloc _ _ _ (by simp)]; exact heap_alloc_new w _
  have hrow : W.heap[w.heap.size + 1]? = some (.cells (zer (Value.int .u8 0) 64).toArray 5 (0, 0)) := by
    rw [← hW]; have := heap_alloc_new (w.alloc (Obj.cells #[Value.int .i64 p.gen, Value.int .i64 p.rc, Value.int .i64 p.n, Value.int .i64 p.ofn, Value.slice A 52 c] 33)) (Obj.cells (zer (Value.int .u8 0) 64).toArray 5); simpa using this
  have hbel : Below w.heap.size w W := by rw [← hW]; exact bl_alloc (bl_alloc (Below.refl _ _) _) _
  have hbox' := Lib.hid hbox
  have hrow' := Lib.hid hrow
  have hbel' := Lib.hid hbel
  clear hbox hrow hbel hW hmk
  have hx := box_cell hbox'.out 0
  simp only [List.getElem?_toArray, List.getElem?_cons_zero, List.getElem?_cons_succ] at hx
  go_still_tail 4, (by kernel_rfl)
  change wpList _ _ _ _ _ W.drew
  clear hx
  go_wp2_with (go_at_call 27; refine (lay_any (w.heap.size + 1) 0 4 64 _ p.gen _ (by exact hrow'.out) (by rw [zer_length]; decide) (by decide) (by decide)).mono ?_; rintro e w4 ⟨rfl, hw4⟩; obtain ⟨hbox4, hrow4, hbel4⟩ := lay_step hw4 hbox'.out hrow'.out (by omega) hbel'.out (by omega); replace hbox4 := Lib.hid hbox4; replace hrow4 := Lib.hid hrow4; replace hbel4 := Lib.hid hbel4; clear hw4; clear hbox' hrow' hbel')
  have hx := box_cell hbox4.out 1
  simp only [List.getElem?_toArray, List.getElem?_cons_zero, List.getElem?_cons_succ] at hx
  go_still_tail 4, (by kernel_rfl)
  change wpList _ _ _ _ _ w4.drew
  clear hx
  go_wp2_with (go_at_call 27; refine (lay_any (w.heap.size + 1) 4 2 60 _ p.rc _ (by exact hrow4.out) (by rw [length_splice] <;> simp [zer_length, bs_length, leN_len]) (by decide) (by decide)).mono ?_; rintro e w5 ⟨rfl, hw5⟩; obtain ⟨hbox5, hrow5, hbel5⟩ := lay_step hw5 hbox4.out hrow4.out (by omega) hbel4.out (by omega); replace hbox5 := Lib.hid hbox5; replace hrow5 := Lib.hid hrow5; replace hbel5 := Lib.hid hbel5; clear hw5; clear hbox4 hrow4 hbel4)
  have hx := box_cell hbox5.out 2
  simp only [List.getElem?_toArray, List.getElem?_cons_zero, List.getElem?_cons_succ] at hx
  go_still_tail 4, (by kernel_rfl)
  change wpList _ _ _ _ _ w5.drew
  clear hx
  go_wp2_with (go_at_call 27; refine (lay_any (w.heap.size + 1) 6 1 58 _ p.n _ (by exact hrow5.out) (by rw [length_splice, length_splice] <;> simp [zer_length, bs_length, leN_len, length_splice]) (by decide) (by decide)).mono ?_; rintro e w6 ⟨rfl, hw6⟩; obtain ⟨hbox6, hrow6, hbel6⟩ := lay_step hw6 hbox5.out hrow5.out (by omega) hbel5.out (by omega); replace hbox6 := Lib.hid hbox6; replace hrow6 := Lib.hid hrow6; replace hbel6 := Lib.hid hbel6; clear hw6; clear hbox5 hrow5 hbel5)
  have hx := box_cell hbox6.out 3
  simp only [List.getElem?_toArray, List.getElem?_cons_zero, List.getElem?_cons_succ] at hx
  go_still_tail 4, (by kernel_rfl)
  change wpList _ _ _ _ _ w6.drew
  clear hx
  go_wp2_with (go_at_call 27; refine (lay_any (w.heap.size + 1) 7 1 57 _ p.ofn _ (by exact hrow6.out) (by rw [length_splice, length_splice, length_splice] <;> simp [zer_length, bs_length, leN_len, length_splice]) (by decide) (by decide)).mono ?_; rintro e w7 ⟨rfl, hw7⟩; obtain ⟨hbox7, hrow7, hbel7⟩ := lay_step hw7 hbox6.out hrow6.out (by omega) hbel6.out (by omega); replace hbox7 := Lib.hid hbox7; replace hrow7 := Lib.hid hrow7; replace hbel7 := Lib.hid hbel7; clear hw7; clear hbox6 hrow6 hbel6)
  have hx := box_cell hbox7.out 4
  simp only [List.getElem?_toArray, List.getElem?_cons_zero, List.getElem?_cons_succ] at hx
  have hrow7n := hrow7.out
  rw [row_head] at hrow7n
  have hrow7' := Lib.hid hrow7n
  clear hrow7n hrow7
  obtain ⟨ad, hA, -⟩ := hr'.out 0 (by have := a9'.out; rw [bs_length]; omega)
  subst hA
  have hsrc : Hid (Rd w7 (some ad) (bs p.data)) := Lib.hid (hr'.out.below hbel7.out)
  go_still_tail 4, (by kernel_rfl)
  change wpList _ _ _ _ _ w7.drew
  clear hx
  go_wp2_with (refine wpList_copy_splice rfl _ _ 22 22 rfl 5 Try.underlying22 (by kernel_rfl) (some ⟨w.heap.size + 1, 12, none⟩) (some ad) 52 52 52 c rfl rfl (w.heap.size + 1) 12 (bs p.head ++ zer (.int .u8 0) 56) 5 (by exact hrow7'.out) (bs p.data) (by have := a9'.out; rw [bs_length, this]; rfl) (fun _ => ⟨rfl, ad, rfl, by exact hsrc.out.cells⟩) (by have := a9'.out; simp [bs_length, head_len, zer_length, this]) (bs_one _) w.heap.size w hbel7.out.drew (by omega) ?_; intro w8 hrow8 hbel8)
  have hrow8n := hrow8.out
  rw [row_data p a9'.out] at hrow8n
  have hrow8' := Lib.hid hrow8n
  have hbel8' := Lib.hid hbel8
  clear hrow8n hrow8 hbel8 hbox7 hbel7 hrow7' hsrc
  have hl64 : Hid ((p.head ++ (List.replicate 4 0 ++ p.data)).length = 64) := Lib.hid (by have := a9'.out; simp [head_len, this])
  have h864 : Hid (Bytes8 (p.head ++ (List.replicate 4 0 ++ p.data))) := Lib.hid ((head_8 p).append (Bytes8.append (fun x hx => by have := List.eq_of_mem_replicate hx; omega) h8'.out))
  have htk : Hid ((p.head ++ (List.replicate 4 0 ++ p.data)).take 8 ++ (p.head ++ (List.replicate 4 0 ++ p.data)).drop 12 = p.head ++ p.data) := Lib.hid (by
    rw [List.take_left' (head_len p), List.drop_append, List.drop_eq_nil_of_le (by rw [head_len]; decide), head_len]
    simp)
  have hs8 := hbel8'.out.size
  go_region_with (first
    | (go_at_call 28; refine (sum_any (w.heap.size + 1) (p.head ++ (List.replicate 4 0 ++ p.data)) _ hl64.out (by exact rd_row hrow8'.out) h864.out).mono ?_; rintro e w9 ⟨rfl, hb9⟩; rw [htk.out])
    | (go_at_call 27; refine (lay_any (w.heap.size + 1) 8 4 56 _ _ _ (by exact bl_row hb9 hrow8'.out) (by rw [bs_length, hl64.out]; decide) (by decide) (by decide)).mono ?_; rintro e w10 ⟨rfl, hw10⟩; have hw10' := Lib.hid hw10; clear hw10))
  have hrow9 : w9.heap[w.heap.size + 1]? = some (.cells (bs (p.head ++ (List.replicate 4 0 ++ p.data))).toArray 5 (0, 0)) := bl_row hb9 hrow8'.out
  have hrow10 : w10.heap[w.heap.size + 1]? = some (.cells (bs p.bytes).toArray 5 (0, 0)) := by
    rw [hw10'.out, setRow_heap _ _ _ _ 5 _ hrow9, row_sum]; rfl
  have hbel10 : Below w.heap.size w w10 := by
    rw [hw10'.out]; exact below_setRow (bl_then hbel8'.out.drew hs8 hb9) (by omega) _
  have hrow10' := Lib.hid hrow10
  have hbel10' := Lib.hid hbel10
  clear hrow9 hrow10 hbel10 hw10' hb9
  go_wp2
  go_ret2
  exact ⟨_, rfl, own_row hrow10'.out (by omega) (by have := a9'.out; rw [bs_length]; simp [PartD.bytes, head_len, leN_len, this]) (by decide), hbel10'.out⟩

set_option maxHeartbeats 2000000 in
set_option maxRecDepth 100000 in
theorem bytes_no (p : PartD) (A : Option Addr) (c : Nat) (w : World) (hno : ¬ p.ok) (hc : p.data.length ≤ 9223372036854775807) :
    Calls Try.prog 16 #[.agg #[.int .i64 p.gen, .int .i64 p.rc, .int .i64 p.n, .int .i64 p.ofn, .slice A p.data.length c]] w fun e w' => e = .returned (.tuple #[.slice none 0 0, .int .i64 1]) ∧ Below w.heap.size w w' := by
  by_cases h1 : 1 ≤ p.gen ∧ p.gen ≤ 4294967295
  · by_cases h2 : 0 ≤ p.rc ∧ p.rc ≤ 65535
    · by_cases h3 : 1 ≤ p.ofn ∧ p.ofn ≤ 255
      · by_cases h4 : 0 ≤ p.n ∧ p.n ≤ p.ofn - 1
        · have h5 : ¬ p.data.length = 52 := fun h5 => hno ⟨h1.1, h1.2, h2.1, h2.2, h3.1, h3.2, h4.1, h4.2, h5⟩
          have e1 := decide_eq_true h1
          have e2 := decide_eq_true h2
          have e3 := decide_eq_true h3
          have e4 := decide_eq_true h4
          have e5 : ((p.data.length : Int) != 52) = true := by rw [bne_iff_ne]; omega
          obtain ⟨h3a, h3b⟩ := h3
          clear h1 h2 h4 h5 hno
          go_enter Try.func16, Try.ntmps16
          go_wp2_with (go_at_call 26; refine (win26_any _ _ _ _).mono ?_; rintro e w' ⟨rfl, rfl⟩)
          go_ret2
          exact ⟨rfl, bl_alloc (Below.refl _ _) _⟩
        · have e1 := decide_eq_true h1
          have e2 := decide_eq_true h2
          have e3 := decide_eq_true h3
          have e4 := decide_eq_false h4
          obtain ⟨h3a, h3b⟩ := h3
          clear h1 h2 h4 hno
          go_enter Try.func16, Try.ntmps16
          go_wp2_with (go_at_call 26; refine (win26_any _ _ _ _).mono ?_; rintro e w' ⟨rfl, rfl⟩)
          go_ret2
          exact ⟨rfl, bl_alloc (Below.refl _ _) _⟩
      · have e1 := decide_eq_true h1
        have e2 := decide_eq_true h2
        have e3 := decide_eq_false h3
        clear h1 h2 h3 hno
        go_enter Try.func16, Try.ntmps16
        go_wp2_with (go_at_call 26; refine (win26_any _ _ _ _).mono ?_; rintro e w' ⟨rfl, rfl⟩)
        go_ret2
        exact ⟨rfl, bl_alloc (Below.refl _ _) _⟩
    · have e1 := decide_eq_true h1
      have e2 := decide_eq_false h2
      clear h1 h2 hno
      go_enter Try.func16, Try.ntmps16
      go_wp2_with (go_at_call 26; refine (win26_any _ _ _ _).mono ?_; rintro e w' ⟨rfl, rfl⟩)
      go_ret2
      exact ⟨rfl, bl_alloc (Below.refl _ _) _⟩
  · have e1 := decide_eq_false h1
    clear h1 hno
    go_enter Try.func16, Try.ntmps16
    go_wp2_with (go_at_call 26; refine (win26_any _ _ _ _).mono ?_; rintro e w' ⟨rfl, rfl⟩)
    go_ret2
    exact ⟨rfl, bl_alloc (Below.refl _ _) _⟩
end Go.Proofs.Ytjlhajnficneoaa
