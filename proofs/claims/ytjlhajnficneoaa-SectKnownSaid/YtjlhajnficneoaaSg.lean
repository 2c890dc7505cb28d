/- The walks: Make. -/
import Derived.Test.YtjlhajnficneoaaSf
namespace Go.Proofs.Ytjlhajnficneoaa
set_option linter.unusedVariables false
set_option linter.unusedSimpArgs false
open Go.RowKit

def makeD (gen rc n ofn : Int) (l : List Nat) : PartD := ⟨1 + gen % 4294967295, rc % 65536, n % (1 + ofn % 255), 1 + ofn % 255, l.take 52 ++ List.replicate (52 - l.length) 0⟩
theorem makeD_len (gen rc n ofn : Int) (l : List Nat) : (makeD gen rc n ofn l).data.length = 52 := by simp [makeD]; omega
theorem makeD_ok (gen rc n ofn : Int) (l : List Nat) : (makeD gen rc n ofn l).ok := by
  have h := makeD_len gen rc n ofn l
  refine ⟨?_, ?_, ?_, ?_, ?_, ?_, ?_, ?_, h⟩ <;> simp only [makeD]
  · have := Int.emod_nonneg gen (show (4294967295 : Int) ≠ 0 by omega); omega
  · have := Int.emod_lt_of_pos gen (show (0 : Int) < 4294967295 by omega); omega
  · exact Int.emod_nonneg rc (by omega)
  · have := Int.emod_lt_of_pos rc (show (0 : Int) < 65536 by omega); omega
  · have := Int.emod_nonneg ofn (show (255 : Int) ≠ 0 by omega); omega
  · have := Int.emod_lt_of_pos ofn (show (0 : Int) < 255 by omega); omega
  · have := Int.emod_nonneg ofn (show (255 : Int) ≠ 0 by omega)
    exact Int.emod_nonneg n (by omega)
  · have h0 := Int.emod_nonneg ofn (show (255 : Int) ≠ 0 by omega)
    have := Int.emod_lt_of_pos n (show (0 : Int) < 1 + ofn % 255 by omega); omega
theorem makeD_8 (gen rc n ofn : Int) {l : List Nat} (h : Bytes8 l) : Bytes8 (makeD gen rc n ofn l).data := (h.take 52).append (fun x hx => by have := List.eq_of_mem_replicate hx; omega)

set_option maxHeartbeats 1000000 in
set_option maxRecDepth 100000 in
theorem make_any (gen rc n ofn : Int) (A : Option Addr) (c : Nat) (l : List Nat) (w : World) (hr : Rd w A (bs l)) (hn : l.length ≤ c) (hc : c ≤ 9223372036854775807) :
    Calls Try.prog 15 #[.int .i64 gen, .int .i64 rc, .int .i64 n, .int .i64 ofn, .slice A l.length c] w fun e w' => ∃ v, e = .returned ((makeD gen rc n ofn l).val v) ∧ OwnB w' w.heap.size v (makeD gen rc n ofn l).data ∧ Below w.heap.size w w' := by
  have hr' := Lib.hid hr
  clear hr
  have hmk : ∀ w, (Instr.makeSlice 22 (.int .i64 52) (.int .i64 52)).run Try.prog w = .ok (.slice (some ⟨w.heap.size, 0, none⟩) 52 52) (w.alloc (.cells (zer (.int .u8 0) 52).toArray 5)) := mk_row 22 5 (.int .u8 0) 1 Try.underlying22 info5 rfl 52 (by decide) (by decide)
  have m1 := Int.emod_nonneg gen (show (4294967295 : Int) ≠ 0 by omega)
  have m2 := Int.emod_lt_of_pos gen (show (0 : Int) < 4294967295 by omega)
  have m3 := Int.emod_nonneg ofn (show (255 : Int) ≠ 0 by omega)
  have m4 := Int.emod_lt_of_pos ofn (show (0 : Int) < 255 by omega)
  go_enter Try.func15, Try.ntmps15
  go_upto_region 4 with (go_at_call 20; refine (within_any _ _ _ (by omega) (by omega)).mono ?_; rintro e w' ⟨rfl, rfl⟩)
  generalize hP : (#[Value.int .i64 (1 + gen % 4294967295), Value.int .i64 (rc % 65536), Value.int .i64 (n % (1 + ofn % 255)), Value.int .i64 (1 + ofn % 255), Value.slice (some { block := w.heap.size + 1 + 1, off := 0 }) 52 52] : Array Value) = pc
  generalize hW : (((w.alloc (Obj.cells #[Value.int .i64 0, Value.int .i64 0, Value.int .i64 0, Value.int .i64 0, Value.slice none 0 0] 28)).alloc (Obj.cells pc 28)).alloc (Obj.cells (zer (Value.int .u8 0) 52).toArray 5)) = W
  have h0 : W.heap[w.heap.size]? = some (.cells #[Value.int .i64 0, Value.int .i64 0, Value.int .i64 0, Value.int .i64 0, Value.slice none 0 0] 28 (0, 0)) := by
    rw [← hW]; exact blk_alloc (blk_alloc (heap_alloc_new w _) _) _
  have h1 : W.heap[w.heap.size + 1]? = some (.cells pc 28 (0, 0)) := by
    rw [← hW]
    have := blk_alloc (heap_alloc_new (w.alloc (Obj.cells #[Value.int .i64 0, Value.int .i64 0, Value.int .i64 0, Value.int .i64 0, Value.slice none 0 0] 28)) (Obj.cells pc 28)) (Obj.cells (zer (Value.int .u8 0) 52).toArray 5); simpa using this
  have h2 : W.heap[w.heap.size + 1 + 1]? = some (.cells (zer (Value.int .u8 0) 52).toArray 5 (0, 0)) := by
    rw [← hW]
    have := heap_alloc_new ((w.alloc (Obj.cells #[Value.int .i64 0, Value.int .i64 0, Value.int .i64 0, Value.int .i64 0, Value.slice none 0 0] 28)).alloc (Obj.cells pc 28)) (Obj.cells (zer (Value.int .u8 0) 52).toArray 5); simpa using this
  have hbel : Below w.heap.size w W := by rw [← hW]; exact bl_alloc (bl_alloc (bl_alloc (Below.refl _ _) _) _) _
  have hx := box_cell h1 4
  rw [← hP] at hx
  simp only [List.getElem?_toArray, List.getElem?_cons_zero, List.getElem?_cons_succ] at hx
  have h0' := Lib.hid h0
  have h1' := Lib.hid h1
  have h2' := Lib.hid h2
  have hbel' := Lib.hid hbel
  have hP' := Lib.hid hP
  clear h0 h1 h2 hbel hW hmk hP
  have hcp : Hid (0 < (bs (l.take 52)).length → ∃ ad, A = some ad ∧ ∀ j v, (bs (l.take 52))[j]? = some v → W.cell? (ad.add j) = some v) := Lib.hid (fun hpos => by
    have hr2 : Rd W A (bs (l.take 52)) := by
      have := (hr'.out.below hbel'.out).take 52
      simpa [bs, enc, List.map_take] using this
    obtain ⟨ad, hA, -⟩ := hr2 0 hpos
    subst hA
    exact ⟨ad, rfl, hr2.cells⟩)
  have hmin : Hid ((bs (l.take 52)).length = Nat.min l.length 52) := Lib.hid (by rw [bs_length, List.length_take, Nat.min_comm])
  have hfit : Hid (0 + (bs (l.take 52)).length ≤ (zer (.int .u8 0) 52).length) := Lib.hid (by simp only [bs_length, zer_length, List.length_take]; omega)
  have hone : Hid ((#[Value.int .i64 (1 + gen % 4294967295), Value.int .i64 (rc % 65536), Value.int .i64 (n % (1 + ofn % 255)), Value.int .i64 (1 + ofn % 255), Value.slice (some { block := w.heap.size + 1 + 1, off := 0 }) 52 52] : Array Value).all (·.oneCell') = true) := Lib.hid (by simp [Value.oneCell'])
  go_wp2_with (first
    | (refine wpList_copy_splice rfl _ _ 22 22 rfl 5 Try.underlying22 (by kernel_rfl) (some ⟨w.heap.size + 1 + 1, 0, none⟩) A 52 52 l.length c rfl rfl (w.heap.size + 1 + 1) 0 (zer (.int .u8 0) 52) 5 h2'.out (bs (l.take 52)) hmin.out (fun hpos => ⟨rfl, hcp.out hpos⟩) hfit.out (bs_one _) (w.heap.size + 1 + 1) W (Below.refl _ _) (Nat.le_refl _) ?_; intro w2 hrow2 hbel2; have h0w := Lib.hid ((hbel2.block _ (by omega)).trans h0'.out); have h1w := (hbel2.block _ (show w.heap.size + 1 < w.heap.size + 1 + 1 by omega)).trans h1'.out; rw [← hP'.out] at h1w; have c0 := box_cell h1w 0; have c1 := box_cell h1w 1; have c2 := box_cell h1w 2; have c3 := box_cell h1w 3; have c4 := box_cell h1w 4; simp only [List.getElem?_toArray, List.getElem?_cons_zero, List.getElem?_cons_succ] at c0 c1 c2 c3 c4; clear h1w; have hb2' := Lib.hid hbel2; clear hbel2)
    | (refine store_mid (by rfl) 28 _ _ rfl w.heap.size 0 #[Value.int .i64 (1 + gen % 4294967295), Value.int .i64 (rc % 65536), Value.int .i64 (n % (1 + ofn % 255)), Value.int .i64 (1 + ofn % 255), Value.slice (some { block := w.heap.size + 1 + 1, off := 0 }) 52 52] rfl rfl 28 [Value.int .i64 0, Value.int .i64 0, Value.int .i64 0, Value.int .i64 0, Value.slice none 0 0] h0w.out (by kernel_rfl) (by simp) hone.out ?_))
  have hr0 := setRow_heap w2 w.heap.size _ #[Value.int .i64 (1 + gen % 4294967295), Value.int .i64 (rc % 65536), Value.int .i64 (n % (1 + ofn % 255)), Value.int .i64 (1 + ofn % 255), Value.slice (some { block := w.heap.size + 1 + 1, off := 0 }) 52 52] 28 _ h0w.out
  have hr1 : (w2.setRow w.heap.size #[Value.int .i64 (1 + gen % 4294967295), Value.int .i64 (rc % 65536), Value.int .i64 (n % (1 + ofn % 255)), Value.int .i64 (1 + ofn % 255), Value.slice (some { block := w.heap.size + 1 + 1, off := 0 }) 52 52]).heap[w.heap.size + 1 + 1]? = some (.cells (bs (makeD gen rc n ofn l).data).toArray 5 (0, 0)) := by
    rw [setRow_other _ _ _ _ (by omega), hrow2.out]
    congr 2
    rw [show zer (.int .u8 0) 52 = [] ++ zer (.int .u8 0) ((l.take 52).length + (52 - (l.take 52).length)) by rw [List.nil_append]; congr 1; simp; omega, splice_zer [] _ _ _ _ 0 (bs_length _) rfl, zer_bs, List.nil_append, ← bs_append]
    simp only [makeD, List.length_take]
    rw [show 52 - min 52 l.length = 52 - l.length by omega]
  have hbl : Below w.heap.size w (w2.setRow w.heap.size #[Value.int .i64 (1 + gen % 4294967295), Value.int .i64 (rc % 65536), Value.int .i64 (n % (1 + ofn % 255)), Value.int .i64 (1 + ofn % 255), Value.slice (some { block := w.heap.size + 1 + 1, off := 0 }) 52 52]) := below_setRow (hbel'.out.trans (hb2'.out.mono (by omega))) (Nat.le_refl _) _
  have hO : OwnB (w2.setRow w.heap.size #[Value.int .i64 (1 + gen % 4294967295), Value.int .i64 (rc % 65536), Value.int .i64 (n % (1 + ofn % 255)), Value.int .i64 (1 + ofn % 255), Value.slice (some { block := w.heap.size + 1 + 1, off := 0 }) 52 52]) w.heap.size (.slice (some { block := w.heap.size + 1 + 1, off := 0 }) 52 52) (makeD gen rc n ofn l).data := by
    unfold OwnB; rw [makeD_len]; exact own_row hr1 (by omega) (by rw [bs_length, makeD_len]) (by decide)
  exact bodyPost_ret (res_c rfl _ _ w.heap.size 28 #[Value.int .i64 (1 + gen % 4294967295), Value.int .i64 (rc % 65536), Value.int .i64 (n % (1 + ofn % 255)), Value.int .i64 (1 + ofn % 255), Value.slice (some { block := w.heap.size + 1 + 1, off := 0 }) 52 52] (0, 0) _ rfl hr0 Try.underlying28 (by kernel_rfl) (by kernel_rfl)) rfl ⟨_, rfl, hO, hbl⟩
end Go.Proofs.Ytjlhajnficneoaa
