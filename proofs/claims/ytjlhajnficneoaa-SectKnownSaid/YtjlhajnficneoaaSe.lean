/- The walks: Cut. -/
import Derived.Test.YtjlhajnficneoaaSd
namespace Go.Proofs.Ytjlhajnficneoaa
set_option linter.unusedVariables false
set_option linter.unusedSimpArgs false
open Go.RowKit

/-- how many Parts a record has -/
def recN (l : List Nat) : Nat := (l.length + 55) / 52
def full (l : List Nat) : List Nat := leN l.length 4 ++ l ++ List.replicate (recN l * 52 - 4 - l.length) 0
def partOf (gen rc : Int) (l : List Nat) (i : Nat) : PartD := ⟨gen, rc, i, recN l, ((full l).drop (i * 52)).take 52⟩
def cutOf (gen rc : Int) (l : List Nat) : List PartD := (List.range (recN l)).map (partOf gen rc l)
theorem full_len (l : List Nat) : (full l).length = recN l * 52 := by simp [full, leN_len, recN]; omega
theorem full_8 {l : List Nat} (h : Bytes8 l) : Bytes8 (full l) := ((leN_8 _ _).append h).append (fun x hx => by have := List.eq_of_mem_replicate hx; omega)
theorem cutOf_len (gen rc : Int) (l : List Nat) : (cutOf gen rc l).length = recN l := by simp [cutOf]
theorem cutOf_get (gen rc : Int) (l : List Nat) (i : Nat) (h : i < (cutOf gen rc l).length) : (cutOf gen rc l)[i] = partOf gen rc l i := by simp [cutOf]
theorem part_len (gen rc : Int) (l : List Nat) (i : Nat) (h : i < recN l) : (partOf gen rc l i).data.length = 52 := by
  simp only [partOf, List.length_take, List.length_drop, full_len]; omega

/-- these cells are these Parts', their bytes told by R -/
def PartsIn (R : Value → List Nat → Prop) (cells : List Value) (ps : List PartD) : Prop := ∀ i, ∀ h : i < ps.length, ∃ v, R v ps[i].data ∧
  cells[5 * i]? = some (.int .i64 ps[i].gen) ∧ cells[5 * i + 1]? = some (.int .i64 ps[i].rc) ∧ cells[5 * i + 2]? = some (.int .i64 ps[i].n) ∧ cells[5 * i + 3]? = some (.int .i64 ps[i].ofn) ∧ cells[5 * i + 4]? = some v
def OwnB (w : World) (base : Nat) (v : Value) (l : List Nat) : Prop := w.ownsRow base 5 1 v l.length (bs l)
theorem OwnB.other {w : World} {base g : Nat} {v : Value} {l : List Nat} (h : OwnB w base v l) {cs : Array Value} {t : TypeId} (hg : w.heap[g]? = some (.cells cs t (0, 0))) (ht : t ≠ 5) (cs' : Array Value) : OwnB (w.setRow g cs') base v l := by
  obtain ⟨h1, h2⟩ := h
  refine ⟨h1, ?_⟩
  rcases h2 with h2 | ⟨g', cap, cur, h3, h4, h5, h6⟩
  · exact .inl h2
  · refine .inr ⟨g', cap, cur, h3, h4, ?_, h6⟩
    have hne : g' ≠ g := by
      intro e; subst e
      rw [h5] at hg; cases hg; exact ht rfl
    rw [setRow_other _ _ _ _ hne]; exact h5
theorem OwnB.below {w w' : World} {base : Nat} {v : Value} {l : List Nat} (h : OwnB w base v l) (hb : Below w.heap.size w w') : OwnB w' base v l := own_below h hb

theorem splice_get (L : List Value) (off : Nat) (cs : List Value) (i : Nat) (h : off + cs.length ≤ L.length) : (splice L off cs)[i]? = if i < off then L[i]? else if i < off + cs.length then cs[i - off]? else L[i]? := by
  unfold splice
  have h1 : (L.take off).length = off := by simp; omega
  split
  · rename_i g
    rw [List.getElem?_append_left (by omega), List.getElem?_take_of_lt g]
  · rename_i g
    rw [List.getElem?_append_right (by omega), h1]
    split
    · rename_i g2
      rw [List.getElem?_append_left (by omega)]
    · rename_i g2
      rw [List.getElem?_append_right (by omega), List.getElem?_drop]
      congr 1
      omega
theorem PartsIn.snoc {R R' : Value → List Nat → Prop} {cur : List Value} {ps : List PartD} {p : PartD} {k : Nat} {v : Value} (h : PartsIn R cur ps) (hk : ps.length = k) (hR : ∀ v l, R v l → R' v l) (hv : R' v p.data) (hfit : k * 5 + 5 ≤ cur.length) :
    PartsIn R' (splice cur (k * 5) [.int .i64 p.gen, .int .i64 p.rc, .int .i64 p.n, .int .i64 p.ofn, v]) (ps ++ [p]) := by
  intro i hi
  have hg := fun j => splice_get cur (k * 5) [.int .i64 p.gen, .int .i64 p.rc, .int .i64 p.n, .int .i64 p.ofn, v] j (by simpa using hfit)
  by_cases hik : i < ps.length
  · obtain ⟨v', hv', h0, h1, h2, h3, h4⟩ := h i hik
    refine ⟨v', ?_, ?_⟩
    · rw [List.getElem_append_left hik]; exact hR _ _ hv'
    · rw [List.getElem_append_left hik]
      refine ⟨?_, ?_, ?_, ?_, ?_⟩
      · rw [hg, if_pos (by omega)]; exact h0
      · rw [hg, if_pos (by omega)]; exact h1
      · rw [hg, if_pos (by omega)]; exact h2
      · rw [hg, if_pos (by omega)]; exact h3
      · rw [hg, if_pos (by omega)]; exact h4
  · have hik2 : i = k := by simp at hi; omega
    subst hik2
    have e : (ps ++ [p])[i] = p := by rw [List.getElem_append_right (by omega)]; simp [hk]
    refine ⟨v, by rw [e]; exact hv, ?_⟩
    rw [e]
    refine ⟨?_, ?_, ?_, ?_, ?_⟩
    · rw [hg, if_neg (by omega), if_pos (by simp; omega), show 5 * i - i * 5 = 0 by omega]; rfl
    · rw [hg, if_neg (by omega), if_pos (by simp; omega), show 5 * i + 1 - i * 5 = 1 by omega]; rfl
    · rw [hg, if_neg (by omega), if_pos (by simp; omega), show 5 * i + 2 - i * 5 = 2 by omega]; rfl
    · rw [hg, if_neg (by omega), if_pos (by simp; omega), show 5 * i + 3 - i * 5 = 3 by omega]; rfl
    · rw [hg, if_neg (by omega), if_pos (by simp; omega), show 5 * i + 4 - i * 5 = 4 by omega]; rfl

theorem info33 : (Try.prog.info? 33).map (fun i => (i.zero, i.size, i.bytes)) = some (some (.agg #[.int .i64 0, .int .i64 0, .int .i64 0, .int .i64 0, .slice none 0 0]), 5, 56) := by kernel_rfl
theorem mk_parts (n : Nat) (hn : n ≤ 100000) : ∃ cur : List Value, cur.length = n * 5 ∧ ∀ w, (Instr.makeSlice 46 (.int .i64 (n : Int)) (.int .i64 (n : Int))).run Try.prog w = .ok (.slice (some ⟨w.heap.size, 0, none⟩) n n) (w.alloc (.cells cur.toArray 33)) := by
  obtain ⟨i0, hi, hz0, hz1, hz2⟩ := info_parts info33
  refine ⟨(madeCells (Value.cells (.agg #[.int .i64 0, .int .i64 0, .int .i64 0, .int .i64 0, .slice none 0 0])) (n * 5)).toList, by rw [Array.length_toList, size_madeCells], fun w => ?_⟩
  have := run_make (P := Try.prog) w 46 33 i0 _ Try.underlying46 hi hz0 .i64 .i64 (n : Int) (n : Int) (by omega) (by omega) (by rw [hz2]; omega) (by omega)
  rw [hz1] at this
  simp only [Int.toNat_natCast] at this
  rw [this]

def cutArg (gen rc : Int) : Prop := 1 ≤ gen ∧ gen ≤ 4294967295 ∧ 0 ≤ rc ∧ rc ≤ 65535

theorem cut_count (n : Nat) : (4 + (n : Int) + 52 - 1) / 52 = (((n + 55) / 52 : Nat) : Int) := by omega

set_option maxHeartbeats 2000000 in
set_option maxRecDepth 100000 in
theorem cut_ok (gen rc : Int) (A : Option Addr) (c : Nat) (l : List Nat) (w : World) (hok : cutArg gen rc) (hn : recN l ≤ 255) (hr : Rd w A (bs l)) (h8 : Bytes8 l) (hc : l.length ≤ c) :
    Calls Try.prog 22 #[.int .i64 gen, .int .i64 rc, .slice A l.length c] w fun e w' => ∃ v cells, e = .returned (.tuple #[v, .int .i64 0]) ∧ w'.ownsRow w.heap.size 33 5 v (recN l) cells ∧ PartsIn (OwnB w' w.heap.size) cells (cutOf gen rc l) ∧ Below w.heap.size w w' := by
  obtain ⟨a1, a2, a3, a4⟩ := hok
  have hl : l.length ≤ 13256 := by unfold recN at hn; omega
  have e1 : decide (1 ≤ gen ∧ gen ≤ 4294967295) = true := by simp; omega
  have e2 : decide (0 ≤ rc ∧ rc ≤ 65535) = true := by simp; omega
  have hr' := Lib.hid hr
  have h8' := Lib.hid h8
  clear hr h8
  go_enter Try.func22, Try.ntmps22
  go_upto_block 0 with fail
  rw [cut_count]
  obtain ⟨M, hM⟩ : ∃ M, M = recN l := ⟨_, rfl⟩
  have hMl : 52 * M ≤ l.length + 55 ∧ l.length + 4 ≤ 52 * M := by rw [hM]; unfold recN; omega
  rw [show (l.length + 55) / 52 = M from hM.symm]
  rw [← hM] at hn
  have hM' := Lib.hid hM
  clear hM
  have hmk : ∀ w, (Instr.makeSlice 22 (.int .i64 ((M : Int) * 52)) (.int .i64 ((M : Int) * 52))).run Try.prog w = .ok (.slice (some ⟨w.heap.size, 0, none⟩) (M * 52) (M * 52)) (w.alloc (.cells (zer (.int .u8 0) (M * 52)).toArray 5)) := by
    intro w
    have := mk_row (P := Try.prog) 22 5 (.int .u8 0) 1 Try.underlying22 info5 rfl (M * 52) (by omega) (by omega) w
    rw [Int.natCast_mul] at this
    exact this
  have hd : decide (255 < M) = false := by simp; omega
  have hd2 : decide ((M : Int) > 255) = false := by simp; omega
  go_wp2_with (go_at_call 26; refine (win26_any _ _ _ _).mono ?_; rintro e w' ⟨rfl, rfl⟩)
  refine (lay_any w.heap.size 0 4 (M * 52) (zer (.int .u8 0) (M * 52)) l.length _ (by exact heap_alloc_new w _) (by rw [zer_length]; omega) (by decide) (by omega)).mono ?_
  rintro e w1 ⟨rfl, hw1⟩
  have hrow1 : w1.heap[w.heap.size]? = some (.cells (bs (leN l.length 4) ++ zer (.int .u8 0) (M * 52 - 4)).toArray 5 (0, 0)) := by
    rw [hw1, setRow_heap _ _ _ _ 5 _ (heap_alloc_new w _)]
    rw [show zer (.int .u8 0) (M * 52) = [] ++ zer (.int .u8 0) (4 + (M * 52 - 4)) by rw [List.nil_append]; congr 1; omega, splice_zer [] _ _ 4 (M * 52 - 4) 0 (by rw [bs_length, leN_len]) rfl, List.nil_append]
  have hbel1 : Below w.heap.size w w1 := by rw [hw1]; exact below_setRow (bl_alloc (Below.refl _ _) _) (Nat.le_refl _) _
  have hrow1' := Lib.hid hrow1
  have hbel1' := Lib.hid hbel1
  clear hrow1 hbel1 hw1 hmk
  obtain ⟨cur0, hcur0, hmk2⟩ := mk_parts M (by omega)
  have hcur0' := Lib.hid hcur0
  clear hcur0
  have hcp : Hid (0 < (bs l).length → ∃ ad, A = some ad ∧ ∀ j v, (bs l)[j]? = some v → w1.cell? (ad.add j) = some v) := Lib.hid (fun hpos => by
    obtain ⟨ad, hA, -⟩ := hr'.out 0 hpos
    subst hA
    exact ⟨ad, rfl, (hr'.out.below hbel1'.out).cells⟩)
  have hmin : Hid ((bs l).length = Nat.min l.length (M * 52 - 4)) := Lib.hid (by rw [bs_length]; exact (Nat.min_eq_left (by omega)).symm)
  have hfit : Hid (4 + (bs l).length ≤ (bs (leN l.length 4) ++ zer (.int .u8 0) (M * 52 - 4)).length) := Lib.hid (by simp [bs_length, leN_len, zer_length]; omega)
  go_wp2_with (refine wpList_copy_splice rfl _ _ 22 22 rfl 5 Try.underlying22 (by kernel_rfl) (some ⟨w.heap.size, 4, none⟩) A (M * 52 - 4) (M * 52 - 4) l.length c rfl rfl w.heap.size 4 (bs (leN l.length 4) ++ zer (.int .u8 0) (M * 52 - 4)) 5 hrow1'.out (bs l) hmin.out (fun hpos => ⟨rfl, hcp.out hpos⟩) hfit.out (bs_one _) w.heap.size w hbel1'.out (Nat.le_refl _) ?_; intro w2 hrow2 hbel2)
  have hrow2n := hrow2.out
  rw [show splice (bs (leN l.length 4) ++ zer (.int .u8 0) (M * 52 - 4)) 4 (bs l) = bs (full l) by
    rw [show M * 52 - 4 = l.length + (M * 52 - 4 - l.length) by omega, splice_zer _ _ _ l.length _ _ (bs_length l) (by rw [bs_length, leN_len])]
    unfold full
    rw [← hM'.out, bs_append, bs_append, ← zer_bs]] at hrow2n
  have hrow2' := Lib.hid hrow2n
  have hbel2' := Lib.hid hbel2
  have hs2 := hbel2.size
  clear hrow2n hrow2 hbel2 hcp hmin hfit hrow1'
  go_loopw [46] (fun i wr => ∃ (k : Nat) (cur : List Value), i = .int .i64 k ∧ k ≤ M ∧ wr.heap[w.heap.size]? = some (.cells (bs (full l)).toArray 5 (0, 0)) ∧ wr.heap[w2.heap.size]? = some (.cells cur.toArray 33 (0, 0)) ∧ cur.length = M * 5 ∧ PartsIn (OwnB wr w.heap.size) cur ((cutOf gen rc l).take k) ∧ Below w.heap.size w wr) (fun i _ => M - (intOf i).toNat)
  case atStart => exact ⟨0, cur0, rfl, by omega, (Below.heap_alloc _ _ _ (Array.getElem?_eq_some_iff.1 hrow2'.out).1).trans hrow2'.out, heap_alloc_new w2 _, hcur0'.out, fun i hi => by simp at hi, hbel2'.out.alloc hs2 _⟩
  case round =>
    obtain ⟨k, cur, rfl, hk, hfull, hout, hcl, hin, hbel⟩ := hrel
    have hfull' := Lib.hid hfull
    have hout' := Lib.hid hout
    have hcl' := Lib.hid hcl
    have hin' := Lib.hid hin
    have hbel' := Lib.hid hbel
    have hsz := hbel.size
    clear hfull hout hcl hin hbel
    by_cases hlt : k < M
    · have hd3 : decide (k < M) = true := by simpa using hlt
      have hdat : Hid (((full l).drop (k * 52)).take 52 = (partOf gen rc l k).data) := Lib.hid rfl
      have hlen : Hid ((partOf gen rc l k).data.length = (k + 1) * 52 - k * 52) := Lib.hid (by rw [part_len gen rc l k (by rw [← hM'.out]; exact hlt)]; omega)
      have hrd : Hid (Rd wr (some ⟨w.heap.size, k * 52, none⟩) (bs (partOf gen rc l k).data)) := Lib.hid (by
        rw [← hdat.out]
        have := ((rd_row hfull'.out).drop (k * 52)).take 52
        rw [Nat.zero_add] at this
        simpa [bs, enc, List.map_take, List.map_drop] using this)
      go_wp2_with fail
      refine (clone_any (some ⟨w.heap.size, k * 52, none⟩) ((k + 1) * 52 - k * 52) (M * 52 - k * 52) _ wr hlen.out hrd.out (fun e => by cases e) (by omega)).mono ?_
      rintro e w3 ⟨v, rfl, hown, hb3⟩
      have hown' : OwnB w3 w.heap.size v (partOf gen rc l k).data := by
        have := own_weaken hown hsz
        unfold OwnB
        rw [hlen.out]; exact this
      obtain ⟨A3, c3, rfl, -⟩ := Rd.own hown
      have hown3 := Lib.hid hown'
      have hb3' := Lib.hid hb3
      clear hown hown' hb3
      have hout3 : Hid (w3.heap[w2.heap.size]? = some (.cells cur.toArray 33 (0, 0))) := Lib.hid (bl_row hb3'.out hout'.out)
      have hfit3 : Hid (k * 5 + 5 ≤ cur.length) := Lib.hid (by rw [hcl'.out]; omega)
      have hlt2 : w.heap.size < w2.heap.size := (Array.getElem?_eq_some_iff.1 hrow2'.out).1
      have hone : Hid (#[Value.int .i64 gen, .int .i64 rc, .int .i64 k, .int .i64 M, .slice A3 ((k + 1) * 52 - k * 52) c3].all (·.oneCell') = true) := Lib.hid (by simp [Value.oneCell'])
      go_wp2_with (refine store_mid (by rfl) 33 _ _ rfl w2.heap.size (k * 5) #[.int .i64 gen, .int .i64 rc, .int .i64 k, .int .i64 M, .slice A3 ((k + 1) * 52 - k * 52) c3] rfl rfl 33 cur hout3.out (by kernel_rfl) hfit3.out hone.out ?_)
      refine ⟨⟨k + 1, _, by go_num, by omega, ?_, setRow_heap _ _ _ _ 33 _ hout3.out, ?_, ?_, ?_⟩, by simp [intOf]; omega⟩
      · rw [setRow_other _ _ _ _ (by omega)]; exact bl_row hb3'.out hfull'.out
      · rw [length_splice _ _ _ hfit3.out]; exact hcl'.out
      · have hcl : k < (cutOf gen rc l).length := by rw [cutOf_len, ← hM'.out]; exact hlt
        rw [List.take_succ_eq_append_getElem hcl, cutOf_get]
        have := hin'.out.snoc (p := partOf gen rc l k) (k := k) (v := .slice A3 ((k + 1) * 52 - k * 52) c3) (R' := OwnB (w3.setRow w2.heap.size (splice cur (k * 5) [.int .i64 gen, .int .i64 rc, .int .i64 k, .int .i64 M, .slice A3 ((k + 1) * 52 - k * 52) c3]).toArray) w.heap.size)
          (by rw [List.length_take]; omega) (fun v l h => (h.below hb3'.out).other hout3.out (by decide) _) (hown3.out.other hout3.out (by decide) _) hfit3.out
        simp only [partOf, ← hM'.out] at this ⊢
        exact this
      · exact below_setRow (bl_then hbel'.out hsz hb3'.out) (by omega) _
    · have hd3 : decide (k < M) = false := by simpa using hlt
      have hkM : Hid (k = M) := Lib.hid (by omega)
      go_wp2_with fail
      go_ret2
      refine ⟨_, cur, rfl, ?_, ?_, hbel'.out⟩
      · rw [← hM'.out]; exact own_row hout'.out (by omega) hcl'.out (by omega)
      · have := hin'.out
        rwa [List.take_of_length_le (by rw [cutOf_len, ← hM'.out, hkM.out]; exact Nat.le_refl _)] at this

theorem cut_arg (gen rc : Int) (A : Option Addr) (c n : Nat) (w : World) (hno : ¬ cutArg gen rc) (hn : n ≤ 100000) :
    Calls Try.prog 22 #[.int .i64 gen, .int .i64 rc, .slice A n c] w fun e w' => e = .returned (.tuple #[.slice none 0 0, .int .i64 1]) ∧ w = w' := by
  by_cases h1 : 1 ≤ gen ∧ gen ≤ 4294967295
  · have h2 : ¬ (0 ≤ rc ∧ rc ≤ 65535) := fun h2 => hno ⟨h1.1, h1.2, h2.1, h2.2⟩
    have e1 := decide_eq_true h1
    have e2 := decide_eq_false h2
    clear h1 h2 hno
    go_enter Try.func22, Try.ntmps22
    go_wp2_with (go_at_call 26; refine (win26_any _ _ _ _).mono ?_; rintro e w' ⟨rfl, rfl⟩)
    go_ret2
    exact ⟨rfl, rfl⟩
  · have e1 := decide_eq_false h1
    clear h1 hno
    go_enter Try.func22, Try.ntmps22
    go_wp2_with (go_at_call 26; refine (win26_any _ _ _ _).mono ?_; rintro e w' ⟨rfl, rfl⟩)
    go_ret2
    exact ⟨rfl, rfl⟩

theorem cut_long (gen rc : Int) (A : Option Addr) (c : Nat) (l : List Nat) (w : World) (hok : cutArg gen rc) (hn : 255 < recN l) (hl : l.length ≤ 100000) :
    Calls Try.prog 22 #[.int .i64 gen, .int .i64 rc, .slice A l.length c] w fun e w' => e = .returned (.tuple #[.slice none 0 0, .int .i64 2]) ∧ w = w' := by
  obtain ⟨a1, a2, a3, a4⟩ := hok
  have e1 : decide (1 ≤ gen ∧ gen ≤ 4294967295) = true := by simp; omega
  have e2 : decide (0 ≤ rc ∧ rc ≤ 65535) = true := by simp; omega
  go_enter Try.func22, Try.ntmps22
  go_upto_block 0 with fail
  rw [cut_count]
  obtain ⟨M, hM⟩ : ∃ M, M = recN l := ⟨_, rfl⟩
  rw [show (l.length + 55) / 52 = M from hM.symm]
  rw [← hM] at hn
  clear hM
  have hd : decide (255 < M) = true := by simp; omega
  go_wp2_with (go_at_call 26; refine (win26_any _ _ _ _).mono ?_; rintro e w' ⟨rfl, rfl⟩)
  go_ret2
  exact ⟨rfl, rfl⟩
end Go.Proofs.Ytjlhajnficneoaa
