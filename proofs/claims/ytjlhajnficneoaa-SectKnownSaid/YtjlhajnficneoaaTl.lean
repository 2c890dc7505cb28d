/- The walk of SectKnown. -/
import Derived.Test.YtjlhajnficneoaaTj
import Derived.Test.YtjlhajnficneoaaTm
import Derived.Sort.AtCall
import Derived.Deep.RegionHeld3
import Derived.Lib.SlBytesConst
namespace Go.Proofs.Ytjlhajnficneoaa
set_option linter.unusedVariables false
set_option linter.unusedSimpArgs false
open Go.RowKit

def zs (n : Nat) : List Nat := List.replicate n 0
theorem zs_8 (n : Nat) : Bytes8 (zs n) := fun x hx => by have := List.eq_of_mem_replicate hx; omega
theorem zs_len (n : Nat) : (zs n).length = n := by simp [zs]
def kp : PartD := ⟨16909060, 1286, 1, 2, zs 52⟩
theorem kp_ok : kp.ok := by unfold PartD.ok kp; simp [zs]
theorem ca79 : cutArg 7 9 := by unfold cutArg; omega
theorem ca10 : cutArg 1 0 := by unfold cutArg; omega
theorem rd_zs (w : World) (n : Nat) : Rd (w.alloc (.cells (zer (.int .u8 0) n).toArray 5)) (some ⟨w.heap.size, 0, none⟩) (bs (zs n)) := by
  have := rd_new w (zer (.int .u8 0) n) 5
  rw [show bs (zs n) = zer (.int .u8 0) n from (zer_bs n).symm]
  exact this
theorem parse_zs : parseD (zs 64) = (zeroP, false) := by
  unfold parseD
  rw [if_neg]
  rintro ⟨-, h, -⟩
  exact absurd h.1 (by decide)

theorem slb_some {w : World} {v : Value} {l : List Nat} (h : SlB w v l) (hl : 0 < l.length) : ∃ ad c, v = .slice (some ad) l.length c ∧ Rd w (some ad) (bs l) := by
  obtain ⟨A, c, rfl, hr, hA⟩ := h
  obtain ⟨ad, rfl, -⟩ := hr 0 (by rw [bs_length]; exact hl)
  exact ⟨ad, c, rfl, hr⟩
theorem conv_zs (w : World) {Z52 : ByteArray} (hZ : strB (zs 52) = Z52) : (convert 22 9 (.slice (some ⟨w.heap.size, 0, none⟩) 52 52)).run Try.prog (w.alloc (.cells (zer (.int .u8 0) 52).toArray 5)) = .ok (.string Z52) (w.alloc (.cells (zer (.int .u8 0) 52).toArray 5)) := by
  rw [← hZ]
  exact str_any _ 52 52 (zs 52) _ (zs_len 52) (rd_zs w 52) (fun e => by cases e)
theorem conv_zsd (w : World) {Z52 : ByteArray} (hZ : strB (zs 52) = Z52) : (convert 22 9 (.slice (some ⟨w.heap.size, 0, none⟩) 52 52)).run Try.prog (w.alloc (.cells (zer (.int .u8 0) 52).toArray 5)).drew = .ok (.string Z52) (w.alloc (.cells (zer (.int .u8 0) 52).toArray 5)).drew := conv_zs w.drew hZ
theorem known_cells {wz : World} {base g2 g3 g4 cap2 : Nat} {Z52 : ByteArray} (ho2 : wz.ownsRow base 5 1 (.slice (some ⟨g2, 0, none⟩) 64 cap2) 64 (bs kp.bytes)) (hat3 : PartsAt wz g3 (cutOf 7 9 (zs 49))) (hat4 : PartsAt wz g4 (cutOf 1 0 [])) (hZ : strB (zs 52) = Z52) :
    ∃ (gd : Addr) (cd : Nat) (gm : Addr) (cm : Nat), ∀ w', Below wz.heap.size wz w' → w'.cell? ⟨g3, 0, none⟩ = some (.int .i64 7) ∧ w'.cell? ⟨g3, 1, none⟩ = some (.int .i64 9) ∧ w'.cell? ⟨g3, 7, none⟩ = some (.int .i64 1) ∧ w'.cell? ⟨g3, 8, none⟩ = some (.int .i64 2) ∧ w'.cell? ⟨g3, 4, none⟩ = some (.slice (some gd) 52 cd) ∧ w'.cell? gd = some (.int .u8 49) ∧ w'.cell? ⟨g4, 4, none⟩ = some (.slice (some gm) 52 cm) ∧ (convert 22 9 (.slice (some ⟨g2, 0, none⟩) 8 cap2)).run Try.prog w' = .ok (.string ⟨#[4, 3, 2, 1, 6, 5, 1, 2]⟩) w' ∧ (convert 22 9 (.slice (some gm) 52 cm)).run Try.prog w' = .ok (.string Z52) w' := by
  obtain ⟨v0, hs0, x0, x1, x2, x3, x4⟩ := hat3 0 (by decide)
  obtain ⟨v1, hs1, y0, y1, y2, y3, y4⟩ := hat3 1 (by decide)
  obtain ⟨v2, hs2, z0, z1, z2, z3, z4⟩ := hat4 0 (by decide)
  rw [show (cutOf 7 9 (zs 49))[0].data = 49 :: zs 51 by decide] at hs0
  rw [show (cutOf 1 0 [])[0].data = zs 52 by decide] at hs2
  obtain ⟨gd, cd, rfl, hr0⟩ := slb_some hs0 (by decide)
  obtain ⟨gm, cm, rfl, hr2⟩ := slb_some hs2 (by decide)
  have hd0 : wz.cell? gd = some (.int .u8 49) := by
    have := hr0.get 0 (by decide)
    simpa [Addr.add, bs, enc, by_] using this
  have hr8 : Rd wz (some ⟨g2, 0, none⟩) (bs [4, 3, 2, 1, 6, 5, 1, 2]) := by
    obtain ⟨A', c', e, -, -, h, -⟩ := Rd.own ho2
    cases e
    have h1 := h.take 8
    have e8 : (bs kp.bytes).take 8 = bs [4, 3, 2, 1, 6, 5, 1, 2] := by
      have : kp.bytes.take 8 = [4, 3, 2, 1, 6, 5, 1, 2] := by decide +kernel
      rw [← this]
      simp [bs, enc, List.map_take]
    rwa [e8] at h1
  refine ⟨gd, cd, gm, cm, fun w' hb => ⟨bl_cell hb x0, bl_cell hb x1, bl_cell hb y2, bl_cell hb y3, bl_cell hb x4, bl_cell hb hd0, bl_cell hb z4, ?_, ?_⟩⟩
  · exact str_any _ 8 cap2 [4, 3, 2, 1, 6, 5, 1, 2] w' rfl (hr8.below hb) (fun e => by cases e)
  · rw [← hZ]
    exact str_any _ 52 cm (zs 52) w' (zs_len 52) (hr2.below hb) (fun e => by cases e)

/-- a constant's bytes: the row is marked; another block lies behind it already -/
theorem conv_mid (w : World) (C : Array Value) (o : Obj) (n c : Nat) :
    (convert 22 22 (.slice (some ⟨w.heap.size, 0, none⟩) n c)).run Try.prog ((w.alloc (.cells C 5)).alloc o) = .ok (.slice (some ⟨w.heap.size, 0, none⟩) n c) ((w.alloc (.cells C 5 (C.size, C.size + 1))).alloc o) := by
  have hrow : ((w.alloc (.cells C 5)).alloc o).heap[w.heap.size]? = some (.cells C 5) := blk_alloc (heap_alloc_new w _) o
  have hsh : ((w.alloc (.cells C 5)).alloc o).shape? w.heap.size = some (5, C.size) := by unfold World.shape?; rw [hrow]
  have hfr : ((w.alloc (.cells C 5)).alloc o).freeze ⟨w.heap.size, C.size, none⟩ 1 = (w.alloc (.cells C 5 (C.size, C.size + 1))).alloc o := by
    unfold World.freeze
    rw [if_neg (by decide)]
    have hm : ∀ (a : Array Obj) (x y : Obj) (f : Obj → Obj), ((a.push x).push y).modify a.size f = (a.push (f x)).push y := by
      intro a x y f
      apply Array.ext
      · simp
      · intro i h1 h2
        simp only [Array.getElem_modify, Array.getElem_push]
        simp at h1
        by_cases h : a.size = i
        · subst h
          simp
        · by_cases hi : i < a.size
          · simp [h, hi, show i < a.size + 1 by omega]
          · have : i = a.size + 1 := by omega
            subst this
            simp
    show ({ (w.alloc (.cells C 5)).alloc o with heap := ((w.heap.push (.cells C 5)).push o).modify w.heap.size _ } : World) = _
    rw [hm]
    rfl
  simp [convert, run_underlying Try.underlying22, run_underlying Try.underlying5, markStringish, hsh]
  exact hfr
theorem row_n0 (w : World) (o : Obj) : (w.alloc o).drew.heap[w.heap.size]? = some o := heap_alloc_new w o
theorem row_n1 (w : World) (o o' : Obj) : ((w.alloc o).alloc o').drew.heap[w.heap.size]? = some o := blk_alloc (heap_alloc_new w o) o'
theorem row_n2 (w : World) (o o' : Obj) : ((w.alloc o).alloc o').drew.heap[w.heap.size + 1]? = some o' := by
  have := heap_alloc_new (w.alloc o) o'
  rw [World.size_alloc] at this
  exact this
theorem rd_marked {w : World} {g : Nat} {xs : List Value} {t : TypeId} {fr : Nat × Nat} (h : w.heap[g]? = some (.cells xs.toArray t fr)) : Rd w (some ⟨g, 0, none⟩) xs := by
  intro i hi
  refine ⟨_, rfl, ?_⟩
  rw [add_plain, cell_of_row _ _ i xs.toArray t fr h]
  simp [hi]
theorem crc_nine (b : Nat) (w : World) (h : w.heap[b]? = some (.cells #[.int .u8 49, .int .u8 50, .int .u8 51, .int .u8 52, .int .u8 53, .int .u8 54, .int .u8 55, .int .u8 56, .int .u8 57] 5 (9, 10))) :
    Calls Try.prog 13 #[.slice (some ⟨b, 0, none⟩) 9 9] w fun e w' => e = .returned (.int .u32 3421780262) ∧ w = w' := by
  have := crc_any (some ⟨b, 0, none⟩) 9 [49, 50, 51, 52, 53, 54, 55, 56, 57] w (rd_marked (xs := bs [49, 50, 51, 52, 53, 54, 55, 56, 57]) h) (by intro x hx; simp at hx; omega) (by decide) (by decide)
  rw [show crc [49, 50, 51, 52, 53, 54, 55, 56, 57] = 3421780262 by decide +kernel] at this
  exact this
theorem crc_nought (b : Nat) (w : World) (h : w.heap[b]? = some (.cells #[.int .u8 0] 5 (0, 0))) :
    Calls Try.prog 13 #[.slice (some ⟨b, 0, none⟩) 1 1] w fun e w' => e = .returned (.int .u32 3523407757) ∧ w = w' := by
  have := crc_any (some ⟨b, 0, none⟩) 1 [0] w (rd_row (xs := bs [0]) h) (by intro x hx; simp at hx; omega) (by decide) (by decide)
  rw [show crc [0] = 3523407757 by decide +kernel] at this
  exact this

set_option maxHeartbeats 400000000 in
set_option maxRecDepth 100000 in
theorem sknown_walk (w : World) (which : Int) : Calls Try.prog 11 #[.int .i64 which] w fun e w' => e = .returned (.bool true) ∧ Below w.heap.size w w' := by
  have hmk52 : ∀ w, (Instr.makeSlice 22 (.int .i64 52) (.int .i64 52)).run Try.prog w = .ok (.slice (some ⟨w.heap.size, 0, none⟩) 52 52) (w.alloc (.cells (zer (.int .u8 0) 52).toArray 5)) := mk_row (P := Try.prog) 22 5 (.int .u8 0) 1 Try.underlying22 info5 rfl 52 (by omega) (by omega)
  have hmk49 : ∀ w, (Instr.makeSlice 22 (.int .i64 49) (.int .i64 49)).run Try.prog w = .ok (.slice (some ⟨w.heap.size, 0, none⟩) 49 49) (w.alloc (.cells (zer (.int .u8 0) 49).toArray 5)) := mk_row (P := Try.prog) 22 5 (.int .u8 0) 1 Try.underlying22 info5 rfl 49 (by omega) (by omega)
  have hmk64 : ∀ w, (Instr.makeSlice 22 (.int .i64 64) (.int .i64 64)).run Try.prog w = .ok (.slice (some ⟨w.heap.size, 0, none⟩) 64 64) (w.alloc (.cells (zer (.int .u8 0) 64).toArray 5)) := mk_row (P := Try.prog) 22 5 (.int .u8 0) 1 Try.underlying22 info5 rfl 64 (by omega) (by omega)
  have hB := Lib.hid (Below.refl w.heap.size w)
  go_enter Try.func11, Try.ntmps11
  go_upto_region 10 with (first
    | (go_at_call 12; refine (known_any _).mono ?_; rintro e w1 ⟨rfl, hb1⟩; replace hB := Lib.hid (bl_then hB.out hB.out.size hb1); clear hb1)
    | (go_at_call 16; have hz := rd_zs w1 52; refine (bytes_ok kp (some ⟨w1.heap.size, 0, none⟩) 52 _ kp_ok hz (zs_8 52)).mono ?_; clear hz; rintro e w2 ⟨v2, rfl, ho2, hb2⟩; obtain ⟨g2, cap2, rfl, hcap2, hg2⟩ := own_some ho2 (by decide); replace ho2 := Lib.hid ho2; replace hB := Lib.hid (bl_then (bl_alloc hB.out _) (by have := hB.out.size; simp; omega) hb2); clear hb2)
    | (go_at_call_of 22 (Value.int .i64 7); have hz := rd_zs w2 49; have hh := cut_ok 7 9 (some ⟨w2.heap.size, 0, none⟩) 49 (zs 49) (w2.alloc (.cells (zer (.int .u8 0) 49).toArray 5)) ca79 (by decide) hz (zs_8 49) (by decide); rw [show recN (zs 49) = 2 from by decide] at hh; refine hh.mono ?_; clear hh hz; rintro e w3 ⟨v3, cells3, rfl, ho3, hp3, hb3⟩; obtain ⟨g3, cap3, rfl, hcap3, hg3⟩ := own_some ho3 (by decide); replace ho2 := Lib.hid (own_below ho2.out (bl_then (bl_alloc (Below.refl _ _) _) (by simp) hb3)); have hat3 := Lib.hid (PartsIn.at_ ho3 hp3 (fun v l h => OwnB.slB h)); replace hB := Lib.hid (bl_then (bl_alloc hB.out _) (by have := hB.out.size; simp; omega) hb3); clear hb3 ho3 hp3)
    | (go_at_call_of 22 (Value.int .i64 65536); refine (cut_arg 1 65536 none 0 0 _ (by unfold cutArg; omega) (by decide)).mono ?_; rintro e w' ⟨rfl, rfl⟩)
    | (go_at_call_of 22 (Value.int .i64 1); have hh := cut_ok 1 0 none 0 [] w3 ca10 (by decide) (Rd.nil _ _) Bytes8.nil (by decide); rw [show recN [] = 1 from by decide] at hh; refine hh.mono ?_; clear hh; rintro e w4 ⟨v4, cells4, rfl, ho4, hp4, hb4⟩; obtain ⟨g4, cap4, rfl, hcap4, hg4⟩ := own_some ho4 (by decide); replace ho2 := Lib.hid (own_below ho2.out hb4); replace hat3 := Lib.hid (hat3.out.below hb4); have hat4 := Lib.hid (PartsIn.at_ ho4 hp4 (fun v l h => OwnB.slB h)); replace hB := Lib.hid (bl_then hB.out hB.out.size hb4); clear hb4 ho4 hp4)
    | (go_at_call 22; refine (cut_arg 0 0 none 0 0 _ (by unfold cutArg; omega) (by decide)).mono ?_; rintro e w' ⟨rfl, rfl⟩)
    | (go_at_call 24; refine (join_none none 0 _).mono ?_; rintro e w' ⟨rfl, rfl⟩)
    | (go_at_call 17; have hz := rd_zs w4 64; have hh := parse_any (some ⟨w4.heap.size, 0, none⟩) 64 (zs 64) (w4.alloc (.cells (zer (.int .u8 0) 64).toArray 5)) hz (zs_8 64) (by decide) (by decide); rw [parse_zs] at hh; refine hh.mono ?_; clear hh hz; rintro e w5 ⟨v5, rfl, ho5, hb5⟩; obtain ⟨A5, c5, rfl, -⟩ := own_shape ho5; simp only [PartD.val, zeroP]; replace ho2 := Lib.hid (own_below ho2.out (bl_then (bl_alloc (Below.refl _ _) _) (by simp) hb5)); replace hat3 := Lib.hid (hat3.out.below (bl_then (bl_alloc (Below.refl _ _) _) (by simp) hb5)); replace hat4 := Lib.hid (hat4.out.below (bl_then (bl_alloc (Below.refl _ _) _) (by simp) hb5)); replace hB := Lib.hid (bl_then (bl_alloc hB.out _) (by have := hB.out.size; simp; omega) hb5); clear hb5 ho5))
  have hBz := Lib.hid (bl_alloc hB.out (.cells #[.int .i64 0, .int .i64 0, .int .i64 0, .int .i64 0, .slice A5 0 c5] 33))
  replace ho2 := Lib.hid (own_below ho2.out (bl_alloc (Below.refl _ _) (.cells #[.int .i64 0, .int .i64 0, .int .i64 0, .int .i64 0, .slice A5 0 c5] 33)))
  replace hat3 := Lib.hid (hat3.out.below (bl_alloc (Below.refl _ _) (.cells #[.int .i64 0, .int .i64 0, .int .i64 0, .int .i64 0, .slice A5 0 c5] 33)))
  replace hat4 := Lib.hid (hat4.out.below (bl_alloc (Below.refl _ _) (.cells #[.int .i64 0, .int .i64 0, .int .i64 0, .int .i64 0, .slice A5 0 c5] 33)))
  clear hB
  generalize w5.alloc (.cells #[.int .i64 0, .int .i64 0, .int .i64 0, .int .i64 0, .slice A5 0 c5] 33) = wz at *
  obtain ⟨Z52, hZ52⟩ : ∃ s, strB (zs 52) = s := ⟨_, rfl⟩
  obtain ⟨gd, cd, gm, cm, hS⟩ := known_cells ho2.out hat3.out hat4.out hZ52
  replace hS := Lib.hid hS
  have c8 : (8 : Int) ≤ (cap2 : Int) := by omega
  clear ho2 hat3 hat4 hmk49 hmk64
  have hcz := Lib.hid (fun w => conv_zs w hZ52)
  replace hZ52 := Lib.hid hZ52
  have kc1 : (convert 22 22 (.slice (some ⟨wz.heap.size, 0, none⟩) 9 9)).run Try.prog (wz.alloc (.cells #[.int .u8 49, .int .u8 50, .int .u8 51, .int .u8 52, .int .u8 53, .int .u8 54, .int .u8 55, .int .u8 56, .int .u8 57] 5)).drew = .ok (.slice (some ⟨wz.heap.size, 0, none⟩) 9 9) (wz.alloc (.cells #[.int .u8 49, .int .u8 50, .int .u8 51, .int .u8 52, .int .u8 53, .int .u8 54, .int .u8 55, .int .u8 56, .int .u8 57] 5 (9, 10))).drew := Lib.run_convert_bytes_const (P := Try.prog) wz.drew 22 5 #[.int .u8 49, .int .u8 50, .int .u8 51, .int .u8 52, .int .u8 53, .int .u8 54, .int .u8 55, .int .u8 56, .int .u8 57] 9 9 Try.underlying22 Try.underlying5
  have kc2 : (convert 22 22 (.slice (some ⟨wz.heap.size + 1, 0, none⟩) 9 9)).run Try.prog ((wz.alloc (.cells #[.int .u8 0] 5)).alloc (.cells #[.int .u8 49, .int .u8 50, .int .u8 51, .int .u8 52, .int .u8 53, .int .u8 54, .int .u8 55, .int .u8 56, .int .u8 57] 5)).drew = .ok (.slice (some ⟨wz.heap.size + 1, 0, none⟩) 9 9) ((wz.alloc (.cells #[.int .u8 0] 5)).alloc (.cells #[.int .u8 49, .int .u8 50, .int .u8 51, .int .u8 52, .int .u8 53, .int .u8 54, .int .u8 55, .int .u8 56, .int .u8 57] 5 (9, 10))).drew := by
    have := Lib.run_convert_bytes_const (P := Try.prog) (wz.alloc (.cells #[.int .u8 0] 5)).drew 22 5 #[.int .u8 49, .int .u8 50, .int .u8 51, .int .u8 52, .int .u8 53, .int .u8 54, .int .u8 55, .int .u8 56, .int .u8 57] 9 9 Try.underlying22 Try.underlying5
    rw [show (wz.alloc (.cells #[.int .u8 0] 5)).drew.heap.size = wz.heap.size + 1 from World.size_alloc _ _] at this
    exact this
  have kc3 : (convert 22 22 (.slice (some ⟨wz.heap.size, 0, none⟩) 9 9)).run Try.prog ((wz.alloc (.cells #[.int .u8 49, .int .u8 50, .int .u8 51, .int .u8 52, .int .u8 53, .int .u8 54, .int .u8 55, .int .u8 56, .int .u8 57] 5)).alloc (.cells #[.int .u8 0] 5)).drew = .ok (.slice (some ⟨wz.heap.size, 0, none⟩) 9 9) ((wz.alloc (.cells #[.int .u8 49, .int .u8 50, .int .u8 51, .int .u8 52, .int .u8 53, .int .u8 54, .int .u8 55, .int .u8 56, .int .u8 57] 5 (9, 10))).alloc (.cells #[.int .u8 0] 5)).drew := conv_mid wz.drew #[.int .u8 49, .int .u8 50, .int .u8 51, .int .u8 52, .int .u8 53, .int .u8 54, .int .u8 55, .int .u8 56, .int .u8 57] (.cells #[.int .u8 0] 5) 9 9
  replace kc1 := Lib.hid kc1
  replace kc2 := Lib.hid kc2
  replace kc3 := Lib.hid kc3
  simp only [List.append_eq, List.cons_append, List.nil_append]
  refine wp_region_heldR (S := fun w' => Below wz.heap.size wz w') opsK _ (by kernel_rfl) liK (by kernel_rfl) nsK ((Below.refl _ _).drew) (fun hops hns hHeld => ?_)
  refine wpAnyH_takeR (i := 7) (v := ?vK_1) hops hns rdK_0 (by rfl) frK_0 rfl (fun _ _ _ h => h) stK_0 (Or.inl ⟨by kernel_rfl, ?hyK_1⟩) (by assumption) ?restK_1
  case hyK_1 => (intro w hSw; go_simp; (try with_reducible rfl))
  try simp only [Act.put, List.setIfInBounds_toArray, List.set_cons_zero, List.set_cons_succ]
  refine wpAnyH_takeR (i := 8) (v := ?vK_2) hops hns rdK_1 (by rfl) frK_1 rfl (fun _ _ _ h => h) stK_1 (Or.inl ⟨by kernel_rfl, ?hyK_2⟩) (by assumption) ?restK_2
  case hyK_2 => (intro w hSw; go_simp; (try with_reducible rfl))
  try simp only [Act.put, List.setIfInBounds_toArray, List.set_cons_zero, List.set_cons_succ]
  refine wpAnyH_takeR (i := 20) (v := ?vK_3) hops hns rdK_2 (by rfl) frK_2 rfl (fun _ _ _ h => h) stK_2 (Or.inl ⟨by kernel_rfl, ?hyK_3⟩) (by assumption) ?restK_3
  case hyK_3 => (intro w hSw; go_simp; (try with_reducible rfl))
  try simp only [Act.put, List.setIfInBounds_toArray, List.set_cons_zero, List.set_cons_succ]
  refine wpAnyH_takeR (i := 21) (v := ?vK_4) hops hns rdK_3 (by rfl) frK_3 rfl (fun _ _ _ h => h) stK_3 (Or.inl ⟨by kernel_rfl, ?hyK_4⟩) (by assumption) ?restK_4
  case hyK_4 => (intro w hSw; go_simp; (try with_reducible rfl))
  try simp only [Act.put, List.setIfInBounds_toArray, List.set_cons_zero, List.set_cons_succ]
  refine wpAnyH_takeR (i := 64) (v := ?vK_5) hops hns rdK_4 (by rfl) frK_4 rfl (fun _ _ _ h => h) stK_4 (Or.inl ⟨by kernel_rfl, ?hyK_5⟩) (by assumption) ?restK_5
  case hyK_5 => (intro w hSw; go_simp; (try with_reducible rfl))
  try simp only [Act.put, List.setIfInBounds_toArray, List.set_cons_zero, List.set_cons_succ]
  refine wpAnyH_takeR (i := 65) (v := ?vK_6) hops hns rdK_5 (by rfl) frK_5 rfl (fun _ _ _ h => h) stK_5 (Or.inl ⟨by kernel_rfl, ?hyK_6⟩) (by assumption) ?restK_6
  case hyK_6 => (intro w hSw; go_simp; (try with_reducible rfl))
  try simp only [Act.put, List.setIfInBounds_toArray, List.set_cons_zero, List.set_cons_succ]
  refine wpAnyH_takeR (i := 70) (v := ?vK_7) hops hns rdK_6 (by rfl) frK_6 rfl (fun _ _ _ h => h) stK_6 (Or.inl ⟨by kernel_rfl, ?hyK_7⟩) (by assumption) ?restK_7
  case hyK_7 => (intro w hSw; go_simp; (try with_reducible rfl))
  try simp only [Act.put, List.setIfInBounds_toArray, List.set_cons_zero, List.set_cons_succ]
  refine wpAnyH_takeR (i := 71) (v := ?vK_8) hops hns rdK_7 (by rfl) frK_7 rfl (fun _ _ _ h => h) stK_7 (Or.inl ⟨by kernel_rfl, ?hyK_8⟩) (by assumption) ?restK_8
  case hyK_8 => (intro w hSw; go_simp; (try with_reducible rfl))
  try simp only [Act.put, List.setIfInBounds_toArray, List.set_cons_zero, List.set_cons_succ]
  refine wpAnyH_takeR (i := 87) (v := ?vK_9) hops hns rdK_8 (by rfl) frK_8 rfl (fun _ _ _ h => h) stK_8 (Or.inl ⟨by kernel_rfl, ?hyK_9⟩) (by assumption) ?restK_9
  case hyK_9 => (intro w hSw; go_simp; (try with_reducible rfl))
  try simp only [Act.put, List.setIfInBounds_toArray, List.set_cons_zero, List.set_cons_succ]
  refine wpAnyH_takeR (i := 88) (v := ?vK_10) hops hns rdK_9 (by rfl) frK_9 rfl (fun _ _ _ h => h) stK_9 (Or.inl ⟨by kernel_rfl, ?hyK_10⟩) (by assumption) ?restK_10
  case hyK_10 => (intro w hSw; go_simp; (try with_reducible rfl))
  try simp only [Act.put, List.setIfInBounds_toArray, List.set_cons_zero, List.set_cons_succ]
  refine Exists.elim (p := fun T : Prop => T ∧ (T ∧ True → _)) ?ex (fun _ h => h.2 ⟨h.1, trivial⟩)
  refine ⟨?T, ?hT, fun tail => ?ways⟩
  case ways =>
    refine wpAnyH_readyR (rs := [0, 4]) hops rdK_10 (by simp) (AllReadyH.consR rfl stK_11 (fun K hK => ?_) (AllReadyH.consR rfl stK_10 (fun K hK => ?_) AllReadyH.nil))
    · skip
      go_simp
      refine hK.out _ _ (by first | (with_reducible assumption) | exact bl_alloc (Below.refl wz.heap.size wz).drew _ | exact bl_alloc (bl_alloc (Below.refl wz.heap.size wz).drew _) _ | exact (bl_alloc (Below.refl wz.heap.size wz) _).drew | exact (bl_alloc (bl_alloc (Below.refl wz.heap.size wz) _) _).drew) (fun hHeld => ?_)
      clear hK K
      try simp only [Act.put, List.setIfInBounds_toArray, List.set_cons_zero, List.set_cons_succ]
      refine wpAnyH_readyR (rs := [1, 4]) hops rdK_11 (by simp) (AllReadyH.consR rfl stK_13 (fun K hK => ?_) (AllReadyH.consR rfl stK_12 (fun K hK => ?_) AllReadyH.nil))
      · skip
        have k1 := kc1.out; have k2 := kc2.out; have k3 := kc3.out; go_simp; clear k1 k2 k3
        refine hK.out _ _ (by first | (with_reducible assumption) | exact bl_alloc (Below.refl wz.heap.size wz).drew _ | exact bl_alloc (bl_alloc (Below.refl wz.heap.size wz).drew _) _ | exact (bl_alloc (Below.refl wz.heap.size wz) _).drew | exact (bl_alloc (bl_alloc (Below.refl wz.heap.size wz) _) _).drew) (fun hHeld => ?_)
        clear hK K
        try simp only [Act.put, List.setIfInBounds_toArray, List.set_cons_zero, List.set_cons_succ]
        refine wpAnyH_readyR (rs := [2, 4]) hops rdK_12 (by simp) (AllReadyH.consR rfl stK_15 (fun K hK => ?_) (AllReadyH.consR rfl stK_14 (fun K hK => ?_) AllReadyH.nil))
        · skip
          go_simp; go_wp2_with (go_at_call_has 13 9; refine (crc_nine _ _ (by first | exact row_n0 _ _ | exact row_n1 _ _ _ | exact row_n2 _ _ _)).mono ?_; rintro e w' ⟨rfl, rfl⟩)
          refine hK.out _ _ (by first | (with_reducible assumption) | exact bl_alloc (Below.refl wz.heap.size wz).drew _ | exact bl_alloc (bl_alloc (Below.refl wz.heap.size wz).drew _) _ | exact (bl_alloc (Below.refl wz.heap.size wz) _).drew | exact (bl_alloc (bl_alloc (Below.refl wz.heap.size wz) _) _).drew) (fun hHeld => ?_)
          clear hK K
          try simp only [Act.put, List.setIfInBounds_toArray, List.set_cons_zero, List.set_cons_succ]
          refine wpAnyH_takeR (i := 3) (v := ?vK_11) hops hns rdK_13 (by rfl) frK_10 rfl (fun _ _ _ h => h) stK_16 (Or.inl ⟨by kernel_rfl, ?hyK_11⟩) (by assumption) ?restK_11
          case hyK_11 => (intro w hSw; go_simp; (try with_reducible rfl))
          try simp only [Act.put, List.setIfInBounds_toArray, List.set_cons_zero, List.set_cons_succ]
          refine wpAnyH_readyR (rs := [4]) hops rdK_14 (by simp) (AllReadyH.consR rfl stK_17 (fun K hK => ?_) AllReadyH.nil)
          go_simp
          refine hK.out _ _ (by first | (with_reducible assumption) | exact bl_alloc (Below.refl wz.heap.size wz).drew _ | exact bl_alloc (bl_alloc (Below.refl wz.heap.size wz).drew _) _ | exact (bl_alloc (Below.refl wz.heap.size wz) _).drew | exact (bl_alloc (bl_alloc (Below.refl wz.heap.size wz) _) _).drew) (fun hHeld => ?_)
          clear hK K
          try simp only [Act.put, List.setIfInBounds_toArray, List.set_cons_zero, List.set_cons_succ]
          refine wpAnyH_readyR (rs := [5]) hops rdK_15 (by simp) (AllReadyH.consR rfl stK_18 (fun K hK => ?_) AllReadyH.nil)
          go_simp; go_wp2_with (go_at_call 13; refine (crc_nought _ _ (by first | exact row_n0 _ _ | exact row_n1 _ _ _ | exact row_n2 _ _ _)).mono ?_; rintro e w' ⟨rfl, rfl⟩)
          refine hK.out _ _ (by first | (with_reducible assumption) | exact bl_alloc (Below.refl wz.heap.size wz).drew _ | exact bl_alloc (bl_alloc (Below.refl wz.heap.size wz).drew _) _ | exact (bl_alloc (Below.refl wz.heap.size wz) _).drew | exact (bl_alloc (bl_alloc (Below.refl wz.heap.size wz) _) _).drew) (fun hHeld => ?_)
          clear hK K
          try simp only [Act.put, List.setIfInBounds_toArray, List.set_cons_zero, List.set_cons_succ]
          obtain ⟨W, hW⟩ : ∃ W, W = ((wz.alloc (.cells #[.int .u8 49, .int .u8 50, .int .u8 51, .int .u8 52, .int .u8 53, .int .u8 54, .int .u8 55, .int .u8 56, .int .u8 57] 5 (9, 10))).alloc (.cells #[.int .u8 0] 5)).drew := ⟨_, rfl⟩
          rw [← hW] at hHeld ⊢
          obtain ⟨p9, hp9⟩ : ∃ p : Option Addr, p = some ⟨wz.heap.size, 0, none⟩ := ⟨_, rfl⟩
          obtain ⟨p1, hp1⟩ : ∃ p : Option Addr, p = some ⟨wz.heap.size + 1, 0, none⟩ := ⟨_, rfl⟩
          rw [← hp9, ← hp1]
          clear hp9 hp1 hW
          revert W p9 p1
          exact tail.1
        · skip
          go_simp
          refine hK.out _ _ (by first | (with_reducible assumption) | exact bl_alloc (Below.refl wz.heap.size wz).drew _ | exact bl_alloc (bl_alloc (Below.refl wz.heap.size wz).drew _) _ | exact (bl_alloc (Below.refl wz.heap.size wz) _).drew | exact (bl_alloc (bl_alloc (Below.refl wz.heap.size wz) _) _).drew) (fun hHeld => ?_)
          clear hK K
          try simp only [Act.put, List.setIfInBounds_toArray, List.set_cons_zero, List.set_cons_succ]
          refine wpAnyH_readyR (rs := [2]) hops rdK_16 (by simp) (AllReadyH.consR rfl stK_19 (fun K hK => ?_) AllReadyH.nil)
          go_simp; go_wp2_with (go_at_call_has 13 9; refine (crc_nine _ _ (by first | exact row_n0 _ _ | exact row_n1 _ _ _ | exact row_n2 _ _ _)).mono ?_; rintro e w' ⟨rfl, rfl⟩)
          refine hK.out _ _ (by first | (with_reducible assumption) | exact bl_alloc (Below.refl wz.heap.size wz).drew _ | exact bl_alloc (bl_alloc (Below.refl wz.heap.size wz).drew _) _ | exact (bl_alloc (Below.refl wz.heap.size wz) _).drew | exact (bl_alloc (bl_alloc (Below.refl wz.heap.size wz) _) _).drew) (fun hHeld => ?_)
          clear hK K
          try simp only [Act.put, List.setIfInBounds_toArray, List.set_cons_zero, List.set_cons_succ]
          refine wpAnyH_takeR (i := 3) (v := ?vK_12) hops hns rdK_17 (by rfl) frK_11 rfl (fun _ _ _ h => h) stK_20 (Or.inl ⟨by kernel_rfl, ?hyK_12⟩) (by assumption) ?restK_12
          case hyK_12 => (intro w hSw; go_simp; (try with_reducible rfl))
          try simp only [Act.put, List.setIfInBounds_toArray, List.set_cons_zero, List.set_cons_succ]
          refine wpAnyH_readyR (rs := [5]) hops rdK_15 (by simp) (AllReadyH.consR rfl stK_18 (fun K hK => ?_) AllReadyH.nil)
          go_simp; go_wp2_with (go_at_call 13; refine (crc_nought _ _ (by first | exact row_n0 _ _ | exact row_n1 _ _ _ | exact row_n2 _ _ _)).mono ?_; rintro e w' ⟨rfl, rfl⟩)
          refine hK.out _ _ (by first | (with_reducible assumption) | exact bl_alloc (Below.refl wz.heap.size wz).drew _ | exact bl_alloc (bl_alloc (Below.refl wz.heap.size wz).drew _) _ | exact (bl_alloc (Below.refl wz.heap.size wz) _).drew | exact (bl_alloc (bl_alloc (Below.refl wz.heap.size wz) _) _).drew) (fun hHeld => ?_)
          clear hK K
          try simp only [Act.put, List.setIfInBounds_toArray, List.set_cons_zero, List.set_cons_succ]
          obtain ⟨W, hW⟩ : ∃ W, W = ((wz.alloc (.cells #[.int .u8 49, .int .u8 50, .int .u8 51, .int .u8 52, .int .u8 53, .int .u8 54, .int .u8 55, .int .u8 56, .int .u8 57] 5 (9, 10))).alloc (.cells #[.int .u8 0] 5)).drew := ⟨_, rfl⟩
          rw [← hW] at hHeld ⊢
          obtain ⟨p9, hp9⟩ : ∃ p : Option Addr, p = some ⟨wz.heap.size, 0, none⟩ := ⟨_, rfl⟩
          obtain ⟨p1, hp1⟩ : ∃ p : Option Addr, p = some ⟨wz.heap.size + 1, 0, none⟩ := ⟨_, rfl⟩
          rw [← hp9, ← hp1]
          clear hp9 hp1 hW
          exact tail.1 _ hHeld _ _
      · skip
        go_simp
        refine hK.out _ _ (by first | (with_reducible assumption) | exact bl_alloc (Below.refl wz.heap.size wz).drew _ | exact bl_alloc (bl_alloc (Below.refl wz.heap.size wz).drew _) _ | exact (bl_alloc (Below.refl wz.heap.size wz) _).drew | exact (bl_alloc (bl_alloc (Below.refl wz.heap.size wz) _) _).drew) (fun hHeld => ?_)
        clear hK K
        try simp only [Act.put, List.setIfInBounds_toArray, List.set_cons_zero, List.set_cons_succ]
        refine wpAnyH_readyR (rs := [1]) hops rdK_18 (by simp) (AllReadyH.consR rfl stK_21 (fun K hK => ?_) AllReadyH.nil)
        have k1 := kc1.out; have k2 := kc2.out; have k3 := kc3.out; go_simp; clear k1 k2 k3
        refine hK.out _ _ (by first | (with_reducible assumption) | exact bl_alloc (Below.refl wz.heap.size wz).drew _ | exact bl_alloc (bl_alloc (Below.refl wz.heap.size wz).drew _) _ | exact (bl_alloc (Below.refl wz.heap.size wz) _).drew | exact (bl_alloc (bl_alloc (Below.refl wz.heap.size wz) _) _).drew) (fun hHeld => ?_)
        clear hK K
        try simp only [Act.put, List.setIfInBounds_toArray, List.set_cons_zero, List.set_cons_succ]
        refine wpAnyH_readyR (rs := [2]) hops rdK_16 (by simp) (AllReadyH.consR rfl stK_19 (fun K hK => ?_) AllReadyH.nil)
        go_simp; go_wp2_with (go_at_call_has 13 9; refine (crc_nine _ _ (by first | exact row_n0 _ _ | exact row_n1 _ _ _ | exact row_n2 _ _ _)).mono ?_; rintro e w' ⟨rfl, rfl⟩)
        refine hK.out _ _ (by first | (with_reducible assumption) | exact bl_alloc (Below.refl wz.heap.size wz).drew _ | exact bl_alloc (bl_alloc (Below.refl wz.heap.size wz).drew _) _ | exact (bl_alloc (Below.refl wz.heap.size wz) _).drew | exact (bl_alloc (bl_alloc (Below.refl wz.heap.size wz) _) _).drew) (fun hHeld => ?_)
        clear hK K
        try simp only [Act.put, List.setIfInBounds_toArray, List.set_cons_zero, List.set_cons_succ]
        refine wpAnyH_takeR (i := 3) (v := ?vK_13) hops hns rdK_17 (by rfl) frK_11 rfl (fun _ _ _ h => h) stK_20 (Or.inl ⟨by kernel_rfl, ?hyK_13⟩) (by assumption) ?restK_13
        case hyK_13 => (intro w hSw; go_simp; (try with_reducible rfl))
        try simp only [Act.put, List.setIfInBounds_toArray, List.set_cons_zero, List.set_cons_succ]
        refine wpAnyH_readyR (rs := [5]) hops rdK_15 (by simp) (AllReadyH.consR rfl stK_18 (fun K hK => ?_) AllReadyH.nil)
        go_simp; go_wp2_with (go_at_call 13; refine (crc_nought _ _ (by first | exact row_n0 _ _ | exact row_n1 _ _ _ | exact row_n2 _ _ _)).mono ?_; rintro e w' ⟨rfl, rfl⟩)
        refine hK.out _ _ (by first | (with_reducible assumption) | exact bl_alloc (Below.refl wz.heap.size wz).drew _ | exact bl_alloc (bl_alloc (Below.refl wz.heap.size wz).drew _) _ | exact (bl_alloc (Below.refl wz.heap.size wz) _).drew | exact (bl_alloc (bl_alloc (Below.refl wz.heap.size wz) _) _).drew) (fun hHeld => ?_)
        clear hK K
        try simp only [Act.put, List.setIfInBounds_toArray, List.set_cons_zero, List.set_cons_succ]
        obtain ⟨W, hW⟩ : ∃ W, W = ((wz.alloc (.cells #[.int .u8 49, .int .u8 50, .int .u8 51, .int .u8 52, .int .u8 53, .int .u8 54, .int .u8 55, .int .u8 56, .int .u8 57] 5 (9, 10))).alloc (.cells #[.int .u8 0] 5)).drew := ⟨_, rfl⟩
        rw [← hW] at hHeld ⊢
        obtain ⟨p9, hp9⟩ : ∃ p : Option Addr, p = some ⟨wz.heap.size, 0, none⟩ := ⟨_, rfl⟩
        obtain ⟨p1, hp1⟩ : ∃ p : Option Addr, p = some ⟨wz.heap.size + 1, 0, none⟩ := ⟨_, rfl⟩
        rw [← hp9, ← hp1]
        clear hp9 hp1 hW
        exact tail.1 _ hHeld _ _
    · skip
      go_simp
      refine hK.out _ _ (by first | (with_reducible assumption) | exact bl_alloc (Below.refl wz.heap.size wz).drew _ | exact bl_alloc (bl_alloc (Below.refl wz.heap.size wz).drew _) _ | exact (bl_alloc (Below.refl wz.heap.size wz) _).drew | exact (bl_alloc (bl_alloc (Below.refl wz.heap.size wz) _) _).drew) (fun hHeld => ?_)
      clear hK K
      try simp only [Act.put, List.setIfInBounds_toArray, List.set_cons_zero, List.set_cons_succ]
      refine wpAnyH_readyR (rs := [0]) hops rdK_19 (by simp) (AllReadyH.consR rfl stK_22 (fun K hK => ?_) AllReadyH.nil)
      go_simp
      refine hK.out _ _ (by first | (with_reducible assumption) | exact bl_alloc (Below.refl wz.heap.size wz).drew _ | exact bl_alloc (bl_alloc (Below.refl wz.heap.size wz).drew _) _ | exact (bl_alloc (Below.refl wz.heap.size wz) _).drew | exact (bl_alloc (bl_alloc (Below.refl wz.heap.size wz) _) _).drew) (fun hHeld => ?_)
      clear hK K
      try simp only [Act.put, List.setIfInBounds_toArray, List.set_cons_zero, List.set_cons_succ]
      refine wpAnyH_readyR (rs := [1]) hops rdK_18 (by simp) (AllReadyH.consR rfl stK_21 (fun K hK => ?_) AllReadyH.nil)
      have k1 := kc1.out; have k2 := kc2.out; have k3 := kc3.out; go_simp; clear k1 k2 k3
      refine hK.out _ _ (by first | (with_reducible assumption) | exact bl_alloc (Below.refl wz.heap.size wz).drew _ | exact bl_alloc (bl_alloc (Below.refl wz.heap.size wz).drew _) _ | exact (bl_alloc (Below.refl wz.heap.size wz) _).drew | exact (bl_alloc (bl_alloc (Below.refl wz.heap.size wz) _) _).drew) (fun hHeld => ?_)
      clear hK K
      try simp only [Act.put, List.setIfInBounds_toArray, List.set_cons_zero, List.set_cons_succ]
      refine wpAnyH_readyR (rs := [2]) hops rdK_16 (by simp) (AllReadyH.consR rfl stK_19 (fun K hK => ?_) AllReadyH.nil)
      go_simp; go_wp2_with (go_at_call_has 13 9; refine (crc_nine _ _ (by first | exact row_n0 _ _ | exact row_n1 _ _ _ | exact row_n2 _ _ _)).mono ?_; rintro e w' ⟨rfl, rfl⟩)
      refine hK.out _ _ (by first | (with_reducible assumption) | exact bl_alloc (Below.refl wz.heap.size wz).drew _ | exact bl_alloc (bl_alloc (Below.refl wz.heap.size wz).drew _) _ | exact (bl_alloc (Below.refl wz.heap.size wz) _).drew | exact (bl_alloc (bl_alloc (Below.refl wz.heap.size wz) _) _).drew) (fun hHeld => ?_)
      clear hK K
      try simp only [Act.put, List.setIfInBounds_toArray, List.set_cons_zero, List.set_cons_succ]
      refine wpAnyH_takeR (i := 3) (v := ?vK_14) hops hns rdK_17 (by rfl) frK_11 rfl (fun _ _ _ h => h) stK_20 (Or.inl ⟨by kernel_rfl, ?hyK_14⟩) (by assumption) ?restK_14
      case hyK_14 => (intro w hSw; go_simp; (try with_reducible rfl))
      try simp only [Act.put, List.setIfInBounds_toArray, List.set_cons_zero, List.set_cons_succ]
      refine wpAnyH_readyR (rs := [5]) hops rdK_15 (by simp) (AllReadyH.consR rfl stK_18 (fun K hK => ?_) AllReadyH.nil)
      go_simp; go_wp2_with (go_at_call 13; refine (crc_nought _ _ (by first | exact row_n0 _ _ | exact row_n1 _ _ _ | exact row_n2 _ _ _)).mono ?_; rintro e w' ⟨rfl, rfl⟩)
      refine hK.out _ _ (by first | (with_reducible assumption) | exact bl_alloc (Below.refl wz.heap.size wz).drew _ | exact bl_alloc (bl_alloc (Below.refl wz.heap.size wz).drew _) _ | exact (bl_alloc (Below.refl wz.heap.size wz) _).drew | exact (bl_alloc (bl_alloc (Below.refl wz.heap.size wz) _) _).drew) (fun hHeld => ?_)
      clear hK K
      try simp only [Act.put, List.setIfInBounds_toArray, List.set_cons_zero, List.set_cons_succ]
      obtain ⟨W, hW⟩ : ∃ W, W = ((wz.alloc (.cells #[.int .u8 0] 5)).alloc (.cells #[.int .u8 49, .int .u8 50, .int .u8 51, .int .u8 52, .int .u8 53, .int .u8 54, .int .u8 55, .int .u8 56, .int .u8 57] 5 (9, 10))).drew := ⟨_, rfl⟩
      rw [← hW] at hHeld ⊢
      obtain ⟨p9, hp9⟩ : ∃ p : Option Addr, p = some ⟨wz.heap.size + 1, 0, none⟩ := ⟨_, rfl⟩
      obtain ⟨p1, hp1⟩ : ∃ p : Option Addr, p = some ⟨wz.heap.size, 0, none⟩ := ⟨_, rfl⟩
      rw [← hp9, ← hp1]
      clear hp9 hp1 hW
      exact tail.1 _ hHeld _ _
  case hT =>
    intro W hHeld p9 p1
    refine wpAnyH_takeR (i := 6) (v := ?vK_15) hops hns rdK_20 (by rfl) frK_12 rfl (fun _ _ _ h => h) stK_23 (Or.inl ⟨by kernel_rfl, ?hyK_15⟩) (by assumption) ?restK_15
    case hyK_15 => (intro w hSw; go_simp; (try with_reducible rfl))
    try simp only [Act.put, List.setIfInBounds_toArray, List.set_cons_zero, List.set_cons_succ]
    refine wpAnyH_oneR (i := 9) (v := ?vK_16) hops rdK_21 rfl stK_24 (Or.inl ⟨by kernel_rfl, ?hyK_16⟩) (by assumption) ?restK_16
    case hyK_16 => (intro w hSw; go_simp; (try with_reducible rfl))
    try simp only [Act.put, List.setIfInBounds_toArray, List.set_cons_zero, List.set_cons_succ]
    refine wpAnyH_oneR (i := 10) (v := ?vK_17) hops rdK_22 rfl stK_25 (Or.inl ⟨by kernel_rfl, ?hyK_17⟩) (by assumption) ?restK_17
    case hyK_17 => (intro w hSw; go_simp; (try with_reducible rfl))
    try simp only [Act.put, List.setIfInBounds_toArray, List.set_cons_zero, List.set_cons_succ]
    refine wpAnyH_oneR (i := 11) (v := ?vK_18) hops rdK_23 rfl stK_26 (Or.inl ⟨by kernel_rfl, ?hyK_18⟩) (by assumption) ?restK_18
    case hyK_18 => (intro w hSw; go_simp; (try with_reducible rfl))
    try simp only [Act.put, List.setIfInBounds_toArray, List.set_cons_zero, List.set_cons_succ]
    refine wpAnyH_oneR (i := 12) (v := ?vK_19) hops rdK_24 rfl stK_27 (Or.inl ⟨by kernel_rfl, ?hyK_19⟩) (by assumption) ?restK_19
    case hyK_19 => (intro w hSw; go_simp; (try with_reducible rfl))
    try simp only [Act.put, List.setIfInBounds_toArray, List.set_cons_zero, List.set_cons_succ]
    refine wpAnyH_oneR (i := 13) (v := ?vK_20) hops rdK_25 rfl stK_28 (Or.inl ⟨by kernel_rfl, ?hyK_20⟩) (by assumption) ?restK_20
    case hyK_20 => (intro w hSw; go_simp; (try with_reducible rfl))
    try simp only [Act.put, List.setIfInBounds_toArray, List.set_cons_zero, List.set_cons_succ]
    refine wpAnyH_oneR (i := 14) (v := ?vK_21) hops rdK_26 rfl stK_29 (Or.inl ⟨by kernel_rfl, ?hyK_21⟩) (by assumption) ?restK_21
    case hyK_21 => (intro w hSw; go_simp; (try with_reducible rfl))
    try simp only [Act.put, List.setIfInBounds_toArray, List.set_cons_zero, List.set_cons_succ]
    refine wpAnyH_takeR (i := 15) (v := ?vK_22) hops hns rdK_27 (by rfl) frK_13 rfl (fun _ _ _ h => h) stK_30 (Or.inl ⟨by kernel_rfl, ?hyK_22⟩) (by assumption) ?restK_22
    case hyK_22 => (intro w hSw; go_simp; (try with_reducible rfl))
    try simp only [Act.put, List.setIfInBounds_toArray, List.set_cons_zero, List.set_cons_succ]
    refine wpAnyH_takeR (i := 16) (v := ?vK_23) hops hns rdK_28 (by rfl) frK_14 rfl (fun _ _ _ h => h) stK_31 (Or.inl ⟨by kernel_rfl, ?hyK_23⟩) (by assumption) ?restK_23
    case hyK_23 => (intro w hSw; go_simp; (try with_reducible rfl))
    try simp only [Act.put, List.setIfInBounds_toArray, List.set_cons_zero, List.set_cons_succ]
    refine wpAnyH_takeR (i := 17) (v := ?vK_24) hops hns rdK_29 (by rfl) frK_15 rfl (fun _ _ _ h => h) stK_32 (Or.inl ⟨by kernel_rfl, ?hyK_24⟩) (by assumption) ?restK_24
    case hyK_24 => (intro w hSw; have hf := hS.out w hSw; have x0 := hf.2.2.2.2.2.2.2.1; clear hf; go_simp; (try with_reducible rfl))
    try simp only [Act.put, List.setIfInBounds_toArray, List.set_cons_zero, List.set_cons_succ]
    refine wpAnyH_takeR (i := 18) (v := ?vK_25) hops hns rdK_30 (by rfl) frK_16 rfl (fun _ _ _ h => h) stK_33 (Or.inl ⟨by kernel_rfl, ?hyK_25⟩) (by assumption) ?restK_25
    case hyK_25 => (intro w hSw; go_simp; (try with_reducible rfl))
    try simp only [Act.put, List.setIfInBounds_toArray, List.set_cons_zero, List.set_cons_succ]
    refine wpAnyH_takeR (i := 19) (v := ?vK_26) hops hns rdK_31 (by rfl) frK_17 rfl (fun _ _ _ h => h) stK_34 (Or.inl ⟨by kernel_rfl, ?hyK_26⟩) (by assumption) ?restK_26
    case hyK_26 => (intro w hSw; go_simp; (try with_reducible rfl))
    try simp only [Act.put, List.setIfInBounds_toArray, List.set_cons_zero, List.set_cons_succ]
    refine wpAnyH_oneR (i := 22) (v := ?vK_27) hops rdK_32 rfl stK_35 (Or.inl ⟨by kernel_rfl, ?hyK_27⟩) (by assumption) ?restK_27
    case hyK_27 => (intro w hSw; go_simp; (try with_reducible rfl))
    try simp only [Act.put, List.setIfInBounds_toArray, List.set_cons_zero, List.set_cons_succ]
    refine wpAnyH_oneR (i := 23) (v := ?vK_28) hops rdK_33 rfl stK_36 (Or.inl ⟨by kernel_rfl, ?hyK_28⟩) (by assumption) ?restK_28
    case hyK_28 => (intro w hSw; go_simp; (try with_reducible rfl))
    try simp only [Act.put, List.setIfInBounds_toArray, List.set_cons_zero, List.set_cons_succ]
    refine wpAnyH_oneR (i := 24) (v := ?vK_29) hops rdK_34 rfl stK_37 (Or.inl ⟨by kernel_rfl, ?hyK_29⟩) (by assumption) ?restK_29
    case hyK_29 => (intro w hSw; go_simp; (try with_reducible rfl))
    try simp only [Act.put, List.setIfInBounds_toArray, List.set_cons_zero, List.set_cons_succ]
    refine wpAnyH_oneR (i := 25) (v := ?vK_30) hops rdK_35 rfl stK_38 (Or.inl ⟨by kernel_rfl, ?hyK_30⟩) (by assumption) ?restK_30
    case hyK_30 => (intro w hSw; go_simp; (try with_reducible rfl))
    try simp only [Act.put, List.setIfInBounds_toArray, List.set_cons_zero, List.set_cons_succ]
    refine wpAnyH_oneR (i := 26) (v := ?vK_31) hops rdK_36 rfl stK_39 (Or.inl ⟨by kernel_rfl, ?hyK_31⟩) (by assumption) ?restK_31
    case hyK_31 => (intro w hSw; go_simp; (try with_reducible rfl))
    try simp only [Act.put, List.setIfInBounds_toArray, List.set_cons_zero, List.set_cons_succ]
    refine wpAnyH_oneR (i := 27) (v := ?vK_32) hops rdK_37 rfl stK_40 (Or.inl ⟨by kernel_rfl, ?hyK_32⟩) (by assumption) ?restK_32
    case hyK_32 => (intro w hSw; go_simp; (try with_reducible rfl))
    try simp only [Act.put, List.setIfInBounds_toArray, List.set_cons_zero, List.set_cons_succ]
    refine wpAnyH_oneR (i := 28) (v := ?vK_33) hops rdK_38 rfl stK_41 (Or.inl ⟨by kernel_rfl, ?hyK_33⟩) (by assumption) ?restK_33
    case hyK_33 => (intro w hSw; go_simp; (try with_reducible rfl))
    try simp only [Act.put, List.setIfInBounds_toArray, List.set_cons_zero, List.set_cons_succ]
    refine wpAnyH_oneR (i := 29) (v := ?vK_34) hops rdK_39 rfl stK_42 (Or.inl ⟨by kernel_rfl, ?hyK_34⟩) (by assumption) ?restK_34
    case hyK_34 => (intro w hSw; go_simp; (try with_reducible rfl))
    try simp only [Act.put, List.setIfInBounds_toArray, List.set_cons_zero, List.set_cons_succ]
    refine wpAnyH_oneR (i := 30) (v := ?vK_35) hops rdK_40 rfl stK_43 (Or.inl ⟨by kernel_rfl, ?hyK_35⟩) (by assumption) ?restK_35
    case hyK_35 => (intro w hSw; go_simp; (try with_reducible rfl))
    try simp only [Act.put, List.setIfInBounds_toArray, List.set_cons_zero, List.set_cons_succ]
    refine wpAnyH_oneR (i := 31) (v := ?vK_36) hops rdK_41 rfl stK_44 (Or.inl ⟨by kernel_rfl, ?hyK_36⟩) (by assumption) ?restK_36
    case hyK_36 => (intro w hSw; have hf := hS.out w hSw; have x0 := hf.1; clear hf; go_simp; (try with_reducible rfl))
    try simp only [Act.put, List.setIfInBounds_toArray, List.set_cons_zero, List.set_cons_succ]
    refine wpAnyH_oneR (i := 32) (v := ?vK_37) hops rdK_42 rfl stK_45 (Or.inl ⟨by kernel_rfl, ?hyK_37⟩) (by assumption) ?restK_37
    case hyK_37 => (intro w hSw; go_simp; (try with_reducible rfl))
    try simp only [Act.put, List.setIfInBounds_toArray, List.set_cons_zero, List.set_cons_succ]
    refine wpAnyH_oneR (i := 33) (v := ?vK_38) hops rdK_43 rfl stK_46 (Or.inl ⟨by kernel_rfl, ?hyK_38⟩) (by assumption) ?restK_38
    case hyK_38 => (intro w hSw; go_simp; (try with_reducible rfl))
    try simp only [Act.put, List.setIfInBounds_toArray, List.set_cons_zero, List.set_cons_succ]
    refine wpAnyH_oneR (i := 34) (v := ?vK_39) hops rdK_44 rfl stK_47 (Or.inl ⟨by kernel_rfl, ?hyK_39⟩) (by assumption) ?restK_39
    case hyK_39 => (intro w hSw; go_simp; (try with_reducible rfl))
    try simp only [Act.put, List.setIfInBounds_toArray, List.set_cons_zero, List.set_cons_succ]
    refine wpAnyH_oneR (i := 35) (v := ?vK_40) hops rdK_45 rfl stK_48 (Or.inl ⟨by kernel_rfl, ?hyK_40⟩) (by assumption) ?restK_40
    case hyK_40 => (intro w hSw; go_simp; (try with_reducible rfl))
    try simp only [Act.put, List.setIfInBounds_toArray, List.set_cons_zero, List.set_cons_succ]
    refine wpAnyH_oneR (i := 36) (v := ?vK_41) hops rdK_46 rfl stK_49 (Or.inl ⟨by kernel_rfl, ?hyK_41⟩) (by assumption) ?restK_41
    case hyK_41 => (intro w hSw; go_simp; (try with_reducible rfl))
    try simp only [Act.put, List.setIfInBounds_toArray, List.set_cons_zero, List.set_cons_succ]
    refine wpAnyH_oneR (i := 37) (v := ?vK_42) hops rdK_47 rfl stK_50 (Or.inl ⟨by kernel_rfl, ?hyK_42⟩) (by assumption) ?restK_42
    case hyK_42 => (intro w hSw; go_simp; (try with_reducible rfl))
    try simp only [Act.put, List.setIfInBounds_toArray, List.set_cons_zero, List.set_cons_succ]
    refine wpAnyH_oneR (i := 38) (v := ?vK_43) hops rdK_48 rfl stK_51 (Or.inl ⟨by kernel_rfl, ?hyK_43⟩) (by assumption) ?restK_43
    case hyK_43 => (intro w hSw; have hf := hS.out w hSw; have x0 := hf.2.1; clear hf; go_simp; (try with_reducible rfl))
    try simp only [Act.put, List.setIfInBounds_toArray, List.set_cons_zero, List.set_cons_succ]
    refine wpAnyH_oneR (i := 39) (v := ?vK_44) hops rdK_49 rfl stK_52 (Or.inl ⟨by kernel_rfl, ?hyK_44⟩) (by assumption) ?restK_44
    case hyK_44 => (intro w hSw; go_simp; (try with_reducible rfl))
    try simp only [Act.put, List.setIfInBounds_toArray, List.set_cons_zero, List.set_cons_succ]
    refine wpAnyH_oneR (i := 40) (v := ?vK_45) hops rdK_50 rfl stK_53 (Or.inl ⟨by kernel_rfl, ?hyK_45⟩) (by assumption) ?restK_45
    case hyK_45 => (intro w hSw; go_simp; (try with_reducible rfl))
    try simp only [Act.put, List.setIfInBounds_toArray, List.set_cons_zero, List.set_cons_succ]
    refine wpAnyH_oneR (i := 41) (v := ?vK_46) hops rdK_51 rfl stK_54 (Or.inl ⟨by kernel_rfl, ?hyK_46⟩) (by assumption) ?restK_46
    case hyK_46 => (intro w hSw; go_simp; (try with_reducible rfl))
    try simp only [Act.put, List.setIfInBounds_toArray, List.set_cons_zero, List.set_cons_succ]
    refine wpAnyH_oneR (i := 42) (v := ?vK_47) hops rdK_52 rfl stK_55 (Or.inl ⟨by kernel_rfl, ?hyK_47⟩) (by assumption) ?restK_47
    case hyK_47 => (intro w hSw; go_simp; (try with_reducible rfl))
    try simp only [Act.put, List.setIfInBounds_toArray, List.set_cons_zero, List.set_cons_succ]
    refine wpAnyH_oneR (i := 43) (v := ?vK_48) hops rdK_53 rfl stK_56 (Or.inl ⟨by kernel_rfl, ?hyK_48⟩) (by assumption) ?restK_48
    case hyK_48 => (intro w hSw; go_simp; (try with_reducible rfl))
    try simp only [Act.put, List.setIfInBounds_toArray, List.set_cons_zero, List.set_cons_succ]
    refine wpAnyH_oneR (i := 44) (v := ?vK_49) hops rdK_54 rfl stK_57 (Or.inl ⟨by kernel_rfl, ?hyK_49⟩) (by assumption) ?restK_49
    case hyK_49 => (intro w hSw; go_simp; (try with_reducible rfl))
    try simp only [Act.put, List.setIfInBounds_toArray, List.set_cons_zero, List.set_cons_succ]
    refine wpAnyH_oneR (i := 45) (v := ?vK_50) hops rdK_55 rfl stK_58 (Or.inl ⟨by kernel_rfl, ?hyK_50⟩) (by assumption) ?restK_50
    case hyK_50 => (intro w hSw; have hf := hS.out w hSw; have x0 := hf.2.2.1; clear hf; go_simp; (try with_reducible rfl))
    try simp only [Act.put, List.setIfInBounds_toArray, List.set_cons_zero, List.set_cons_succ]
    refine wpAnyH_oneR (i := 46) (v := ?vK_51) hops rdK_56 rfl stK_59 (Or.inl ⟨by kernel_rfl, ?hyK_51⟩) (by assumption) ?restK_51
    case hyK_51 => (intro w hSw; go_simp; (try with_reducible rfl))
    try simp only [Act.put, List.setIfInBounds_toArray, List.set_cons_zero, List.set_cons_succ]
    refine wpAnyH_oneR (i := 47) (v := ?vK_52) hops rdK_57 rfl stK_60 (Or.inl ⟨by kernel_rfl, ?hyK_52⟩) (by assumption) ?restK_52
    case hyK_52 => (intro w hSw; go_simp; (try with_reducible rfl))
    try simp only [Act.put, List.setIfInBounds_toArray, List.set_cons_zero, List.set_cons_succ]
    refine wpAnyH_oneR (i := 48) (v := ?vK_53) hops rdK_58 rfl stK_61 (Or.inl ⟨by kernel_rfl, ?hyK_53⟩) (by assumption) ?restK_53
    case hyK_53 => (intro w hSw; go_simp; (try with_reducible rfl))
    try simp only [Act.put, List.setIfInBounds_toArray, List.set_cons_zero, List.set_cons_succ]
    refine wpAnyH_oneR (i := 49) (v := ?vK_54) hops rdK_59 rfl stK_62 (Or.inl ⟨by kernel_rfl, ?hyK_54⟩) (by assumption) ?restK_54
    case hyK_54 => (intro w hSw; go_simp; (try with_reducible rfl))
    try simp only [Act.put, List.setIfInBounds_toArray, List.set_cons_zero, List.set_cons_succ]
    refine wpAnyH_oneR (i := 50) (v := ?vK_55) hops rdK_60 rfl stK_63 (Or.inl ⟨by kernel_rfl, ?hyK_55⟩) (by assumption) ?restK_55
    case hyK_55 => (intro w hSw; go_simp; (try with_reducible rfl))
    try simp only [Act.put, List.setIfInBounds_toArray, List.set_cons_zero, List.set_cons_succ]
    refine wpAnyH_oneR (i := 51) (v := ?vK_56) hops rdK_61 rfl stK_64 (Or.inl ⟨by kernel_rfl, ?hyK_56⟩) (by assumption) ?restK_56
    case hyK_56 => (intro w hSw; go_simp; (try with_reducible rfl))
    try simp only [Act.put, List.setIfInBounds_toArray, List.set_cons_zero, List.set_cons_succ]
    refine wpAnyH_oneR (i := 52) (v := ?vK_57) hops rdK_62 rfl stK_65 (Or.inl ⟨by kernel_rfl, ?hyK_57⟩) (by assumption) ?restK_57
    case hyK_57 => (intro w hSw; have hf := hS.out w hSw; have x0 := hf.2.2.2.1; clear hf; go_simp; (try with_reducible rfl))
    try simp only [Act.put, List.setIfInBounds_toArray, List.set_cons_zero, List.set_cons_succ]
    refine wpAnyH_oneR (i := 53) (v := ?vK_58) hops rdK_63 rfl stK_66 (Or.inl ⟨by kernel_rfl, ?hyK_58⟩) (by assumption) ?restK_58
    case hyK_58 => (intro w hSw; go_simp; (try with_reducible rfl))
    try simp only [Act.put, List.setIfInBounds_toArray, List.set_cons_zero, List.set_cons_succ]
    refine wpAnyH_oneR (i := 54) (v := ?vK_59) hops rdK_64 rfl stK_67 (Or.inl ⟨by kernel_rfl, ?hyK_59⟩) (by assumption) ?restK_59
    case hyK_59 => (intro w hSw; go_simp; (try with_reducible rfl))
    try simp only [Act.put, List.setIfInBounds_toArray, List.set_cons_zero, List.set_cons_succ]
    refine wpAnyH_oneR (i := 55) (v := ?vK_60) hops rdK_65 rfl stK_68 (Or.inl ⟨by kernel_rfl, ?hyK_60⟩) (by assumption) ?restK_60
    case hyK_60 => (intro w hSw; go_simp; (try with_reducible rfl))
    try simp only [Act.put, List.setIfInBounds_toArray, List.set_cons_zero, List.set_cons_succ]
    refine wpAnyH_takeR (i := 56) (v := ?vK_61) hops hns rdK_66 (by rfl) frK_18 rfl (fun _ _ _ h => h) stK_69 (Or.inl ⟨by kernel_rfl, ?hyK_61⟩) (by assumption) ?restK_61
    case hyK_61 => (intro w hSw; go_simp; (try with_reducible rfl))
    try simp only [Act.put, List.setIfInBounds_toArray, List.set_cons_zero, List.set_cons_succ]
    refine wpAnyH_takeR (i := 57) (v := ?vK_62) hops hns rdK_67 (by rfl) frK_19 rfl (fun _ _ _ h => h) stK_70 (Or.inl ⟨by kernel_rfl, ?hyK_62⟩) (by assumption) ?restK_62
    case hyK_62 => (intro w hSw; go_simp; (try with_reducible rfl))
    try simp only [Act.put, List.setIfInBounds_toArray, List.set_cons_zero, List.set_cons_succ]
    refine wpAnyH_takeR (i := 58) (v := ?vK_63) hops hns rdK_68 (by rfl) frK_20 rfl (fun _ _ _ h => h) stK_71 (Or.inl ⟨by kernel_rfl, ?hyK_63⟩) (by assumption) ?restK_63
    case hyK_63 => (intro w hSw; go_simp; (try with_reducible rfl))
    try simp only [Act.put, List.setIfInBounds_toArray, List.set_cons_zero, List.set_cons_succ]
    refine wpAnyH_takeR (i := 59) (v := ?vK_64) hops hns rdK_69 (by rfl) frK_21 rfl (fun _ _ _ h => h) stK_72 (Or.inl ⟨by kernel_rfl, ?hyK_64⟩) (by assumption) ?restK_64
    case hyK_64 => (intro w hSw; have hf := hS.out w hSw; have x0 := hf.2.2.2.2.1; clear hf; go_simp; (try with_reducible rfl))
    try simp only [Act.put, List.setIfInBounds_toArray, List.set_cons_zero, List.set_cons_succ]
    refine wpAnyH_takeR (i := 60) (v := ?vK_65) hops hns rdK_70 (by rfl) frK_22 rfl (fun _ _ _ h => h) stK_73 (Or.inl ⟨by kernel_rfl, ?hyK_65⟩) (by assumption) ?restK_65
    case hyK_65 => (intro w hSw; go_simp; (try with_reducible rfl))
    try simp only [Act.put, List.setIfInBounds_toArray, List.set_cons_zero, List.set_cons_succ]
    refine wpAnyH_takeR (i := 61) (v := ?vK_66) hops hns rdK_71 (by rfl) frK_23 rfl (fun _ _ _ h => h) stK_74 (Or.inl ⟨by kernel_rfl, ?hyK_66⟩) (by assumption) ?restK_66
    case hyK_66 => (intro w hSw; have hf := hS.out w hSw; have x0 := hf.2.2.2.2.2.1; clear hf; go_simp; (try with_reducible rfl))
    try simp only [Act.put, List.setIfInBounds_toArray, List.set_cons_zero, List.set_cons_succ]
    refine wpAnyH_takeR (i := 62) (v := ?vK_67) hops hns rdK_72 (by rfl) frK_24 rfl (fun _ _ _ h => h) stK_75 (Or.inl ⟨by kernel_rfl, ?hyK_67⟩) (by assumption) ?restK_67
    case hyK_67 => (intro w hSw; go_simp; (try with_reducible rfl))
    try simp only [Act.put, List.setIfInBounds_toArray, List.set_cons_zero, List.set_cons_succ]
    refine wpAnyH_takeR (i := 63) (v := ?vK_68) hops hns rdK_73 (by rfl) frK_25 rfl (fun _ _ _ h => h) stK_76 (Or.inl ⟨by kernel_rfl, ?hyK_68⟩) (by assumption) ?restK_68
    case hyK_68 => (intro w hSw; go_simp; (try with_reducible rfl))
    try simp only [Act.put, List.setIfInBounds_toArray, List.set_cons_zero, List.set_cons_succ]
    refine wpAnyH_oneR (i := 66) (v := ?vK_69) hops rdK_74 rfl stK_77 (Or.inl ⟨by kernel_rfl, ?hyK_69⟩) (by assumption) ?restK_69
    case hyK_69 => (intro w hSw; go_simp; (try with_reducible rfl))
    try simp only [Act.put, List.setIfInBounds_toArray, List.set_cons_zero, List.set_cons_succ]
    refine wpAnyH_takeR (i := 67) (v := ?vK_70) hops hns rdK_75 (by rfl) frK_26 rfl (fun _ _ _ h => h) stK_78 (Or.inl ⟨by kernel_rfl, ?hyK_70⟩) (by assumption) ?restK_70
    case hyK_70 => (intro w hSw; go_simp; (try with_reducible rfl))
    try simp only [Act.put, List.setIfInBounds_toArray, List.set_cons_zero, List.set_cons_succ]
    refine wpAnyH_takeR (i := 68) (v := ?vK_71) hops hns rdK_76 (by rfl) frK_27 rfl (fun _ _ _ h => h) stK_79 (Or.inl ⟨by kernel_rfl, ?hyK_71⟩) (by assumption) ?restK_71
    case hyK_71 => (intro w hSw; go_simp; (try with_reducible rfl))
    try simp only [Act.put, List.setIfInBounds_toArray, List.set_cons_zero, List.set_cons_succ]
    refine wpAnyH_takeR (i := 69) (v := ?vK_72) hops hns rdK_77 (by rfl) frK_28 rfl (fun _ _ _ h => h) stK_80 (Or.inl ⟨by kernel_rfl, ?hyK_72⟩) (by assumption) ?restK_72
    case hyK_72 => (intro w hSw; go_simp; (try with_reducible rfl))
    try simp only [Act.put, List.setIfInBounds_toArray, List.set_cons_zero, List.set_cons_succ]
    refine wpAnyH_oneR (i := 72) (v := ?vK_73) hops rdK_78 rfl stK_81 (Or.inl ⟨by kernel_rfl, ?hyK_73⟩) (by assumption) ?restK_73
    case hyK_73 => (intro w hSw; go_simp; (try with_reducible rfl))
    try simp only [Act.put, List.setIfInBounds_toArray, List.set_cons_zero, List.set_cons_succ]
    refine wpAnyH_oneR (i := 73) (v := ?vK_74) hops rdK_79 rfl stK_82 (Or.inl ⟨by kernel_rfl, ?hyK_74⟩) (by assumption) ?restK_74
    case hyK_74 => (intro w hSw; go_simp; (try with_reducible rfl))
    try simp only [Act.put, List.setIfInBounds_toArray, List.set_cons_zero, List.set_cons_succ]
    refine wpAnyH_oneR (i := 74) (v := ?vK_75) hops rdK_80 rfl stK_83 (Or.inl ⟨by kernel_rfl, ?hyK_75⟩) (by assumption) ?restK_75
    case hyK_75 => (intro w hSw; go_simp; (try with_reducible rfl))
    try simp only [Act.put, List.setIfInBounds_toArray, List.set_cons_zero, List.set_cons_succ]
    refine wpAnyH_oneR (i := 75) (v := ?vK_76) hops rdK_81 rfl stK_84 (Or.inl ⟨by kernel_rfl, ?hyK_76⟩) (by assumption) ?restK_76
    case hyK_76 => (intro w hSw; go_simp; (try with_reducible rfl))
    try simp only [Act.put, List.setIfInBounds_toArray, List.set_cons_zero, List.set_cons_succ]
    refine wpAnyH_oneR (i := 76) (v := ?vK_77) hops rdK_82 rfl stK_85 (Or.inl ⟨by kernel_rfl, ?hyK_77⟩) (by assumption) ?restK_77
    case hyK_77 => (intro w hSw; go_simp; (try with_reducible rfl))
    try simp only [Act.put, List.setIfInBounds_toArray, List.set_cons_zero, List.set_cons_succ]
    refine wpAnyH_oneR (i := 77) (v := ?vK_78) hops rdK_83 rfl stK_86 (Or.inl ⟨by kernel_rfl, ?hyK_78⟩) (by assumption) ?restK_78
    case hyK_78 => (intro w hSw; go_simp; (try with_reducible rfl))
    try simp only [Act.put, List.setIfInBounds_toArray, List.set_cons_zero, List.set_cons_succ]
    refine wpAnyH_takeR (i := 89) (v := ?vK_79) hops hns rdK_84 (by rfl) frK_29 rfl (fun _ _ _ h => h) stK_87 (Or.inl ⟨by kernel_rfl, ?hyK_79⟩) (by assumption) ?restK_79
    case hyK_79 => (intro w hSw; go_simp; (try with_reducible rfl))
    try simp only [Act.put, List.setIfInBounds_toArray, List.set_cons_zero, List.set_cons_succ]
    refine wpAnyH_takeR (i := 90) (v := ?vK_80) hops hns rdK_85 (by rfl) frK_30 rfl (fun _ _ _ h => h) stK_88 (Or.inl ⟨by kernel_rfl, ?hyK_80⟩) (by assumption) ?restK_80
    case hyK_80 => (intro w hSw; go_simp; (try with_reducible rfl))
    try simp only [Act.put, List.setIfInBounds_toArray, List.set_cons_zero, List.set_cons_succ]
    refine wpAnyH_takeR (i := 91) (v := ?vK_81) hops hns rdK_86 (by rfl) frK_31 rfl (fun _ _ _ h => h) stK_89 (Or.inl ⟨by kernel_rfl, ?hyK_81⟩) (by assumption) ?restK_81
    case hyK_81 => (intro w hSw; go_simp; (try with_reducible rfl))
    try simp only [Act.put, List.setIfInBounds_toArray, List.set_cons_zero, List.set_cons_succ]
    refine wpAnyH_takeR (i := 92) (v := ?vK_82) hops hns rdK_87 (by rfl) frK_32 rfl (fun _ _ _ h => h) stK_90 (Or.inl ⟨by kernel_rfl, ?hyK_82⟩) (by assumption) ?restK_82
    case hyK_82 => (intro w hSw; go_simp; (try with_reducible rfl))
    try simp only [Act.put, List.setIfInBounds_toArray, List.set_cons_zero, List.set_cons_succ]
    refine wpAnyH_takeR (i := 78) (v := ?vK_83) hops hns rdK_88 (by rfl) frK_33 rfl (fun _ _ _ h => h) stK_91 (Or.inl ⟨by kernel_rfl, ?hyK_83⟩) (by assumption) ?restK_83
    case hyK_83 => (intro w hSw; go_simp; (try with_reducible rfl))
    try simp only [Act.put, List.setIfInBounds_toArray, List.set_cons_zero, List.set_cons_succ]
    refine wpAnyH_takeR (i := 79) (v := ?vK_84) hops hns rdK_89 (by rfl) frK_34 rfl (fun _ _ _ h => h) stK_92 (Or.inl ⟨by kernel_rfl, ?hyK_84⟩) (by assumption) ?restK_84
    case hyK_84 => (intro w hSw; go_simp; (try with_reducible rfl))
    try simp only [Act.put, List.setIfInBounds_toArray, List.set_cons_zero, List.set_cons_succ]
    refine wpAnyH_takeR (i := 80) (v := ?vK_85) hops hns rdK_90 (by rfl) frK_35 rfl (fun _ _ _ h => h) stK_93 (Or.inl ⟨by kernel_rfl, ?hyK_85⟩) (by assumption) ?restK_85
    case hyK_85 => (intro w hSw; go_simp; (try with_reducible rfl))
    try simp only [Act.put, List.setIfInBounds_toArray, List.set_cons_zero, List.set_cons_succ]
    refine wpAnyH_takeR (i := 81) (v := ?vK_86) hops hns rdK_91 (by rfl) frK_36 rfl (fun _ _ _ h => h) stK_94 (Or.inl ⟨by kernel_rfl, ?hyK_86⟩) (by assumption) ?restK_86
    case hyK_86 => (intro w hSw; have hf := hS.out w hSw; have x0 := hf.2.2.2.2.2.2.1; clear hf; go_simp; (try with_reducible rfl))
    try simp only [Act.put, List.setIfInBounds_toArray, List.set_cons_zero, List.set_cons_succ]
    refine wpAnyH_takeR (i := 82) (v := ?vK_87) hops hns rdK_92 (by rfl) frK_37 rfl (fun _ _ _ h => h) stK_95 (Or.inl ⟨by kernel_rfl, ?hyK_87⟩) (by assumption) ?restK_87
    case hyK_87 => (intro w hSw; have hf := hS.out w hSw; have x0 := hf.2.2.2.2.2.2.2.2; clear hf; go_simp; (try with_reducible rfl))
    try simp only [Act.put, List.setIfInBounds_toArray, List.set_cons_zero, List.set_cons_succ]
    have hz83 := bl_alloc hHeld (.cells (zer (.int .u8 0) 52).toArray 5)
    have hz84 := hcz.out W
    refine wpAnyH_readyR (rs := [83]) hops rdK_93 (by simp) (AllReadyH.consR rfl stK_96 (fun K hK => ?_) AllReadyH.nil)
    go_simp
    refine hK.out _ _ (by first | (with_reducible assumption) | exact hz83) (fun hHeld => ?_)
    clear hK K
    try simp only [Act.put, List.setIfInBounds_toArray, List.set_cons_zero, List.set_cons_succ]
    refine wpAnyH_readyR (rs := [84]) hops rdK_94 (by simp) (AllReadyH.consR rfl stK_97 (fun K hK => ?_) AllReadyH.nil)
    go_simp
    refine hK.out _ _ (by first | (with_reducible assumption) | exact hz83) (fun hHeld => ?_)
    clear hK K
    try simp only [Act.put, List.setIfInBounds_toArray, List.set_cons_zero, List.set_cons_succ]
    clear hz84
    refine wpAnyH_oneR (i := 85) (v := ?vK_88) hops rdK_95 rfl stK_98 (Or.inl ⟨by kernel_rfl, ?hyK_88⟩) (by assumption) ?restK_88
    case hyK_88 => (intro w hSw; go_simp; (try with_reducible rfl))
    try simp only [Act.put, List.setIfInBounds_toArray, List.set_cons_zero, List.set_cons_succ]
    refine wpAnyH_oneR (i := 86) (v := ?vK_89) hops rdK_96 rfl stK_99 (Or.inl ⟨by kernel_rfl, ?hyK_89⟩) (by assumption) ?restK_89
    case hyK_89 => (intro w hSw; go_simp; (try with_reducible rfl))
    try simp only [Act.put, List.setIfInBounds_toArray, List.set_cons_zero, List.set_cons_succ]
    refine wpAnyH_readyR (rs := [93]) hops rdK_97 (by simp) (AllReadyH.consR rfl stK_100 (fun K hK => ?_) AllReadyH.nil)
    go_simp
    refine hK.out _ _ (by exact bl_alloc hz83 _) (fun hHeld => ?_)
    clear hK K
    try simp only [Act.put, List.setIfInBounds_toArray, List.set_cons_zero, List.set_cons_succ]
    refine wpAnyH_oneR (i := 94) (v := ?vK_90) hops rdK_98 rfl stK_101 (Or.inl ⟨by kernel_rfl, ?hyK_90⟩) (by assumption) ?restK_90
    case hyK_90 => (intro w hSw; go_simp; (try with_reducible rfl))
    try simp only [Act.put, List.setIfInBounds_toArray, List.set_cons_zero, List.set_cons_succ]
    refine wpAnyH_doneR hops rdK_99 ?_
    obtain ⟨V, hV⟩ : ∃ V, V = (W.alloc (.cells (zer (.int .u8 0) 52).toArray 5)).alloc (.cells #[.bool true, .bool true, .bool true, .bool true, .bool true, .bool true, .bool true] 4) := ⟨_, rfl⟩
    rw [← hV]
    have hB2 : Hid (Below w.heap.size w V) := Lib.hid (by rw [hV]; exact hBz.out.trans ((bl_alloc hz83 _).mono hBz.out.size))
    have hrow : V.heap[W.heap.size + 1]? = some (.cells #[.bool true, .bool true, .bool true, .bool true, .bool true, .bool true, .bool true] 4 (0, 0)) := by
      rw [hV]
      have h := heap_alloc_new (W.alloc (.cells (zer (.int .u8 0) 52).toArray 5)) (.cells #[.bool true, .bool true, .bool true, .bool true, .bool true, .bool true, .bool true] 4)
      rw [World.size_alloc] at h
      exact h
    obtain ⟨k, hk, hke⟩ : ∃ k : Nat, k < 7 ∧ which % 7 = (k : Int) := ⟨(which % 7).toNat, by omega, by omega⟩
    have z0 : V.cell? ⟨W.heap.size + 1, k, none⟩ = some (.bool true) := by
      rw [cell_of_row _ _ k _ 4 (0, 0) hrow]
      rcases (by omega : k = 0 ∨ k = 1 ∨ k = 2 ∨ k = 3 ∨ k = 4 ∨ k = 5 ∨ k = 6) with rfl | rfl | rfl | rfl | rfl | rfl | rfl <;> rfl
    clear hrow
    replace hke := Lib.hid hke
    replace hV := Lib.hid hV
    have j1 : (0 : Int) ≤ (k : Int) := by omega
    have j2 : (k : Int) < 7 := by omega
    clear hk hHeld hz83
    go_wp2_with (go_at_call 20; refine (within_any which 7 _ (by decide) (by decide)).mono ?_; rintro e w' ⟨rfl, rfl⟩; rw [hke.out])
    go_ret
    exact ⟨rfl, hB2.out⟩
end Go.Proofs.Ytjlhajnficneoaa
