/- The walks: numbers laid and told, within, Clone, Equal. -/
import Derived.Test.YtjlhajnficneoaaSa
import Derived.Laws.CopyOwn
namespace Go.Proofs.Ytjlhajnficneoaa
set_option linter.unusedVariables false
set_option linter.unusedSimpArgs false
open Go.RowKit

/-- a number's bytes, the lowest first -/
def leN (x : Int) (k : Nat) : List Nat := (List.range k).map fun i => (x / 256 ^ i % 256).toNat
/-- a Part -/
structure PartD where
  gen : Int
  rc : Int
  n : Int
  ofn : Int
  data : List Nat
def PartD.ok (p : PartD) : Prop := 1 ≤ p.gen ∧ p.gen ≤ 4294967295 ∧ 0 ≤ p.rc ∧ p.rc ≤ 65535 ∧ 1 ≤ p.ofn ∧ p.ofn ≤ 255 ∧ 0 ≤ p.n ∧ p.n ≤ p.ofn - 1 ∧ p.data.length = 52
instance (p : PartD) : Decidable p.ok := by unfold PartD.ok; infer_instance
def PartD.head (p : PartD) : List Nat := leN p.gen 4 ++ leN p.rc 2 ++ leN p.n 1 ++ leN p.ofn 1
def PartD.bytes (p : PartD) : List Nat := p.head ++ leN (crc (p.head ++ p.data)) 4 ++ p.data
theorem leN_len (x : Int) (k : Nat) : (leN x k).length = k := by simp [leN]
theorem leN_snoc (x : Int) (k : Nat) : leN x (k + 1) = leN x k ++ [(x / 256 ^ k % 256).toNat] := by
  unfold leN; rw [List.range_succ, List.map_append]; rfl

theorem splice_snoc (cur : List Value) (off : Nat) (cs : List Value) (v : Value) (h : off + cs.length < cur.length) :
    (splice cur off cs).set (off + cs.length) v = splice cur off (cs ++ [v]) := by
  unfold splice
  have h1 : (cur.take off).length = off := by simp; omega
  rw [List.set_append_right _ _ (by omega), h1, List.set_append_right _ _ (by omega), show off + cs.length - off - cs.length = 0 by omega]
  rw [List.drop_eq_getElem_cons h, List.set_cons_zero, List.append_assoc]
  simp [Nat.add_assoc]
theorem splice_nil (cur : List Value) (off : Nat) : splice cur off [] = cur := by simp [splice]
theorem splice_step (w : World) (g off k : Nat) (cur cs : List Value) (v : Value) (t : TypeId) (hg : w.heap[g]? = some (.cells cur.toArray t (0, 0))) (hk : cs.length = k) (h : off + k < cur.length) :
    (w.setRow g (splice cur off cs).toArray).setCell ⟨g, off + k, none⟩ v = w.setRow g (splice cur off (cs ++ [v])).toArray := by
  subst hk
  rw [setCell_eq_setRow _ g _ (splice cur off cs).toArray t (0, 0) v (setRow_heap w g _ _ t _ hg), setRow_setRow]
  congr 1
  rw [List.setIfInBounds_toArray, splice_snoc cur off cs v h]
theorem row_cell (w : World) (g i : Nat) (l : List Value) (t : TypeId) (hg : w.heap[g]? = some (.cells l.toArray t (0, 0))) (h : i < l.length) : w.cell? ⟨g, i, none⟩ = some l[i] := by
  rw [cell_of_row w g i _ t _ hg]; simp [h]
theorem row_free (w : World) (g i : Nat) (l : Array Value) (t : TypeId) (hg : w.heap[g]? = some (.cells l t (0, 0))) : w.frozen? ⟨g, i, none⟩ = false := by simp [World.frozen?, hg]

set_option maxHeartbeats 1000000 in
theorem lay_any (g off n c : Nat) (cur : List Value) (x : Int) (w : World) (hg : w.heap[g]? = some (.cells cur.toArray 5 (0, 0))) (hfit : off + n ≤ cur.length) (hn : n ≤ 8) (hnc : n ≤ c) :
    Calls Try.prog 27 #[.slice (some ⟨g, off, none⟩) n c, .int .i64 x] w fun e w' => e = .returned (.tuple #[]) ∧ w' = w.setRow g (splice cur off (bs (leN x n))).toArray := by
  have hg' := Lib.hid hg
  clear hg
  go_enter Try.func27, Try.ntmps27
  go_wp2
  go_loopw [7] (fun i wr => ∃ k : Nat, i = .int .i64 k ∧ k ≤ n ∧ wr = w.setRow g (splice cur off (bs (leN x k))).toArray) (fun i _ => n - (intOf i).toNat)
  case atStart => exact ⟨0, rfl, by omega, by rw [show bs (leN x 0) = [] from rfl, splice_nil, setRow_self w g _ 5 _ hg'.out]⟩
  case round =>
    obtain ⟨k, rfl, hk, rfl⟩ := hrel
    by_cases hlt : k < n
    · have hd1 : decide (k < n) = true := by simpa using hlt
      have hlen : Hid ((bs (leN x k)).length = k) := Lib.hid (by rw [bs_length, leN_len])
      have hrow := setRow_heap w g _ (splice cur off (bs (leN x k))).toArray 5 _ hg'.out
      have hcell := row_cell _ g (off + k) _ 5 hrow (by rw [length_splice _ _ _ (by rw [hlen.out]; omega)]; omega)
      have hfree := row_free _ g (off + k) _ 5 hrow
      clear hrow
      have hval : Hid (Value.int .u8 (x / 2 ^ (8 * k) % 256) = by_ (x / 256 ^ k % 256).toNat) := Lib.hid (by
        unfold by_
        have e : (2 : Int) ^ (8 * k) = 256 ^ k := by rw [Int.pow_mul]; rfl
        rw [e]
        congr 1
        omega)
      have hnx : Hid ((w.setRow g (splice cur off (bs (leN x k))).toArray).setCell ⟨g, off + k, none⟩ (.int .u8 (x / 2 ^ (8 * k) % 256)) = w.setRow g (splice cur off (bs (leN x (k + 1)))).toArray) := Lib.hid (by
        rw [splice_step w g off k cur _ _ 5 hg'.out hlen.out (by omega), hval.out, leN_snoc]
        unfold bs
        rw [enc_append]
        rfl)
      go_wp2
      refine ⟨⟨k + 1, by go_num, by omega, hnx.out⟩, by simp [intOf]; omega⟩
    · have hd1 : decide (k < n) = false := by simpa using hlt
      have hkn : Hid (k = n) := Lib.hid (by omega)
      go_wp2
      go_end0
      exact ⟨rfl, by rw [hkn.out]⟩

theorem pow_le {l : List Nat} {k n : Nat} (h : l.length ≤ k) (hk : k ≤ n) : (256 : Nat) ^ l.length ≤ 256 ^ n := Nat.pow_le_pow_right (by decide) (by omega)

theorem wraps_i64 (n : Int) (h₀ : 0 ≤ n) (h₁ : n < 2 ^ 62) : IntKind.i64.wrap n = n := by
  rw [IntKind.wrap_i64]; omega
theorem or_le (v x k : Nat) (hk : k ≤ 3) (hv : v < 256 ^ k) (hx : x < 256) : bits .or .i64 (v : Int) (wrap64 ((x : Int) * 2 ^ (8 * k))) = ((v + x * 256 ^ k : Nat) : Int) := by
  have e8 : (2 : Int) ^ 8 = ((256 : Nat) : Int) := by decide
  have e : (2 : Int) ^ (8 * k) = ((256 ^ k : Nat) : Int) := by rw [Int.pow_mul, e8, Int.natCast_pow]
  have hp : 256 ^ k ≤ 256 ^ 3 := Nat.pow_le_pow_right (by decide) hk
  have hy : x * 256 ^ k < 4294967296 := by
    have : x * 256 ^ k ≤ 255 * 256 ^ 3 := Nat.mul_le_mul (by omega) hp
    omega
  rw [e, ← Int.natCast_mul]
  rw [show wrap64 ((x * 256 ^ k : Nat) : Int) = ((x * 256 ^ k : Nat) : Int) by
    generalize x * 256 ^ k = y at *
    unfold wrap64; omega]
  rw [(bits_nat .i64 62 (by decide) wraps_i64 v (x * 256 ^ k) (by omega) (by omega)).2]
  congr 1
  have e2 : 256 ^ k = 2 ^ (8 * k) := by rw [Nat.pow_mul]
  rw [Nat.or_comm, nat_join (8 * k) (x * 256 ^ k) v (by rw [e2, Nat.mul_mod_left]) (by rw [← e2]; exact hv), Nat.add_comm]

set_option maxHeartbeats 1000000 in
theorem told_any (A : Option Addr) (n c : Nat) (l : List Nat) (w : World) (hl : l.length = n) (hr : Rd w A (bs l)) (h8 : Bytes8 l) (hn : n ≤ 4) :
    Calls Try.prog 29 #[.slice A n c] w fun e w' => e = .returned (.int .i64 (num l)) ∧ w = w' := by
  subst hl
  have hr' := Lib.hid hr
  have h8' := Lib.hid h8
  clear hr h8
  go_enter Try.func29, Try.ntmps29
  go_wp2
  go_loop [3, 8] (fun v i => ∃ k : Nat, i = .int .i64 k ∧ k ≤ l.length ∧ v = .int .i64 (num (l.take k) : Nat)) (fun _ i => l.length - (intOf i).toNat)
  case atStart => exact ⟨0, rfl, by omega, rfl⟩
  case round =>
    obtain ⟨k, rfl, hk, rfl⟩ := hrel
    by_cases hlt : k < l.length
    · have hd1 : decide (k < l.length) = true := by simpa using hlt
      obtain ⟨ad, x, rfl, hx, hxe⟩ := hr'.out.at k hlt
      simp only [by_] at hx
      have hx8 : x < 256 := by rw [hxe]; exact h8'.out _ (List.getElem_mem hlt)
      have hnx := Lib.hid (num_take l k hlt)
      rw [← hxe] at hnx
      clear hxe
      have hb := num_lt (l.take k) (h8'.out.take k)
      rw [List.length_take, Nat.min_eq_left hk] at hb
      obtain ⟨v, hv⟩ : ∃ v, v = num (l.take k) := ⟨_, rfl⟩
      rw [← hv] at hnx hb ⊢
      clear hv
      have hb' := Lib.hid hb
      clear hb
      have hor := Lib.hid (or_le v x k (by omega) hb'.out hx8)
      go_wp2
      refine ⟨⟨k + 1, by go_num, by omega, ?_⟩, by simp [intOf]; omega⟩
      rw [hnx.out, hor.out]
    · have hd1 : decide (k < l.length) = false := by simpa using hlt
      have hkn : Hid (k = l.length) := Lib.hid (by omega)
      go_wp2
      go_ret
      exact ⟨ret_int (by rw [hkn.out, List.take_length]), rfl⟩

set_option maxHeartbeats 1000000 in
theorem num_any (A : Option Addr) (n c : Nat) (l : List Nat) (w : World) (hl : l.length = n) (hr : Rd w A (bs l)) (h8 : Bytes8 l) (hn : n ≤ 4) :
    Calls Try.prog 33 #[.slice A n c] w fun e w' => e = .returned (.int .i64 (num l)) ∧ w = w' := by
  subst hl
  have hr' := Lib.hid hr
  have h8' := Lib.hid h8
  clear hr h8
  go_enter Try.func33, Try.ntmps33
  go_wp2
  go_loop [3, 4] (fun v i => ∃ k : Nat, i = .int .i64 k ∧ k ≤ l.length ∧ v = .int .i64 (num (l.drop k) : Nat)) (fun _ i => (intOf i).toNat)
  case atStart => exact ⟨l.length, rfl, by omega, by rw [List.drop_length]; rfl⟩
  case round =>
    obtain ⟨k, rfl, hk, rfl⟩ := hrel
    by_cases hlt : 0 < k
    · obtain ⟨j, rfl⟩ : ∃ j, k = j + 1 := ⟨k - 1, by omega⟩
      obtain ⟨ad, x, rfl, hx, hxe⟩ := hr'.out.at j (by omega)
      simp only [by_] at hx
      have hx8 : x < 256 := by rw [hxe]; exact h8'.out _ (List.getElem_mem (by omega))
      have hnx := Lib.hid (num_drop l j (by omega))
      rw [← hxe] at hnx
      clear hxe
      have hb := num_lt (l.drop (j + 1)) (h8'.out.drop (j + 1))
      rw [List.length_drop] at hb
      have hb2 : num (l.drop (j + 1)) < 16777216 := by
        have : 256 ^ (l.length - (j + 1)) ≤ 256 ^ 3 := Nat.pow_le_pow_right (by decide) (by omega)
        omega
      clear hb
      obtain ⟨v, hv⟩ : ∃ v, v = num (l.drop (j + 1)) := ⟨_, rfl⟩
      rw [← hv] at hnx hb2 ⊢
      clear hv
      have hor : Hid (bits .or .i64 ((v : Int) * 256) (x : Int) = ((x + 256 * v : Nat) : Int)) := Lib.hid (by
        have := (bits_nat .i64 62 (by decide) wraps_i64 (v * 256) x (by omega) (by omega)).2
        rw [nat_join 8 (v * 256) x (by omega) hx8] at this
        rw [show x + 256 * v = v * 256 + x by omega, ← this]
        rfl)
      go_wp2
      refine ⟨⟨j, rfl, by omega, ?_⟩, by simp [intOf]⟩
      rw [hnx.out, hor.out]
    · have hk0 : k = 0 := by omega
      subst hk0
      go_wp2
      go_ret
      exact ⟨rfl, rfl⟩

set_option maxHeartbeats 400000 in
theorem win26_any (a lo hi : Int) (w : World) :
    Calls Try.prog 26 #[.int .i64 a, .int .i64 lo, .int .i64 hi] w fun e w' => e = .returned (.bool (decide (lo ≤ a ∧ a ≤ hi))) ∧ w = w' := by
  by_cases h1 : lo ≤ a
  · go_enter Try.func26, Try.ntmps26
    go_wp2
    go_ret
    exact ⟨ret_bool (by simp [h1]), rfl⟩
  · have h1' : decide (lo ≤ a) = false := by simpa using h1
    go_enter Try.func26, Try.ntmps26
    go_wp2
    go_ret
    exact ⟨ret_bool (by simp [h1]), rfl⟩

theorem tmod_bd (a n : Int) (h : 1 ≤ n) : -n < a.tmod n ∧ a.tmod n < n := by
  have h1 := Int.tmod_lt_of_pos a (show 0 < n by omega)
  have h2 := Int.lt_tmod_of_pos a (show 0 < n by omega)
  exact ⟨h2, h1⟩
theorem tmod_mod (a n : Int) (h : 1 ≤ n) : (if a.tmod n < 0 then a.tmod n + n else a.tmod n) = a % n := by
  have h1 := Int.emod_nonneg a (show n ≠ 0 by omega)
  have h2 := Int.emod_lt_of_pos a (show 0 < n by omega)
  rw [Int.tmod_eq_emod]
  have e : (n.natAbs : Int) = n := by omega
  by_cases g : 0 ≤ a ∨ n ∣ a
  · simp only [if_pos g]; split <;> omega
  · simp only [if_neg g]; split <;> omega

set_option maxHeartbeats 1000000 in
theorem within_any (a n : Int) (w : World) (h : 1 ≤ n) (h2 : n ≤ 9223372036854775807) :
    Calls Try.prog 20 #[.int .i64 a, .int .i64 n] w fun e w' => e = .returned (.int .i64 (a % n)) ∧ w = w' := by
  have hb := tmod_bd a n h
  have hm := Lib.hid (tmod_mod a n h)
  have hn : (n == 0) = false := by simp; omega
  go_enter Try.func20, Try.ntmps20
  go_wp2
  all_goals go_ret
  · have g : a.tmod n < 0 := by assumption
    exact ⟨ret_int (by rw [← hm.out, if_pos g]), rfl⟩
  · have g : 0 ≤ a.tmod n := by assumption
    exact ⟨ret_int (by rw [← hm.out, if_neg (by omega)]), rfl⟩

theorem info5 : (Try.prog.info? 5).map (fun i => (i.zero, i.size, i.bytes)) = some (some (.int .u8 0), 1, 1) := by kernel_rfl
theorem bs_one (l : List Nat) : ∀ u ∈ bs l, u.oneCell' = true := by
  intro u hu
  simp only [bs, enc, List.mem_map] at hu
  obtain ⟨q, _, rfl⟩ := hu
  rfl

/-- bytes.Clone -/
theorem clone_any (A : Option Addr) (n c : Nat) (l : List Nat) (w : World) (hl : l.length = n) (hr : Rd w A (bs l)) (hA : A = none → n = 0 ∧ c = 0) (hn : n ≤ 140737488355328) :
    Calls Try.prog 30 #[.slice A n c] w fun e w' => ∃ v, e = .returned v ∧ w'.ownsRow w.heap.size 5 1 v n (bs l) ∧ Below w.heap.size w w' := by
  subst hl
  have hr' := Lib.hid hr
  clear hr
  cases A with
  | none =>
    obtain ⟨h1, rfl⟩ := hA rfl
    have : l = [] := List.eq_nil_of_length_eq_zero h1
    subst this
    have hnil := fun w => Lib.run_eql_slice_nil (P := Try.prog) w 22 5 none 0 0 0 0 Try.underlying22
    go_enter Try.func30, Try.ntmps30
    go_wp2
    go_ret
    exact ⟨_, rfl, own_nil _ _ _ _, Below.refl _ _⟩
  | some ad =>
    have hnil := fun w => Lib.run_eql_slice_nil (P := Try.prog) w 22 5 (some ad) l.length c 0 0 Try.underlying22
    go_enter Try.func30, Try.ntmps30
    go_wp2_with (at_builtin; refine app_src (w0 := w) w.heap.size (by rfl) _ _ 22 5 (.int .u8 0) 1 1 rfl Try.underlying22 info5 rfl (by decide) (by decide) _ 0 [] rfl (own_lit w w.heap.size 5 1 0 [] (Nat.le_refl _) rfl (by omega)) ((Below.refl _ _).alloc (Nat.le_refl _) _) (by simp) (some ad) l.length c (bs l) rfl (by rw [bs_length, Nat.mul_one]) (hr'.out.below ((Below.refl _ _).alloc (Nat.le_refl _) _)) (fun e => by cases e) (bs_one l) (by omega) ?_; intro v6 w6 hown6 hb6 hg6 hat6; clear hg6 hat6)
    go_ret
    exact ⟨_, rfl, by simpa using hown6, hb6⟩

def strB (l : List Nat) : ByteArray := ⟨(l.map UInt8.ofNat).toArray⟩
theorem str_any (A : Option Addr) (n c : Nat) (l : List Nat) (w : World) (hl : l.length = n) (hr : Rd w A (bs l)) (hA : A = none → n = 0 ∧ c = 0) :
    (convert 22 9 (.slice A n c)).run Try.prog w = .ok (.string (strB l)) w := by
  subst hl
  cases A with
  | none =>
    have : l = [] := List.eq_nil_of_length_eq_zero (hA rfl).1
    subst this
    exact run_convert_bytes_nil (P := Try.prog) w 22 5 Try.underlying22 Try.underlying5 _ _ 9 Try.underlying9
  | some ad =>
    have hl : (loadCells ad l.length).run Try.prog w = .ok ((l.map (fun n : Nat => (n : Int))).map (Value.int .u8)).toArray w := by
      have := run_loadCells_list (P := Try.prog) w ad (bs l) (fun j v hj => by
        obtain ⟨h1, h2⟩ := List.getElem?_eq_some_iff.1 hj
        rw [hr.get j h1, h2])
      rw [bs_length] at this
      rw [this]
      simp [bs, enc, by_]
    rw [run_convert_bytes_string w 22 9 5 _ l.length c Try.underlying22 Try.underlying5 Try.underlying9, run_bytesToString w _ l.length c _ hl, foldl_push_bytes]
    simp [strB, ByteArray.empty, ByteArray.emptyWithCapacity]
    rfl
theorem strB_inj {l m : List Nat} (hl : Bytes8 l) (hm : Bytes8 m) (h : strB l = strB m) : l = m := by
  have h2 : l.map UInt8.ofNat = m.map UInt8.ofNat := by
    unfold strB at h
    injection h with h
    exact List.toArray_inj h
  have key : ∀ l : List Nat, Bytes8 l → (l.map UInt8.ofNat).map UInt8.toNat = l := by
    intro l hl
    rw [List.map_map]
    conv => rhs; rw [← List.map_id l]
    refine List.map_congr_left fun x hx => ?_
    have := hl x hx
    simp; omega
  rw [← key l hl, ← key m hm, h2]

/-- bytes.Equal -/
theorem equal_any (A B : Option Addr) (n c n' c' : Nat) (l m : List Nat) (w : World) (hl : l.length = n) (hm : m.length = n') (hr : Rd w A (bs l)) (hA : A = none → n = 0 ∧ c = 0) (hs : Rd w B (bs m)) (hB : B = none → n' = 0 ∧ c' = 0) (h8 : Bytes8 l) (k8 : Bytes8 m) :
    Calls Try.prog 31 #[.slice A n c, .slice B n' c'] w fun e w' => e = .returned (.bool (decide (l = m))) ∧ w = w' := by
  have h1 := str_any A n c l w hl hr hA
  have h2 := str_any B n' c' m w hm hs hB
  clear hr hs hA hB hl hm
  go_enter Try.func31, Try.ntmps31
  go_wp2
  go_ret
  refine ⟨ret_bool ?_, rfl⟩
  rw [Bool.eq_iff_iff, beq_iff_eq, decide_eq_true_eq]
  constructor
  · intro h
    refine strB_inj h8 k8 ?_
    unfold strB at h ⊢
    rw [ByteArray.toList_mk, ByteArray.toList_mk] at h
    rw [h]
  · intro h; rw [h]

/-- an argument that is a slice of bytes -/
theorem bytes_arg {w : World} {x : Addr} {n c : Nat} {zs : List Int} (hcell : ∀ i, i < zs.length → w.cell? (x.add i) = some (.int .u8 (zs.getD i 0))) (hw : ∀ y ∈ zs, (Lit.int .u8 y).wf = true) (hz : zs.length = c) (hl : n ≤ c) (hm : c ≤ 9223372036854775807) :
    ∃ l : List Nat, Rd w (some x) (bs l) ∧ Bytes8 l ∧ l.length = n ∧ n ≤ c ∧ c ≤ 9223372036854775807 ∧ ((some x : Option Addr) = none → n = 0 ∧ c = 0) := by
  have hr : ∀ y ∈ zs, 0 ≤ y ∧ y < 256 := by
    intro y hy
    have := hw y hy
    simp only [Lit.wf] at this
    have h1 : IntKind.u8.min = 0 := by decide
    have h2 : IntKind.u8.max = 255 := by decide
    rw [h1, h2] at this
    simp at this
    omega
  refine ⟨(zs.take n).map Int.toNat, ?_, ?_, by simp; omega, hl, hm, fun e => by cases e⟩
  · intro i hi
    have hi' : i < zs.length ∧ i < n := by simp [bs, enc] at hi; omega
    have hb := hr _ (List.getElem_mem hi'.1)
    refine ⟨x, rfl, ?_⟩
    rw [hcell i hi'.1]
    simp only [bs, enc, by_, List.getElem_map, List.getElem_take, List.getD_eq_getElem?_getD, List.getElem?_eq_getElem hi'.1, Option.getD_some]
    congr 2
    omega
  · intro y hy
    simp only [List.mem_map] at hy
    obtain ⟨q, hq, rfl⟩ := hy
    have := hr q (List.mem_of_mem_take hq)
    omega
end Go.Proofs.Ytjlhajnficneoaa
