/- The walks of Floats, Sum and known. -/
import Derived.Test.YtdhklfbelplbcaaFa
namespace Go.Proofs.Ytdhklfbelplbcaa
set_option linter.unusedVariables false
set_option linter.unusedSimpArgs false
open Go.RowKit

theorem info23 : (Try.prog.info? 23).map (fun i => (i.zero, i.size, i.bytes)) = some (some (.float .f64 0), 1, 8) := by kernel_rfl

def fl (l : List Nat) : List Value := enc (Value.float .f64) l

/-- a float operation that gives no number: some bits that are no number, one answer drawn -/
noncomputable def nanAt (w : World) (x y : Nat) : Nat := (Question.nanBits .f64 x y).cut (w.tape w.drawn (.nanBits .f64 x y))
theorem nanAt_nan (w : World) (x y : Nat) : nanB (nanAt w x y) = true := by
  unfold nanAt
  rw [nanB_eq]
  generalize w.tape w.drawn (.nanBits .f64 x y) = t
  simp only [Question.cut]
  have hu : (t / 2) % (2 ^ 52 - 1) < 2 ^ 52 - 1 := Nat.mod_lt _ (by decide)
  generalize (t / 2) % (2 ^ 52 - 1) = u at *
  have ht : t % 2 = 0 ∨ t % 2 = 1 := by omega
  generalize t % 2 = v at *
  have e : (v * 2 ^ 63 + 0x7ff0000000000000 + 1 + u) % 9223372036854775808 = 0x7ff0000000000000 + 1 + u := by
    rcases ht with rfl | rfl <;> omega
  unfold rdF Ieee.Format.read
  simp only [lp_eq, sw_eq, bi_eq, ir_eq, e]
  rw [if_neg (by omega), if_neg (by omega), if_neg (by omega)]
  rfl
theorem run_float_nan {P : Program} (w : World) (op : BinOp) (t : TypeId) (x y : Nat) (ho : op = .add ∨ op = .sub ∨ op = .mul ∨ op = .quo) (h : floatBits op .f64 x y = none) :
    (binOp op t (.float .f64 x) (.float .f64 y)).run P w = .ok (.float .f64 (nanAt w x y)) w.drew := by
  unfold floatBits at h
  rcases ho with rfl | rfl | rfl | rfl <;> simp only at h <;> simp [binOp, Op.floatArith, h, choose, Sem.run, Question.forced, nanAt]

def ints (l : List Int) : List Value := enc (Value.int .i64) l

theorem quo8' : ∀ k : Fin 2001, (floatBits .quo .f64 (floatOfInt .f64 ((k.val : Int) - 1000)) 4620693217682128896).isSome = true := by decide +kernel
theorem quo8 (x : Int) (h0 : 0 ≤ x) (h1 : x < 2001) : ∃ r, floatBits .quo .f64 (floatOfInt .f64 (x - 1000)) 4620693217682128896 = some r := by
  have := quo8' ⟨x.toNat, by omega⟩
  rw [show ((x.toNat : Nat) : Int) = x by omega] at this
  exact Option.isSome_iff_exists.1 this

theorem q_nan : floatBits .quo .f64 0 0 = none := by decide +kernel
theorem q_inf : floatBits .quo .f64 4607182418800017408 0 = some pinf := by decide +kernel
theorem q_minf : floatBits .quo .f64 13830554455654793216 0 = some ninf := by decide +kernel
theorem m_zero : floatBits .mul .f64 0 13830554455654793216 = some 9223372036854775808 := by decide +kernel
theorem m_zero' : floatBits .mul .f64 13830554455654793216 0 = some 9223372036854775808 := by decide +kernel

set_option maxHeartbeats 1000000 in
set_option maxRecDepth 100000 in
theorem floats_any (A : Option Addr) (c : Nat) (ns : List Int) (w : World) (hr : Rd w A (ints ns)) (hn : ns.length ≤ c) (hc : c ≤ 9223372036854775807) :
    Calls Try.prog 12 #[.slice A ns.length c] w fun e w' => ∃ v l, e = .returned v ∧ l.length ≤ 20 ∧ w'.ownsRow w.heap.size 23 1 v l.length (fl l) ∧ Below w.heap.size w w' := by
  obtain ⟨i0, hi, hz0, hz1, hz2⟩ := info_parts info23
  have hr' := Lib.hid hr
  clear hr
  go_enter Try.func12, Try.ntmps12
  go_wp2
  go_loopw [4, 5] (fun v i wr => ∃ (l : List Nat) (k : Nat), i = .int .i64 k ∧ k ≤ 20 ∧ k ≤ ns.length ∧ l.length = k ∧ wr.ownsRow w.heap.size 23 1 v k (fl l) ∧ Below w.heap.size w wr) (fun _ i _ => 20 - (intOf i).toNat)
  case atStart => exact ⟨[], 0, rfl, by omega, by omega, rfl, own_nil _ _ _ _, Below.refl _ _⟩
  case round =>
    obtain ⟨l, k, rfl, hk, hk2, hl, hown, hb⟩ := hrel
    by_cases hlt : k < ns.length ∧ k < 20
    · obtain ⟨h1, h2⟩ := hlt
      obtain ⟨ad, x, rfl, hx, -⟩ := (hr'.out.below hb).at k h1
      have hq0 := fun w => run_float_nan (P := Try.prog) w .quo 23 _ _ (by simp) q_nan
      have hq1 := fun w => run_float_arith (P := Try.prog) w .quo 23 .f64 _ _ _ q_inf
      have hq2 := fun w => run_float_arith (P := Try.prog) w .quo 23 .f64 _ _ _ q_minf
      have hq3 := fun w => run_float_arith (P := Try.prog) w .mul 23 .f64 _ _ _ m_zero
      have m1 := Int.emod_nonneg x (show (2001 : Int) ≠ 0 by omega)
      have m2 := Int.emod_lt_of_pos x (show (0 : Int) < 2001 by omega)
      obtain ⟨r8, hr8⟩ := quo8 (x % 2001) m1 m2
      have hq4 := fun w => run_float_arith (P := Try.prog) w .quo 23 .f64 _ _ _ hr8
      clear hr8
      have hd1 : decide (k < ns.length) = true := by simpa using h1
      have hd2 : decide ((k : Int) < 20) = true := by simp; omega
      go_upto_block 2 with (go_at_call 18; refine (within_any _ _ _ (by omega) (by omega)).mono ?_; rintro e w' ⟨rfl, rfl⟩)
      go_cut [6] (fun s6 wx => ∃ r n, s6 = .float .f64 r ∧ wx = wr.drewN n)
      case first =>
        go_wp2
        all_goals go_meet
        case rel => exact ⟨_, 1, rfl, rfl⟩
        all_goals exact ⟨_, 0, rfl, rfl⟩
      case rest =>
        obtain ⟨r, n, rfl, rfl⟩ := hcut
        have hown2 := Lib.hid (own_drewN hown n)
        have hb2 := Lib.hid (bl_drewN hb n)
        have hs := hb.size
        have hfl : (fl l).length = k := by simp [fl, enc, hl]
        clear hown hb hq0 hq1 hq2 hq3 hq4 m1 m2 hd1 hd2 hx
        have hfl' := Lib.hid hfl
        clear hfl
        have hl' := Lib.hid hl
        clear hl
        go_wp2_with (at_builtin; refine app_lit (w0 := w) w.heap.size rfl _ _ 25 23 (.float .f64 0) 1 8 rfl Try.underlying25 info23 rfl (by decide) (by decide) _ k (fl l) rfl hown2.out hb2.out (by simp; omega) 1 1 [.float .f64 r] rfl rfl (by simp [Value.oneCell']) (by omega) ?_; intro v1 w1 hown3 hb3 _ _)
        go_roundw
        case rel => exact ⟨l ++ [r], k + 1, by go_num, by omega, by omega, by simp [hl'.out], by simpa [fl, enc] using hown3, hb3⟩
        case measure => simp [intOf]; omega
    · have hl' := Lib.hid hl
      clear hl
      by_cases h1 : k < ns.length
      · have hd1 : decide (k < ns.length) = true := by simpa using h1
        have hd2 : decide ((k : Int) < 20) = false := by simp; omega
        clear hlt
        go_wp2
        go_ret
        exact ⟨_, l, rfl, by rw [hl'.out]; omega, by rw [hl'.out]; exact hown, hb⟩
      · have hd1 : decide (k < ns.length) = false := by simpa using h1
        clear hlt
        go_wp2
        go_ret
        exact ⟨_, l, rfl, by rw [hl'.out]; omega, by rw [hl'.out]; exact hown, hb⟩

/-! ### sums -/
/-- the sum so far: none, where it is no number -/
def addO (o : Option Nat) (x : Nat) : Option Nat := o.bind fun s => floatBits .add .f64 s x
def sumO (l : List Nat) : Option Nat := l.foldl addO (some 0)
/-- these bits are what the sum says -/
def IsO (o : Option Nat) (b : Nat) : Prop := match o with | some r => b = r | none => nanB b = true
theorem add_nan {s : Nat} (x : Nat) (h : nanB s = true) : floatBits .add .f64 s x = none := by
  rw [nanB_eq] at h
  show (((rdF s).sum (rdF x)).map Ieee.double.write) = none
  cases hs : rdF s with
  | nan a b => simp [Ieee.Datum.sum]
  | number a b c => rw [hs] at h; simp [Ieee.Datum.isNaN] at h
  | infinity a => rw [hs] at h; simp [Ieee.Datum.isNaN] at h

/-- one step of a sum -/
theorem run_add {P : Program} (w : World) (t : TypeId) (o : Option Nat) (s x : Nat) (h : IsO o s) :
    ∃ r n, (binOp .add t (.float .f64 s) (.float .f64 x)).run P w = .ok (.float .f64 r) (w.drewN n) ∧ IsO (addO o x) r := by
  have key : ∀ s, ∃ r n, (binOp .add t (.float .f64 s) (.float .f64 x)).run P w = .ok (.float .f64 r) (w.drewN n) ∧ IsO (floatBits .add .f64 s x) r := by
    intro s
    cases h : floatBits .add .f64 s x with
    | some r => exact ⟨r, 0, run_float_arith w .add t .f64 s x r h, rfl⟩
    | none => exact ⟨_, 1, run_float_nan (P := P) w .add t s x (by simp) h, nanAt_nan _ _ _⟩
  obtain ⟨r, n, h1, h2⟩ := key s
  cases o with
  | some s' =>
    simp only [IsO] at h
    subst h
    exact ⟨r, n, h1, h2⟩
  | none =>
    refine ⟨r, n, h1, ?_⟩
    rw [add_nan x h] at h2
    exact h2

theorem sumO_snoc (l : List Nat) (k : Nat) (h : k < l.length) : sumO (l.take (k + 1)) = addO (sumO (l.take k)) l[k] := by
  rw [List.take_succ_eq_append_getElem h, sumO, List.foldl_append]; rfl

set_option maxHeartbeats 1000000 in
theorem refsum_any (A : Option Addr) (c : Nat) (l : List Nat) (w : World) (hr : Rd w A (fl l)) (hn : l.length ≤ c) (hc : c ≤ 9223372036854775807) :
    Calls Try.prog 17 #[.slice A l.length c] w fun e w' => ∃ r n, e = .returned (.float .f64 r) ∧ IsO (sumO l) r ∧ w' = w.drewN n := by
  have hr' := Lib.hid hr
  clear hr
  go_enter Try.func17, Try.ntmps17
  go_wp2
  go_loopw [3, 4] (fun v i wr => ∃ (s k n : Nat), v = .float .f64 s ∧ i = .int .i64 k ∧ k ≤ l.length ∧ IsO (sumO (l.take k)) s ∧ wr = w.drewN n) (fun _ i _ => l.length - (intOf i).toNat)
  case atStart => exact ⟨0, 0, 0, rfl, rfl, by omega, rfl, rfl⟩
  case round =>
    obtain ⟨s, k, n, rfl, rfl, hk, ho, rfl⟩ := hrel
    by_cases hlt : k < l.length
    · obtain ⟨ad, x, rfl, hx, hxe⟩ := hr'.out.at k hlt
      obtain ⟨r, m, hadd, ho2⟩ := run_add (P := Try.prog) (w.drewN n) 23 _ s x ho
      have hd1 : decide (k < l.length) = true := by simpa using hlt
      have ho' : Hid (IsO (sumO (l.take (k + 1))) r) := Lib.hid (by rw [sumO_snoc l k hlt, ← hxe]; exact ho2)
      clear ho ho2 hxe
      go_wp2
      go_roundw
      case rel => exact ⟨r, k + 1, n + m, rfl, by go_num, by omega, ho'.out, by simp⟩
      case measure => simp [intOf]; omega
    · have hd1 : decide (k < l.length) = false := by simpa using hlt
      have hkl : Hid (k = l.length) := Lib.hid (by omega)
      have ho' := Lib.hid ho
      clear ho
      go_wp2
      go_ret
      exact ⟨s, n, rfl, by have := ho'.out; rwa [hkl.out, List.take_length] at this, rfl⟩

theorem run_store_float (P : Program) (w : World) (a : Addr) (m : Mode) (k : FloatKind) (b : Nat) : (store a (.float k b) m).run P w = stored P w a (.float k b) m := run_store P w a _ m rfl
attribute [local go_sem] run_store_float

set_option maxHeartbeats 1000000 in
theorem sum_any (A : Option Addr) (c : Nat) (l : List Nat) (w : World) (hr : Rd w A (fl l)) (hn : l.length ≤ c) (hc : c ≤ 9223372036854775807) :
    Calls Try.prog 15 #[.slice A l.length c] w fun e w' => ∃ r, e = .returned (.float .f64 r) ∧ IsO (sumO l) r ∧ Below w.heap.size w w' := by
  have hr' := Lib.hid hr
  clear hr
  go_enter Try.func15, Try.ntmps15
  go_wp2
  go_loopw [9] (fun i wr => ∃ (s k n : Nat), i = .int .i64 k ∧ k ≤ l.length ∧ IsO (sumO (l.take k)) s ∧ wr = (w.alloc (.cells #[.float .f64 s] 65)).drewN n) (fun i _ => l.length - (intOf i).toNat)
  case atStart => exact ⟨0, 0, 0, rfl, by omega, rfl, rfl⟩
  case round =>
    obtain ⟨s, k, n, rfl, hk, ho, rfl⟩ := hrel
    by_cases hlt : k < l.length
    · obtain ⟨ad, x, rfl, hx, hxe⟩ := hr'.out.at k hlt
      have hx2 : ((w.alloc (.cells #[.float .f64 s] 65)).drewN n).cell? (ad.add k) = some (.float .f64 x) := by
        rw [← hx]; exact Below.cell ((Below.refl _ _).alloc (Nat.le_refl _) _) (World.block_lt_of_cell? w _ hx)
      obtain ⟨r, m, hadd, ho2⟩ := run_add (P := Try.prog) ((w.alloc (.cells #[.float .f64 s] 65)).drewN n) 23 _ s x ho
      have hd1 : decide (k < l.length) = true := by simpa using hlt
      have ho' : Hid (IsO (sumO (l.take (k + 1))) r) := Lib.hid (by rw [sumO_snoc l k hlt, ← hxe]; exact ho2)
      clear ho ho2 hxe
      go_wp2
      refine ⟨⟨r, k + 1, n + m, by go_num, by omega, ho'.out, ?_⟩, by simp [intOf]; omega⟩
      show ((w.alloc (Obj.cells #[Value.float FloatKind.f64 s] 65)).setCell ⟨w.heap.size, 0, none⟩ (.float .f64 r)).drewN (n + m) = _
      rw [World.setCell_alloc_at _ _ _ _ _ rfl]
      rfl
    · have hd1 : decide (k < l.length) = false := by simpa using hlt
      have hkl : Hid (k = l.length) := Lib.hid (by omega)
      have ho' := Lib.hid ho
      clear ho
      go_wp2
      go_ret
      exact ⟨s, rfl, by have := ho'.out; rwa [hkl.out, List.take_length] at this, bl_drewN ((Below.refl _ _).alloc (Nat.le_refl _) _) _⟩
end Go.Proofs.Ytdhklfbelplbcaa
