/-
  The walks of the float functions of package rank and of its reference.
  The walks of Floats, Sum and known.
  The walks of known, alike and RankCmp.
  Strings that are lists of bytes; effects, as lists.
-/
import Derived.Test.YtdhklfbelplbcaaRows
import Derived.Test.YtdhklfbelplbcaaZ00
import Derived.Laws.RangeAny
import Derived.Laws.IdiomStrings
import Derived.Laws.Concat
import Derived.Laws.Runes
import Derived.StillTailTactics
import Derived.Sort.AtCall
import Derived.Deep.RegionHeld3
namespace Go.Proofs.Ytdhklfbelplbcaa
set_option linter.unusedVariables false
set_option linter.unusedSimpArgs false
open Go.RowKit

set_option maxHeartbeats 400000 in
theorem isnan_any (a : Nat) (w : World) :
    Calls Try.prog 48 #[.float .f64 a] w fun e w' => e = .returned (.bool (nanB a)) ∧ w = w' := by
  go_enter Try.func48, Try.ntmps48
  go_wp2
  go_ret
  exact ⟨rfl, rfl⟩

set_option maxHeartbeats 400000 in
theorem none_any (a : Nat) (w : World) :
    Calls Try.prog 30 #[.float .f64 a] w fun e w' => e = .returned (.bool (nanB a)) ∧ w = w' := by
  go_enter Try.func30, Try.ntmps30
  go_wp2
  go_ret
  exact ⟨rfl, rfl⟩

set_option maxHeartbeats 400000 in
theorem class_any (a : Nat) (w : World) :
    Calls Try.prog 27 #[.float .f64 a] w fun e w' => e = .returned (.int .i64 (cls a)) ∧ w = w' := by
  go_enter Try.func27, Try.ntmps27
  go_wp2_with (go_at_call 48; refine (isnan_any _ _).mono ?_; rintro e w' ⟨rfl, rfl⟩)
  all_goals go_ret
  · have h : nanB a = true := by assumption
    exact ⟨by simp [cls, h], rfl⟩
  · have h : nanB a = false := by assumption
    exact ⟨by simp [cls, h], rfl⟩

set_option maxHeartbeats 400000 in
theorem whole_any (a b : Int) (w : World) :
    Calls Try.prog 28 #[.int .i64 a, .int .i64 b] w fun e w' => e = .returned (.int .i64 (whole a b)) ∧ w = w' := by
  go_enter Try.func28, Try.ntmps28
  go_wp2
  all_goals go_ret
  all_goals refine ⟨ret_int ?_, rfl⟩
  all_goals (unfold whole; generalize wrap64 (a - b) = x at *; repeat' split)
  all_goals omega

theorem run_float64bits (a : Nat) (w : World) :
    (callFunc 61 #[.float .f64 a]).run Try.prog w = .ok (.value (.int .u64 a)) w := by
  have h : Try.prog.funcs[61]? = some Try.f61 := by kernel_rfl
  rw [run_callFunc_extern h (by kernel_rfl) (by kernel_rfl) (by kernel_rfl) (e := Extern.MathFloatBits.float64bits) (by kernel_rfl)]
  rfl

set_option maxHeartbeats 400000 in
theorem signbit_any (a : Nat) (w : World) :
    Calls Try.prog 49 #[.float .f64 a] w fun e w' => e = .returned (.bool (signB a)) ∧ w = w' := by
  have h := run_float64bits a
  go_enter Try.func49, Try.ntmps49
  go_wp2
  go_ret
  exact ⟨rfl, rfl⟩

set_option maxHeartbeats 400000 in
theorem side_any (a : Nat) (w : World) :
    Calls Try.prog 29 #[.float .f64 a] w fun e w' => e = .returned (.int .i64 (sideI a)) ∧ w = w' := by
  go_enter Try.func29, Try.ntmps29
  go_wp2_with (go_at_call 49; refine (signbit_any _ _).mono ?_; rintro e w' ⟨rfl, rfl⟩)
  all_goals go_ret
  all_goals refine ⟨ret_int ?_, rfl⟩
  · simp [sideI, zeroB, *]
  · simp [sideI, zeroB, *]
  · simp [sideI, zeroB, *]

theorem cls_bd (a : Nat) : 0 ≤ cls a ∧ cls a ≤ 1 := by unfold cls; split <;> omega

set_option maxHeartbeats 400000 in
theorem cmp_any (a b : Nat) (w : World) :
    Calls Try.prog 13 #[.float .f64 a, .float .f64 b] w fun e w' => e = .returned (.int .i64 (cmpF a b)) ∧ w = w' := by
  have ha := cls_bd a
  have hb := cls_bd b
  go_enter Try.func13, Try.ntmps13
  go_wp2_with (first | (go_at_call 27; refine (class_any _ _).mono ?_; rintro e w' ⟨rfl, rfl⟩) | (go_at_call 28; refine (whole_any _ _ _).mono ?_; rintro e w' ⟨rfl, rfl⟩) | (go_at_call 29; refine (side_any _ _).mono ?_; rintro e w' ⟨rfl, rfl⟩))
  all_goals go_ret
  all_goals refine ⟨ret_int ?_, rfl⟩
  · rw [cmpF, if_pos (by omega)]
  · have h : (FloatKind.f64.format.order a b == some Ordering.lt) = true := by assumption
    rw [cmpF, if_neg (by omega), if_pos (show ltB a b = true from h)]
  · have h : (FloatKind.f64.format.order a b == some Ordering.lt) = false := by assumption
    have h2 : (FloatKind.f64.format.order a b == some Ordering.gt) = true := by assumption
    rw [cmpF, if_neg (by omega), if_neg (by rw [ltB, h]; decide), if_pos (show gtB a b = true from h2)]
  · have h : (FloatKind.f64.format.order a b == some Ordering.lt) = false := by assumption
    have h2 : (FloatKind.f64.format.order a b == some Ordering.gt) = false := by assumption
    rw [cmpF, if_neg (by omega), if_neg (by rw [ltB, h]; decide), if_neg (by rw [gtB, h2]; decide)]

set_option maxHeartbeats 400000 in
theorem minus_any (a : Nat) (w : World) :
    Calls Try.prog 31 #[.float .f64 a] w fun e w' => e = .returned (.bool (minusB a)) ∧ w = w' := by
  cases h : zeroB a with
  | true =>
    have hq := fun w => run_float_arith (P := Try.prog) w .quo 23 .f64 4607182418800017408 a _ (quo_one h)
    have h' : (FloatKind.f64.format.order a 0 == some Ordering.eq) = true := h
    cases hs : signB a with
    | true =>
      rw [hs] at hq
      have e1 : (FloatKind.f64.format.order ninf 0 == some Ordering.lt) = true := lt_ninf
      go_enter Try.func31, Try.ntmps31
      go_wp2
      all_goals go_ret
      exact ⟨ret_bool (by simp [minusB, h, hs]), rfl⟩
    | false =>
      rw [hs] at hq
      have e1 : (FloatKind.f64.format.order pinf 0 == some Ordering.lt) = false := lt_pinf
      go_enter Try.func31, Try.ntmps31
      go_wp2
      all_goals go_ret
      exact ⟨ret_bool (by simp [minusB, h, hs]), rfl⟩
  | false =>
    have h' : (FloatKind.f64.format.order a 0 == some Ordering.eq) = false := h
    go_enter Try.func31, Try.ntmps31
    go_wp2
    all_goals go_ret
    exact ⟨ret_bool (by simp [minusB, h]), rfl⟩


set_option maxHeartbeats 1000000 in
theorem refcmp_any (a b : Nat) (w : World) :
    Calls Try.prog 14 #[.float .f64 a, .float .f64 b] w fun e w' => e = .returned (.int .i64 (refF a b)) ∧ w = w' := by
  go_enter Try.func14, Try.ntmps14
  go_wp2_with (first | (go_at_call 30; refine (none_any _ _).mono ?_; rintro e w' ⟨rfl, rfl⟩) | (go_at_call 31; refine (minus_any _ _).mono ?_; rintro e w' ⟨rfl, rfl⟩))
  all_goals go_ret
  all_goals refine ⟨ret_int ?_, rfl⟩
  all_goals (unfold refF ltB gtB; cases h1 : minusB a <;> cases h2 : minusB b <;> simp_all)

theorem tmod_bd (a n : Int) (h : 1 ≤ n) : -n < a.tmod n ∧ a.tmod n < n := by
  have h1 := Int.tmod_lt_of_pos a (show 0 < n by omega)
  have h2 := Int.lt_tmod_of_pos a (show 0 < n by omega)
  exact ⟨h2, h1⟩
theorem tmod_mod (a n : Int) (h : 1 ≤ n) : (if a.tmod n < 0 then a.tmod n + n else a.tmod n) = a % n := by
  have h1 := Int.emod_nonneg a (show n ≠ 0 by omega)
  have h2 := Int.emod_lt_of_pos a (show 0 < n by omega)
  rw [Int.tmod_eq_emod]
  have e : (n.natAbs : Int) = n := by omega
  by_cases g : 0 ≤ a ∨ n ∣ a
  · simp only [if_pos g]; split <;> omega
  · simp only [if_neg g]; split <;> omega

set_option maxHeartbeats 1000000 in
theorem within_any (a n : Int) (w : World) (h : 1 ≤ n) (h2 : n ≤ 9223372036854775807) :
    Calls Try.prog 18 #[.int .i64 a, .int .i64 n] w fun e w' => e = .returned (.int .i64 (a % n)) ∧ w = w' := by
  have hb := tmod_bd a n h
  have hm := Lib.hid (tmod_mod a n h)
  have hn : (n == 0) = false := by simp; omega
  go_enter Try.func18, Try.ntmps18
  go_wp2
  all_goals go_ret
  · have g : a.tmod n < 0 := by assumption
    exact ⟨ret_int (by rw [← hm.out, if_pos g]), rfl⟩
  · have g : 0 ≤ a.tmod n := by assumption
    exact ⟨ret_int (by rw [← hm.out, if_neg (by omega)]), rfl⟩
end Go.Proofs.Ytdhklfbelplbcaa
namespace Go.Proofs.Ytdhklfbelplbcaa
set_option linter.unusedVariables false
set_option linter.unusedSimpArgs false
open Go.RowKit

theorem info23 : (Try.prog.info? 23).map (fun i => (i.zero, i.size, i.bytes)) = some (some (.float .f64 0), 1, 8) := by kernel_rfl

def fl (l : List Nat) : List Value := enc (Value.float .f64) l

/-- a float operation that gives no number: some bits that are no number, one answer drawn -/
noncomputable def nanAt (w : World) (x y : Nat) : Nat := (Question.nanBits .f64 x y).cut (w.tape w.drawn (.nanBits .f64 x y))
theorem nanAt_nan (w : World) (x y : Nat) : nanB (nanAt w x y) = true := by
  unfold nanAt
  rw [nanB_eq]
  generalize w.tape w.drawn (.nanBits .f64 x y) = t
  simp only [Question.cut]
  have hu : (t / 2) % (2 ^ 52 - 1) < 2 ^ 52 - 1 := Nat.mod_lt _ (by decide)
  generalize (t / 2) % (2 ^ 52 - 1) = u at *
  have ht : t % 2 = 0 ∨ t % 2 = 1 := by omega
  generalize t % 2 = v at *
  have e : (v * 2 ^ 63 + 0x7ff0000000000000 + 1 + u) % 9223372036854775808 = 0x7ff0000000000000 + 1 + u := by
    rcases ht with rfl | rfl <;> omega
  unfold rdF Ieee.Format.read
  simp only [lp_eq, sw_eq, bi_eq, ir_eq, e]
  rw [if_neg (by omega), if_neg (by omega), if_neg (by omega)]
  rfl
theorem run_float_nan {P : Program} (w : World) (op : BinOp) (t : TypeId) (x y : Nat) (ho : op = .add ∨ op = .sub ∨ op = .mul ∨ op = .quo) (h : floatBits op .f64 x y = none) :
    (binOp op t (.float .f64 x) (.float .f64 y)).run P w = .ok (.float .f64 (nanAt w x y)) w.drew := by
  unfold floatBits at h
  rcases ho with rfl | rfl | rfl | rfl <;> simp only at h <;> simp [binOp, Op.floatArith, h, choose, Sem.run, Question.forced, nanAt]

def ints (l : List Int) : List Value := enc (Value.int .i64) l

theorem quo8' : ∀ k : Fin 2001, (floatBits .quo .f64 (floatOfInt .f64 ((k.val : Int) - 1000)) 4620693217682128896).isSome = true := by decide +kernel
theorem quo8 (x : Int) (h0 : 0 ≤ x) (h1 : x < 2001) : ∃ r, floatBits .quo .f64 (floatOfInt .f64 (x - 1000)) 4620693217682128896 = some r := by
  have := quo8' ⟨x.toNat, by omega⟩
  rw [show ((x.toNat : Nat) : Int) = x by omega] at this
  exact Option.isSome_iff_exists.1 this

theorem q_nan : floatBits .quo .f64 0 0 = none := by decide +kernel
theorem q_inf : floatBits .quo .f64 4607182418800017408 0 = some pinf := by decide +kernel
theorem q_minf : floatBits .quo .f64 13830554455654793216 0 = some ninf := by decide +kernel
theorem m_zero : floatBits .mul .f64 0 13830554455654793216 = some 9223372036854775808 := by decide +kernel
theorem m_zero' : floatBits .mul .f64 13830554455654793216 0 = some 9223372036854775808 := by decide +kernel

set_option maxHeartbeats 1000000 in
set_option maxRecDepth 100000 in
theorem floats_any (A : Option Addr) (c : Nat) (ns : List Int) (w : World) (hr : Rd w A (ints ns)) (hn : ns.length ≤ c) (hc : c ≤ 9223372036854775807) :
    Calls Try.prog 12 #[.slice A ns.length c] w fun e w' => ∃ v l, e = .returned v ∧ l.length ≤ 20 ∧ w'.ownsRow w.heap.size 23 1 v l.length (fl l) ∧ Below w.heap.size w w' := by
  obtain ⟨i0, hi, hz0, hz1, hz2⟩ := info_parts info23
  have hr' := Lib.hid hr
  clear hr
  go_enter Try.func12, Try.ntmps12
  go_wp2
  go_loopw [4, 5] (fun v i wr => ∃ (l : List Nat) (k : Nat), i = .int .i64 k ∧ k ≤ 20 ∧ k ≤ ns.length ∧ l.length = k ∧ wr.ownsRow w.heap.size 23 1 v k (fl l) ∧ Below w.heap.size w wr) (fun _ i _ => 20 - (intOf i).toNat)
  case atStart => exact ⟨[], 0, rfl, by omega, by omega, rfl, own_nil _ _ _ _, Below.refl _ _⟩
  case round =>
    obtain ⟨l, k, rfl, hk, hk2, hl, hown, hb⟩ := hrel
    by_cases hlt : k < ns.length ∧ k < 20
    · obtain ⟨h1, h2⟩ := hlt
      obtain ⟨ad, x, rfl, hx, -⟩ := (hr'.out.below hb).at k h1
      have hq0 := fun w => run_float_nan (P := Try.prog) w .quo 23 _ _ (by simp) q_nan
      have hq1 := fun w => run_float_arith (P := Try.prog) w .quo 23 .f64 _ _ _ q_inf
      have hq2 := fun w => run_float_arith (P := Try.prog) w .quo 23 .f64 _ _ _ q_minf
      have hq3 := fun w => run_float_arith (P := Try.prog) w .mul 23 .f64 _ _ _ m_zero
      have m1 := Int.emod_nonneg x (show (2001 : Int) ≠ 0 by omega)
      have m2 := Int.emod_lt_of_pos x (show (0 : Int) < 2001 by omega)
      obtain ⟨r8, hr8⟩ := quo8 (x % 2001) m1 m2
      have hq4 := fun w => run_float_arith (P := Try.prog) w .quo 23 .f64 _ _ _ hr8
      clear hr8
      have hd1 : decide (k < ns.length) = true := by simpa using h1
      have hd2 : decide ((k : Int) < 20) = true := by simp; omega
      go_upto_block 2 with (go_at_call 18; refine (within_any _ _ _ (by omega) (by omega)).mono ?_; rintro e w' ⟨rfl, rfl⟩)
      go_cut [6] (fun s6 wx => ∃ r n, s6 = .float .f64 r ∧ wx = wr.drewN n)
      case first =>
        go_wp2
        all_goals go_meet
        case rel => exact ⟨_, 1, rfl, rfl⟩
        all_goals exact ⟨_, 0, rfl, rfl⟩
      case rest =>
        obtain ⟨r, n, rfl, rfl⟩ := hcut
        have hown2 := Lib.hid (own_drewN hown n)
        have hb2 := Lib.hid (bl_drewN hb n)
        have hs := hb.size
        have hfl : (fl l).length = k := by simp [fl, enc, hl]
        clear hown hb hq0 hq1 hq2 hq3 hq4 m1 m2 hd1 hd2 hx
        have hfl' := Lib.hid hfl
        clear hfl
        have hl' := Lib.hid hl
        clear hl
        go_wp2_with (at_builtin; refine app_lit (w0 := w) w.heap.size rfl _ _ 25 23 (.float .f64 0) 1 8 rfl Try.underlying25 info23 rfl (by decide) (by decide) _ k (fl l) rfl hown2.out hb2.out (by simp; omega) 1 1 [.float .f64 r] rfl rfl (by simp [Value.oneCell']) (by omega) ?_; intro v1 w1 hown3 hb3 _ _)
        go_roundw
        case rel => exact ⟨l ++ [r], k + 1, by go_num, by omega, by omega, by simp [hl'.out], by simpa [fl, enc] using hown3, hb3⟩
        case measure => simp [intOf]; omega
    · have hl' := Lib.hid hl
      clear hl
      by_cases h1 : k < ns.length
      · have hd1 : decide (k < ns.length) = true := by simpa using h1
        have hd2 : decide ((k : Int) < 20) = false := by simp; omega
        clear hlt
        go_wp2
        go_ret
        exact ⟨_, l, rfl, by rw [hl'.out]; omega, by rw [hl'.out]; exact hown, hb⟩
      · have hd1 : decide (k < ns.length) = false := by simpa using h1
        clear hlt
        go_wp2
        go_ret
        exact ⟨_, l, rfl, by rw [hl'.out]; omega, by rw [hl'.out]; exact hown, hb⟩

/-! ### sums -/
/-- the sum so far: none, where it is no number -/
def addO (o : Option Nat) (x : Nat) : Option Nat := o.bind fun s => floatBits .add .f64 s x
def sumO (l : List Nat) : Option Nat := l.foldl addO (some 0)
/-- these bits are what the sum says -/
def IsO (o : Option Nat) (b : Nat) : Prop := match o with | some r => b = r | none => nanB b = true
theorem add_nan {s : Nat} (x : Nat) (h : nanB s = true) : floatBits .add .f64 s x = none := by
  rw [nanB_eq] at h
  show (((rdF s).sum (rdF x)).map Ieee.double.write) = none
  cases hs : rdF s with
  | nan a b => simp [Ieee.Datum.sum]
  | number a b c => rw [hs] at h; simp [Ieee.Datum.isNaN] at h
  | infinity a => rw [hs] at h; simp [Ieee.Datum.isNaN] at h

/-- one step of a sum -/
theorem run_add {P : Program} (w : World) (t : TypeId) (o : Option Nat) (s x : Nat) (h : IsO o s) :
    ∃ r n, (binOp .add t (.float .f64 s) (.float .f64 x)).run P w = .ok (.float .f64 r) (w.drewN n) ∧ IsO (addO o x) r := by
  have key : ∀ s, ∃ r n, (binOp .add t (.float .f64 s) (.float .f64 x)).run P w = .ok (.float .f64 r) (w.drewN n) ∧ IsO (floatBits .add .f64 s x) r := by
    intro s
    cases h : floatBits .add .f64 s x with
    | some r => exact ⟨r, 0, run_float_arith w .add t .f64 s x r h, rfl⟩
    | none => exact ⟨_, 1, run_float_nan (P := P) w .add t s x (by simp) h, nanAt_nan _ _ _⟩
  obtain ⟨r, n, h1, h2⟩ := key s
  cases o with
  | some s' =>
    simp only [IsO] at h
    subst h
    exact ⟨r, n, h1, h2⟩
  | none =>
    refine ⟨r, n, h1, ?_⟩
    rw [add_nan x h] at h2
    exact h2

theorem sumO_snoc (l : List Nat) (k : Nat) (h : k < l.length) : sumO (l.take (k + 1)) = addO (sumO (l.take k)) l[k] := by
  rw [List.take_succ_eq_append_getElem h, sumO, List.foldl_append]; rfl

set_option maxHeartbeats 1000000 in
theorem refsum_any (A : Option Addr) (c : Nat) (l : List Nat) (w : World) (hr : Rd w A (fl l)) (hn : l.length ≤ c) (hc : c ≤ 9223372036854775807) :
    Calls Try.prog 17 #[.slice A l.length c] w fun e w' => ∃ r n, e = .returned (.float .f64 r) ∧ IsO (sumO l) r ∧ w' = w.drewN n := by
  have hr' := Lib.hid hr
  clear hr
  go_enter Try.func17, Try.ntmps17
  go_wp2
  go_loopw [3, 4] (fun v i wr => ∃ (s k n : Nat), v = .float .f64 s ∧ i = .int .i64 k ∧ k ≤ l.length ∧ IsO (sumO (l.take k)) s ∧ wr = w.drewN n) (fun _ i _ => l.length - (intOf i).toNat)
  case atStart => exact ⟨0, 0, 0, rfl, rfl, by omega, rfl, rfl⟩
  case round =>
    obtain ⟨s, k, n, rfl, rfl, hk, ho, rfl⟩ := hrel
    by_cases hlt : k < l.length
    · obtain ⟨ad, x, rfl, hx, hxe⟩ := hr'.out.at k hlt
      obtain ⟨r, m, hadd, ho2⟩ := run_add (P := Try.prog) (w.drewN n) 23 _ s x ho
      have hd1 : decide (k < l.length) = true := by simpa using hlt
      have ho' : Hid (IsO (sumO (l.take (k + 1))) r) := Lib.hid (by rw [sumO_snoc l k hlt, ← hxe]; exact ho2)
      clear ho ho2 hxe
      go_wp2
      go_roundw
      case rel => exact ⟨r, k + 1, n + m, rfl, by go_num, by omega, ho'.out, by simp⟩
      case measure => simp [intOf]; omega
    · have hd1 : decide (k < l.length) = false := by simpa using hlt
      have hkl : Hid (k = l.length) := Lib.hid (by omega)
      have ho' := Lib.hid ho
      clear ho
      go_wp2
      go_ret
      exact ⟨s, n, rfl, by have := ho'.out; rwa [hkl.out, List.take_length] at this, rfl⟩

theorem run_store_float (P : Program) (w : World) (a : Addr) (m : Mode) (k : FloatKind) (b : Nat) : (store a (.float k b) m).run P w = stored P w a (.float k b) m := run_store P w a _ m rfl
attribute [local go_sem] run_store_float

set_option maxHeartbeats 1000000 in
theorem sum_any (A : Option Addr) (c : Nat) (l : List Nat) (w : World) (hr : Rd w A (fl l)) (hn : l.length ≤ c) (hc : c ≤ 9223372036854775807) :
    Calls Try.prog 15 #[.slice A l.length c] w fun e w' => ∃ r, e = .returned (.float .f64 r) ∧ IsO (sumO l) r ∧ Below w.heap.size w w' := by
  have hr' := Lib.hid hr
  clear hr
  go_enter Try.func15, Try.ntmps15
  go_wp2
  go_loopw [9] (fun i wr => ∃ (s k n : Nat), i = .int .i64 k ∧ k ≤ l.length ∧ IsO (sumO (l.take k)) s ∧ wr = (w.alloc (.cells #[.float .f64 s] 65)).drewN n) (fun i _ => l.length - (intOf i).toNat)
  case atStart => exact ⟨0, 0, 0, rfl, by omega, rfl, rfl⟩
  case round =>
    obtain ⟨s, k, n, rfl, hk, ho, rfl⟩ := hrel
    by_cases hlt : k < l.length
    · obtain ⟨ad, x, rfl, hx, hxe⟩ := hr'.out.at k hlt
      have hx2 : ((w.alloc (.cells #[.float .f64 s] 65)).drewN n).cell? (ad.add k) = some (.float .f64 x) := by
        rw [← hx]; exact Below.cell ((Below.refl _ _).alloc (Nat.le_refl _) _) (World.block_lt_of_cell? w _ hx)
      obtain ⟨r, m, hadd, ho2⟩ := run_add (P := Try.prog) ((w.alloc (.cells #[.float .f64 s] 65)).drewN n) 23 _ s x ho
      have hd1 : decide (k < l.length) = true := by simpa using hlt
      have ho' : Hid (IsO (sumO (l.take (k + 1))) r) := Lib.hid (by rw [sumO_snoc l k hlt, ← hxe]; exact ho2)
      clear ho ho2 hxe
      go_wp2
      refine ⟨⟨r, k + 1, n + m, by go_num, by omega, ho'.out, ?_⟩, by simp [intOf]; omega⟩
      show ((w.alloc (Obj.cells #[Value.float FloatKind.f64 s] 65)).setCell ⟨w.heap.size, 0, none⟩ (.float .f64 r)).drewN (n + m) = _
      rw [World.setCell_alloc_at _ _ _ _ _ rfl]
      rfl
    · have hd1 : decide (k < l.length) = false := by simpa using hlt
      have hkl : Hid (k = l.length) := Lib.hid (by omega)
      have ho' := Lib.hid ho
      clear ho
      go_wp2
      go_ret
      exact ⟨s, rfl, by have := ho'.out; rwa [hkl.out, List.take_length] at this, bl_drewN ((Below.refl _ _).alloc (Nat.le_refl _) _) _⟩
end Go.Proofs.Ytdhklfbelplbcaa
namespace Go.Proofs.Ytdhklfbelplbcaa
set_option linter.unusedVariables false
set_option linter.unusedSimpArgs false
open Go.RowKit
attribute [local go_sem] run_store_float

theorem k1 : cmpF 9223372036854775808 0 = -1 := by decide +kernel
theorem k2 : cmpF 4611686018427387904 4607182418800017408 = 1 := by decide +kernel
theorem k3 : sumO [4607182418800017408, 4611686018427387904] = some 4613937818241073152 := by decide +kernel
theorem k4 : (FloatKind.f64.format.order 4613937818241073152 4613937818241073152 == some .eq) = true := by decide +kernel

set_option maxHeartbeats 1000000 in
set_option maxRecDepth 100000 in
theorem known_any (w : World) :
    Calls Try.prog 11 #[] w fun e w' => e = .returned (.bool true) ∧ Below w.heap.size w w' := by
  have h1 := k1
  have h2 := k2
  have h4 := k4
  have hq := fun w => run_float_arith (P := Try.prog) w .mul 23 .f64 _ _ _ m_zero'
  go_enter Try.func11, Try.ntmps11
  go_wp2_with (first | (go_at_call 13; refine (cmp_any _ _ _).mono ?_; rintro e w' ⟨rfl, rfl⟩) | (go_at_call 15; refine (sum_any (some ⟨w.heap.size, 0, none⟩) 2 [4607182418800017408, 4611686018427387904] _ (rd_new w _ 23) (by simp) (by omega)).mono ?_; rintro e w' ⟨r, rfl, hr, hb⟩; rw [k3] at hr; have hr2 : r = 4613937818241073152 := hr; clear hr; subst hr2))
  all_goals go_ret
  exact ⟨rfl, bl_then ((Below.refl _ _).alloc (Nat.le_refl _) _) (by simp) hb⟩

set_option maxHeartbeats 1000000 in
theorem alike_any (a b : Nat) (w : World) :
    Calls Try.prog 16 #[.float .f64 a, .float .f64 b] w fun e w' => e = .returned (.bool (refF a b == 0)) ∧ w = w' := by
  go_enter Try.func16, Try.ntmps16
  go_wp2_with (go_at_call 14; refine (refcmp_any _ _ _).mono ?_; rintro e w' ⟨rfl, rfl⟩)
  all_goals go_ret
  all_goals exact ⟨rfl, rfl⟩

theorem fl_length (l : List Nat) : (fl l).length = l.length := enc_length _ l

set_option maxHeartbeats 2000000 in
set_option maxRecDepth 100000 in
theorem rankcmp_any (w : World) (A : Option Addr) (c : Nat) (ns : List Int) (hr : Rd w A (ints ns)) (hn : ns.length ≤ c) (hc : c ≤ 9223372036854775807) (_ : ∀ x ∈ ns, (Lit.int .i64 x).wf = true) (a b : Nat) :
    Calls Try.prog 3 #[.slice A ns.length c, .float .f64 a, .float .f64 b] w fun e w' => e = .returned (.bool true) ∧ Below w.heap.size w w' := by
  obtain ⟨i0, hi, hz0, hz1, hz2⟩ := info_parts info23
  have hr' := Lib.hid hr
  clear hr
  go_enter Try.func3, Try.ntmps3
  go_wp2_with (first
    | (go_at_call 11; refine (known_any _).mono ?_; rintro e w1 ⟨rfl, hb1⟩)
    | (go_at_call 12; refine (floats_any A c ns _ (hr'.out.below hb1) hn hc).mono ?_; rintro e w2 ⟨v, l, rfl, hl, hown, hb2⟩)
    | (at_builtin; refine app_lit (w0 := w) w.heap.size rfl _ _ 25 23 (.float .f64 0) 1 8 rfl Try.underlying25 info23 rfl (by decide) (by decide) v l.length (fl l) rfl (own_weaken hown hb1.size) (bl_then hb1 hb1.size hb2) (Nat.le_trans hb1.size hb2.size) 3 3 [.float .f64 a, .float .f64 b, .float .f64 0] rfl rfl (by simp [Value.oneCell']) (by omega) ?_; intro v3 w3 hown3 hb3 hg3 hat3; clear hg3 hat3; obtain ⟨A3, c3, rfl, hn3, hc3, hr3, -⟩ := Rd.own hown3; clear hown3 hown))
  obtain ⟨L, N, hN, hL, hr4, hN2⟩ : ∃ (L : List Nat) (N : Nat), N = l.length + 3 ∧ L.length = N ∧ Hid (Rd w3 A3 (fl L)) ∧ N ≤ 23 :=
    ⟨l ++ [a, b, 0], _, rfl, by simp, Lib.hid (by simpa [fl, enc] using hr3), by omega⟩
  have hb3' := Lib.hid hb3
  clear hb1 hb2 hb3 hr3
  rw [← hN] at *
  clear hN hl hi hz0 hz1 hz2 hr'
  have hL' := Lib.hid hL
  clear hL
  go_loopw [8] (fun i wr => ∃ k n : Nat, i = .int .i64 k ∧ k ≤ N ∧ wr = w3.drewN n) (fun i _ => N - (intOf i).toNat)
  case atStart => exact ⟨0, 0, rfl, by omega, rfl⟩
  case round =>
    obtain ⟨i, n, rfl, hi, rfl⟩ := hrel
    by_cases hlt : i < N
    · have hd1 : decide (i < N) = true := by simpa using hlt
      obtain ⟨ad, xi, rfl, hxi, -⟩ := hr4.out.at i (by rw [hL'.out]; exact hlt)
      go_wp2
      go_loopw [9] (fun i wr => ∃ k n : Nat, i = .int .i64 k ∧ k ≤ N ∧ wr = w3.drewN n) (fun i _ => N - (intOf i).toNat)
      case atStart => exact ⟨0, n, rfl, by omega, rfl⟩
      case round =>
        obtain ⟨k, m, rfl, hk, rfl⟩ := hrel
        by_cases hlt2 : k < N
        · have hd2 : decide (k < N) = true := by simpa using hlt2
          obtain ⟨ad', xk, e, hxk, -⟩ := hr4.out.at k (by rw [hL'.out]; exact hlt2)
          cases e
          have hb0 := cmpF_bd xi xk
          have b1 : (0 : Int) ≤ (i : Int) := by omega
          have b2 : (i : Int) < (N : Int) := by omega
          have b3 : (0 : Int) ≤ (k : Int) := by omega
          have b4 : (k : Int) < (N : Int) := by omega
          have e1 : (cmpF xi xk != refF xi xk) = false := by rw [cmpF_ref]; simp
          have e2 : (cmpF xk xi != -cmpF xi xk) = false := by rw [cmpF_turn xi xk]; simp
          go_wp2
          go_quiet ((go_at_call 13; first | exact quiet_same (cmp_any _ _ _) | exact quiet_add (cmp_any _ _ _)))
          go_wp2
          go_quiet ((first | (go_at_call 13; first | exact quiet_same (cmp_any _ _ _) | exact quiet_add (cmp_any _ _ _)) | (go_at_call 14; first | exact quiet_same (refcmp_any _ _ _) | exact quiet_add (refcmp_any _ _ _))))
          go_wp2
          clear e1 e2
          go_loopw [11] (fun i wr => ∃ k n : Nat, i = .int .i64 k ∧ k ≤ N ∧ wr = w3.drewN n) (fun i _ => N - (intOf i).toNat)
          case atStart => exact ⟨0, _, rfl, by omega, by simp only [World.drewN_drewN]; rfl⟩
          case round =>
            obtain ⟨j, p, rfl, hj, rfl⟩ := hrel
            by_cases hlt3 : j < N
            · have hd3 : decide (j < N) = true := by simpa using hlt3
              by_cases h6 : j < 6
              · have hd4 : decide ((j : Int) < 6) = true := by simp; omega
                obtain ⟨ad', xj, e, hxj, -⟩ := hr4.out.at j (by rw [hL'.out]; exact hlt3)
                cases e
                have b5 : (0 : Int) ≤ (j : Int) := by omega
                have b6 : (j : Int) < (N : Int) := by omega
                have hon := cmpF_on xi xk xj
                have hb1 := cmpF_bd xk xj
                have hb2 := cmpF_bd xi xj
                by_cases g1 : cmpF xi xk ≤ 0
                · by_cases g2 : cmpF xk xj ≤ 0
                  · have g3 : cmpF xi xj ≤ 0 := hon g1 g2
                    clear hon
                    have d1 : decide (cmpF xi xk ≤ 0) = true := by simpa using g1
                    have d2 : decide (cmpF xk xj ≤ 0) = true := by simpa using g2
                    have d3 : decide (0 < cmpF xi xj) = false := by simpa using g3
                    go_wp2
                    go_quiet ((go_at_call 13; first | exact quiet_same (cmp_any _ _ _) | exact quiet_add (cmp_any _ _ _)))
                    go_wp2
                    go_roundw
                    case rel => exact ⟨j + 1, _, by go_num, by omega, rfl⟩
                    case measure => simp [intOf]; omega
                  · clear hon
                    have d1 : decide (cmpF xi xk ≤ 0) = true := by simpa using g1
                    have d2 : decide (cmpF xk xj ≤ 0) = false := by simpa using g2
                    go_wp2
                    go_quiet ((go_at_call 13; first | exact quiet_same (cmp_any _ _ _) | exact quiet_add (cmp_any _ _ _)))
                    go_wp2
                    go_roundw
                    case rel => exact ⟨j + 1, _, by go_num, by omega, rfl⟩
                    case measure => simp [intOf]; omega
                · clear hon
                  have d1 : decide (cmpF xi xk ≤ 0) = false := by simpa using g1
                  go_wp2
                  go_quiet ((go_at_call 13; first | exact quiet_same (cmp_any _ _ _) | exact quiet_add (cmp_any _ _ _)))
                  go_wp2
                  go_roundw
                  case rel => exact ⟨j + 1, _, by go_num, by omega, rfl⟩
                  case measure => simp [intOf]; omega
              · have hd4 : decide ((j : Int) < 6) = false := by simp; omega
                go_wp2
                go_roundw
                case rel => exact ⟨k + 1, _, by go_num, by omega, rfl⟩
                case measure => simp [intOf]; omega
            · have hd3 : decide (j < N) = false := by simpa using hlt3
              go_wp2
              go_roundw
              case rel => exact ⟨k + 1, _, by go_num, by omega, rfl⟩
              case measure => simp [intOf]; omega
        · have hd2 : decide (k < N) = false := by simpa using hlt2
          go_wp2
          go_roundw
          case rel => exact ⟨i + 1, m, by go_num, by omega, rfl⟩
          case measure => simp [intOf]; omega
    · have hd1 : decide (i < N) = false := by simpa using hlt
      go_wp2
      go_ret
      exact ⟨rfl, bl_drewN hb3'.out _⟩
end Go.Proofs.Ytdhklfbelplbcaa
namespace Go.Proofs.Ytdhklfbelplbcaa
set_option linter.unusedVariables false
set_option linter.unusedSimpArgs false
open Go.RowKit

/-- a string of these bytes -/
def st (l : List Int) : ByteArray := ⟨(l.map fun x => UInt8.ofNat x.toNat).toArray⟩
/-- bytes that are letters -/
def Asc (l : List Int) : Prop := ∀ x ∈ l, 0 ≤ x ∧ x < 128
/-- signs -/
def Sg (l : List Int) : Prop := ∀ x ∈ l, 48 ≤ x ∧ x ≤ 50
theorem Sg.asc {l : List Int} (h : Sg l) : Asc l := fun x hx => by have := h x hx; omega
theorem Sg.nil : Sg [] := fun x hx => by simp at hx
theorem Sg.get {l : List Int} (h : Sg l) (k : Nat) (hk : k < l.length) : 48 ≤ l[k] ∧ l[k] ≤ 50 := h _ (List.getElem_mem _)
theorem Asc.get {l : List Int} (h : Asc l) (k : Nat) (hk : k < l.length) : 0 ≤ l[k] ∧ l[k] < 128 := h _ (List.getElem_mem _)
theorem st_size (l : List Int) : (st l).size = l.length := by
  show ((l.map fun x => UInt8.ofNat x.toNat).toArray).size = _
  simp
theorem st_get (l : List Int) (ha : Asc l) (k : Nat) (h : k < (st l).size) : (((st l)[k]'h).toNat : Int) = l[k]'(by rw [st_size] at h; exact h) := by
  have hk : k < l.length := by rw [st_size] at h; exact h
  have hb := ha.get k hk
  show ((((l.map fun x => UInt8.ofNat x.toNat).toArray)[k]'(by simpa using hk)).toNat : Int) = _
  simp only [List.getElem_toArray, List.getElem_map, UInt8.toNat_ofNat']
  omega
theorem st_app (l m : List Int) : st l ++ st m = st (l ++ m) := by
  unfold st; rw [ByteArray.mk_append_mk, List.map_append]
theorem st_nil : st [] = ⟨#[]⟩ := rfl
theorem st_list (l : List Int) : (st l).toList = l.map fun x => UInt8.ofNat x.toNat := by
  unfold st; exact ByteArray.toList_mk _
theorem st_data (l : List Int) : (st l).data.toList = l.map fun x => UInt8.ofNat x.toNat := by
  unfold st; simp
theorem enc_st (x : Int) (h0 : 0 ≤ x) (h1 : x < 128) : Utf8.encode x = st [x] := by
  unfold Utf8.encode st
  have hv : Utf8.valid x = true := by
    simp only [Utf8.valid]
    have a1 : decide (0 ≤ x) = true := by simpa using h0
    simp [a1]
    omega
  have hc : x.toNat < 128 := by omega
  simp [hv, hc]
theorem decode_st (l : List Int) (ha : Asc l) (k : Nat) (hk : k < l.length) : Utf8.decode (st l) k = ((l[k]).toNat, 1) := by
  have h : k < (st l).size := by rw [st_size]; exact hk
  have hg := st_get l ha k h
  have hb := ha.get k hk
  rw [decode_ascii (st l) k h (by omega)]
  congr 1
  omega
theorem runes_from (l : List Int) (ha : Asc l) : ∀ (n k : Nat) (acc : Array Value), k + n = l.length → Conv.runesFrom (st l) n k acc = acc ++ ((l.drop k).map (Value.int .i32)).toArray := by
  intro n
  induction n with
  | zero =>
    intro k acc hk
    rw [List.drop_of_length_le (by omega)]
    simp [Conv.runesFrom]
  | succ n ih =>
    intro k acc hk
    have hlt : k < l.length := by omega
    have h : k < (st l).size := by rw [st_size]; exact hlt
    have hb := ha.get k hlt
    unfold Conv.runesFrom
    rw [if_pos h, decode_st l ha k hlt]
    simp only
    have e : Int.ofNat (l[k]).toNat = l[k] := by simp; omega
    rw [ih (k + 1) _ (by omega), e, List.drop_eq_getElem_cons hlt, List.map_cons]
    apply Array.ext'
    simp only [Array.toList_append, Array.toList_push, List.append_assoc, List.singleton_append]
theorem runes_st (l : List Int) (ha : Asc l) : Conv.runesFrom (st l) (st l).size 0 #[] = (l.map (Value.int .i32)).toArray := by
  rw [runes_from l ha _ 0 #[] (by rw [st_size]; omega)]
  simp
theorem st_extract (l : List Int) (a b : Nat) : (st l).extract a b = st ((l.take b).drop a) := by
  apply ByteArray.ext
  unfold st
  rw [ByteArray.data_extract]
  simp
  rw [List.drop_take]

/-! ### effects -/
def th (x y : Int) : Int := if y = 49 then x else y
def thenL (a b : List Int) : List Int := List.zipWith th a b
def leastL (a b : List Int) : List Int := List.zipWith min a b
def mostL (a b : List Int) : List Int := List.zipWith max a b
def putL (a : List Int) (at_ c : Int) : List Int := if 0 ≤ at_ then a.set at_.toNat c else a
def hasL (a : List Int) (at_ : Int) : Bool := decide (0 ≤ at_) && (a[at_.toNat]? == some 50)
def allL (n : Nat) (c : Int) : List Int := List.replicate n c
theorem ret_str {a b : ByteArray} (h : a = b) : Ending.returned (.string a) = .returned (.string b) := by rw [h]
set_option maxRecDepth 100000 in
theorem conv_one (w : World) (x : Int) (h0 : 0 ≤ x) (h1 : x < 256) :
    (convert 127 9 (.slice (some ⟨w.heap.size, 0, none⟩) 1 1)).run Try.prog (w.alloc (.cells #[.int .u8 x] 5)) = .ok (.string (st [x])) (w.alloc (.cells #[.int .u8 x] 5)) := by
  have := run_convert_bytes_back (P := Try.prog) (w.alloc (.cells #[.int .u8 x] 5)) 127 9 5 ⟨w.heap.size, 0, none⟩ 1 [UInt8.ofNat x.toNat] Try.underlying127 Try.underlying5 Try.underlying9 (by
    intro j hj
    have hj0 : j = 0 := by simpa using hj
    subst hj0
    have := cell_of_row (w.alloc (.cells #[.int .u8 x] 5)) w.heap.size 0 #[.int .u8 x] 5 (0, 0) (heap_alloc_new w _)
    rw [add_plain, this]
    simp
    omega)
  exact this

theorem st_snoc (l : List Int) (x : Int) : st l ++ st [x] = st (l ++ [x]) := st_app l [x]

theorem zip_succ (op : Int → Int → Int) (a b : List Int) (k : Nat) (h1 : k < a.length) (h2 : k < b.length) :
    List.zipWith op (a.take (k + 1)) (b.take (k + 1)) = List.zipWith op (a.take k) (b.take k) ++ [op a[k] b[k]] := by
  rw [List.take_succ_eq_append_getElem h1, List.take_succ_eq_append_getElem h2, List.zipWith_append (by simp; omega)]
  rfl
theorem put_len (a : List Int) (p c : Int) : (putL a p c).length = a.length := by unfold putL; split <;> simp
theorem put_sg {a : List Int} (h : Sg a) (p : Int) {c : Int} (h0 : 48 ≤ c) (h1 : c ≤ 50) : Sg (putL a p c) := by
  intro x hx
  unfold putL at hx
  split at hx
  · rcases List.mem_or_eq_of_mem_set hx with h' | h'
    · exact h x h'
    · omega
  · exact h x hx
end Go.Proofs.Ytdhklfbelplbcaa
