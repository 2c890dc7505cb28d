/- The plain law of turned bits: of the 512 bits no one's fault is none, and no two are alike. -/
import Derived.Test.YtjlhajnficneoaaSn
namespace Go.Proofs.Ytjlhajnficneoaa
set_option linter.unusedVariables false
set_option linter.unusedSimpArgs false

theorem xor_half (a b : Nat) : (a ^^^ b) / 2 = a / 2 ^^^ b / 2 := by
  have := @Nat.xor_div_two_pow a b 1
  simpa using this
theorem xor_par (a b : Nat) : (a ^^^ b) % 2 = (a % 2 + b % 2) % 2 := by
  have := @Nat.xor_mod_two_pow a b 1
  simp only [Nat.pow_one] at this
  rw [this]
  rcases Nat.mod_two_eq_zero_or_one a with h | h <;> rcases Nat.mod_two_eq_zero_or_one b with k | k <;> rw [h, k] <;> rfl
theorem stepC_xor (a b : Nat) : stepC (a ^^^ b) = stepC a ^^^ stepC b := by
  unfold stepC
  rw [xor_half, xor_par]
  rcases Nat.mod_two_eq_zero_or_one a with h | h <;> rcases Nat.mod_two_eq_zero_or_one b with k | k <;> rw [h, k] <;> simp
  · rw [Nat.xor_assoc]
  · rw [Nat.xor_assoc, Nat.xor_comm (b / 2), ← Nat.xor_assoc]
  · rw [Nat.xor_assoc, ← Nat.xor_assoc poly, Nat.xor_comm poly, Nat.xor_assoc (b / 2), Nat.xor_self, Nat.xor_zero]
theorem stepsC_xor (n a b : Nat) : stepsC n (a ^^^ b) = stepsC n a ^^^ stepsC n b := by
  induction n generalizing a b with
  | zero => rfl
  | succ n ih => simp only [stepsC]; rw [stepC_xor, ih]
def xl (l m : List Nat) : List Nat := List.zipWith (· ^^^ ·) l m
theorem xor_swap (c d x y : Nat) : (c ^^^ d) ^^^ (x ^^^ y) = (c ^^^ x) ^^^ (d ^^^ y) := by
  rw [Nat.xor_assoc, Nat.xor_assoc, ← Nat.xor_assoc d, Nat.xor_comm d x, Nat.xor_assoc x]
theorem runC_xor (l m : List Nat) (h : l.length = m.length) (c d : Nat) : runC (xl l m) (c ^^^ d) = runC l c ^^^ runC m d := by
  induction l generalizing m c d with
  | nil =>
    cases m with
    | nil => rfl
    | cons y m => simp at h
  | cons x l ih =>
    cases m with
    | nil => simp at h
    | cons y m =>
      simp only [List.length_cons, Nat.add_right_cancel_iff] at h
      have := ih m h (byteC c x) (byteC d y)
      have e : byteC (c ^^^ d) (x ^^^ y) = byteC c x ^^^ byteC d y := by
        unfold byteC
        rw [← stepsC_xor, xor_swap]
      simp only [xl, runC, List.zipWith_cons_cons, List.foldl_cons] at this ⊢
      rw [e]; exact this
theorem join_xor (x y n m : Nat) (hx : x < 256) (hy : y < 256) : (x + 256 * n) ^^^ (y + 256 * m) = (x ^^^ y) + 256 * (n ^^^ m) := by
  have h1 : ((x + 256 * n) ^^^ (y + 256 * m)) / 256 = n ^^^ m := by
    have := @Nat.xor_div_two_pow (x + 256 * n) (y + 256 * m) 8
    rw [show (2 : Nat) ^ 8 = 256 from rfl] at this
    rw [this]; congr 1 <;> omega
  have h2 : ((x + 256 * n) ^^^ (y + 256 * m)) % 256 = x ^^^ y := by
    have := @Nat.xor_mod_two_pow (x + 256 * n) (y + 256 * m) 8
    rw [show (2 : Nat) ^ 8 = 256 from rfl] at this
    rw [this]; congr 1 <;> omega
  have := Nat.div_add_mod ((x + 256 * n) ^^^ (y + 256 * m)) 256
  omega
theorem num_xor (l m : List Nat) (h : l.length = m.length) (h8 : Bytes8 l) (k8 : Bytes8 m) : num (xl l m) = num l ^^^ num m := by
  induction l generalizing m with
  | nil =>
    cases m with
    | nil => rfl
    | cons y m => simp at h
  | cons x l ih =>
    cases m with
    | nil => simp at h
    | cons y m =>
      simp only [List.length_cons, Nat.add_right_cancel_iff] at h
      have := ih m h (fun z hz => h8 z (List.mem_cons_of_mem _ hz)) (fun z hz => k8 z (List.mem_cons_of_mem _ hz))
      simp only [xl, num, List.zipWith_cons_cons] at this ⊢
      rw [this, join_xor _ _ _ _ (h8 x (List.mem_cons_self ..)) (k8 y (List.mem_cons_self ..))]

/-- the fault of a word of turned bits -/
def syn (e : List Nat) : Nat := runC (e.take 8 ++ e.drop 12) 0 ^^^ num ((e.drop 8).take 4)
/-- one bit of 512 -/
def unitB (i : Nat) : List Nat := (List.replicate 64 0).set (i / 8) (2 ^ (i % 8))
def noneAgain : List Nat → Bool
  | [] => true
  | x :: l => x != 0 && l.all (fun y => !(Nat.beq x y)) && noneAgain l
theorem noneAgain_at (l : List Nat) (h : noneAgain l = true) (i j : Nat) (hij : i < j) (hj : j < l.length) : l[i]'(by omega) ≠ l[j] := by
  induction l generalizing i j with
  | nil => simp at hj
  | cons x l ih =>
    simp only [noneAgain, Bool.and_eq_true, List.all_eq_true] at h
    obtain ⟨⟨-, h2⟩, h3⟩ := h
    cases j with
    | zero => omega
    | succ j =>
      cases i with
      | zero =>
        have := h2 (l[j]'(by simpa using hj)) (List.getElem_mem _)
        simp only [List.getElem_cons_zero, List.getElem_cons_succ]
        intro e
        rw [← e] at this
        simp at this
      | succ i =>
        simp only [List.getElem_cons_succ]
        exact ih h3 i j (by omega) (by simpa using hj)
theorem noneAgain_zero (l : List Nat) (h : noneAgain l = true) (i : Nat) (hi : i < l.length) : l[i] ≠ 0 := by
  induction l generalizing i with
  | nil => simp at hi
  | cons x l ih =>
    simp only [noneAgain, Bool.and_eq_true, List.all_eq_true] at h
    obtain ⟨⟨h1, -⟩, h3⟩ := h
    cases i with
    | zero => simpa using h1
    | succ i => simp only [List.getElem_cons_succ]; exact ih h3 i (by simpa using hi)
set_option maxRecDepth 100000 in
theorem bits_apart : noneAgain ((List.range 512).map fun i => syn (unitB i)) = true := by decide +kernel
theorem syn_unit (i : Nat) (hi : i < 512) : syn (unitB i) ≠ 0 := by
  have := noneAgain_zero _ bits_apart i (by simp; omega)
  simpa using this
theorem syn_two (i j : Nat) (hi : i < 512) (hj : j < 512) (hne : i ≠ j) : syn (unitB i) ≠ syn (unitB j) := by
  rcases Nat.lt_or_gt_of_ne hne with h | h
  · have := noneAgain_at _ bits_apart i j h (by simp; omega)
    simpa using this
  · have := noneAgain_at _ bits_apart j i h (by simp; omega)
    simpa using this.symm

/-- the word's own fault -/
def val (l : List Nat) : Nat := crc (l.take 8 ++ l.drop 12) ^^^ num ((l.drop 8).take 4)
theorem xl_len (l m : List Nat) (h : l.length = m.length) : (xl l m).length = l.length := by simp [xl, h]
theorem xl_8 (l m : List Nat) (h8 : Bytes8 l) (k8 : Bytes8 m) : Bytes8 (xl l m) := by
  intro x hx
  obtain ⟨i, hi, rfl⟩ := List.getElem_of_mem hx
  simp only [xl, List.getElem_zipWith]
  exact Nat.xor_lt_two_pow (n := 8) (h8 _ (List.getElem_mem _)) (k8 _ (List.getElem_mem _))
theorem val_xl (l e : List Nat) (hl : l.length = 64) (he : e.length = 64) (h8 : Bytes8 l) (k8 : Bytes8 e) : val (xl l e) = val l ^^^ syn e := by
  have e1 : (xl l e).take 8 ++ (xl l e).drop 12 = xl (l.take 8 ++ l.drop 12) (e.take 8 ++ e.drop 12) := by
    unfold xl
    rw [List.take_zipWith, List.drop_zipWith, List.zipWith_append (by simp; omega)]
  have e2 : ((xl l e).drop 8).take 4 = xl ((l.drop 8).take 4) ((e.drop 8).take 4) := by
    unfold xl
    rw [List.drop_zipWith, List.take_zipWith]
  have r := runC_xor (l.take 8 ++ l.drop 12) (e.take 8 ++ e.drop 12) (by simp; omega) 4294967295 0
  rw [Nat.xor_zero] at r
  have n1 := num_xor ((l.drop 8).take 4) ((e.drop 8).take 4) (by simp; omega) ((h8.drop 8).take 4) ((k8.drop 8).take 4)
  unfold val syn crc
  rw [e1, e2, r, n1]
  generalize runC (l.take 8 ++ l.drop 12) 4294967295 = a
  generalize runC (e.take 8 ++ e.drop 12) 0 = b
  generalize num ((l.drop 8).take 4) = c
  generalize num ((e.drop 8).take 4) = d
  rw [Nat.xor_assoc a b, Nat.xor_comm b 4294967295, ← Nat.xor_assoc a, xor_swap]
/-- the word with one bit turned -/
def fl (l : List Nat) (i : Nat) : List Nat := xl l (unitB i)
theorem unitB_len (i : Nat) : (unitB i).length = 64 := by simp [unitB]
theorem unitB_8 (i : Nat) : Bytes8 (unitB i) := by
  intro x hx
  rcases List.mem_or_eq_of_mem_set hx with h | h
  · have := List.eq_of_mem_replicate h; omega
  · subst h
    have : i % 8 < 8 := Nat.mod_lt _ (by decide)
    exact Nat.lt_of_lt_of_le (Nat.pow_lt_pow_right (by decide) this) (by decide)
theorem fl_len (l : List Nat) (i : Nat) (h : l.length = 64) : (fl l i).length = 64 := by
  unfold fl; rw [xl_len _ _ (by rw [h, unitB_len])]; exact h
theorem fl_8 (l : List Nat) (i : Nat) (h : Bytes8 l) : Bytes8 (fl l i) := xl_8 _ _ h (unitB_8 i)
theorem fl_set (l : List Nat) (i : Nat) (h : l.length = 64) (hi : i / 8 < l.length) : l.set (i / 8) (l[i / 8] ^^^ 2 ^ (i % 8)) = fl l i := by
  apply List.ext_getElem
  · rw [fl_len _ _ h]; simp [h]
  · intro k h1 h2
    simp only [fl, xl, unitB, List.getElem_zipWith, List.getElem_set, List.getElem_replicate]
    split
    · rename_i e; subst e; rfl
    · simp
theorem val_fl (l : List Nat) (i : Nat) (h : l.length = 64) (h8 : Bytes8 l) : val (fl l i) = val l ^^^ syn (unitB i) := val_xl l _ h (unitB_len i) h8 (unitB_8 i)
theorem fl_fl (l : List Nat) (i : Nat) (h : l.length = 64) : fl (fl l i) i = l := by
  apply List.ext_getElem
  · rw [fl_len _ _ (fl_len _ _ h), h]
  · intro k h1 h2
    simp only [fl, xl, List.getElem_zipWith]
    rw [Nat.xor_assoc, Nat.xor_self, Nat.xor_zero]

theorem val_bytes (p : PartD) (h8 : Bytes8 p.data) : val p.bytes = 0 := by
  have h8b := (head_8 p).append h8
  have hlt := crc_lt _ h8b
  have e : p.bytes = p.head ++ (leN (crc (p.head ++ p.data)) 4 ++ p.data) := by simp [PartD.bytes]
  have l8 := head_len p
  have lc := leN_len (crc (p.head ++ p.data)) 4
  have d8 : p.bytes.drop 8 = leN (crc (p.head ++ p.data)) 4 ++ p.data := by rw [e]; exact List.drop_left' l8
  have d12 : p.bytes.drop 12 = p.data := by rw [show p.bytes.drop 12 = (p.bytes.drop 8).drop 4 by simp, d8]; exact List.drop_left' lc
  have t8 : p.bytes.take 8 = p.head := by rw [e]; exact List.take_left' l8
  unfold val
  rw [d8, d12, t8, List.take_left' lc]
  have := num_le4 (crc (p.head ++ p.data) : Nat) (by omega)
  have h2 : num (leN (crc (p.head ++ p.data) : Nat) 4) = crc (p.head ++ p.data) := by omega
  rw [h2, Nat.xor_self]
theorem parse_false (l : List Nat) (h8 : Bytes8 l) (h : val l ≠ 0) : parseD l = (zeroP, false) := by
  unfold parseD
  refine if_neg (fun hh => h ?_)
  have h2 : Bytes8 (readP l).data := h8.drop 12
  have := val_bytes (readP l) h2
  rwa [hh.2.2] at this
theorem parse_one (p : PartD) (hd : p.data.length = 52) (h8 : Bytes8 p.data) (i : Nat) (hi : i < 512) : parseD (fl p.bytes i) = (zeroP, false) := by
  refine parse_false _ (fl_8 _ _ (bytes_8 p h8)) ?_
  rw [val_fl _ _ (bytes_len p hd) (bytes_8 p h8), val_bytes p h8, Nat.zero_xor]
  exact syn_unit i hi
theorem xor_ne {a b : Nat} (h : a ≠ b) : a ^^^ b ≠ 0 := fun e => h (by
  have : (a ^^^ b) ^^^ b = 0 ^^^ b := by rw [e]
  rwa [Nat.xor_assoc, Nat.xor_self, Nat.xor_zero, Nat.zero_xor] at this)
theorem parse_two (p : PartD) (hok : p.ok) (h8 : Bytes8 p.data) (i j : Nat) (hi : i < 512) (hj : j < 512) : (parseD (fl (fl p.bytes i) j)).2 = decide (i = j) := by
  have hd : p.data.length = 52 := hok.2.2.2.2.2.2.2.2
  by_cases e : i = j
  · subst e
    rw [fl_fl _ _ (bytes_len p hd), parseD_bytes p hok]
    simp
  · rw [parse_false _ (fl_8 _ _ (fl_8 _ _ (bytes_8 p h8))) (by
      rw [val_fl _ _ (fl_len _ _ (bytes_len p hd)) (fl_8 _ _ (bytes_8 p h8)), val_fl _ _ (bytes_len p hd) (bytes_8 p h8), val_bytes p h8, Nat.zero_xor]
      exact xor_ne (syn_two i j hi hj e))]
    simp [e]
end Go.Proofs.Ytjlhajnficneoaa
