/- Weights twice as heavy: plain laws. -/
import Derived.Test.YtdhklfbelplbcaaGn
import Derived.Test.YtdhklfbelplbcaaFi
namespace Go.Proofs.Ytdhklfbelplbcaa
set_option linter.unusedVariables false
set_option linter.unusedSimpArgs false
open Go.RowKit Ieee

/-! ### an order has one way to be laid -/
theorem perm_onto : ∀ (n : Nat) (f : Nat → Nat), PermN n f → ∀ v, v < n → ∃ p, p < n ∧ f p = v := by
  intro n
  induction n with
  | zero => intro f _ v hv; omega
  | succ n ih =>
    intro f ⟨h1, h2⟩ v hv
    have hn := h1 n (by omega)
    have hp : PermN n (fun p => if f p = n then f n else f p) := by
      refine ⟨fun p hp => ?_, fun p q hp hq e => ?_⟩
      · have a := h1 p (by omega)
        have b : f p ≠ f n := fun e => by have := h2 p n (by omega) (by omega) e; omega
        show (if f p = n then f n else f p) < n
        split
        · omega
        · omega
      · have bp : f p ≠ f n := fun e => by have := h2 p n (by omega) (by omega) e; omega
        have bq : f q ≠ f n := fun e => by have := h2 q n (by omega) (by omega) e; omega
        dsimp only at e
        split at e <;> split at e
        · exact h2 p q (by omega) (by omega) (by omega)
        · exact absurd e.symm bq
        · exact absurd e bp
        · exact h2 p q (by omega) (by omega) e
    by_cases e1 : v = f n
    · exact ⟨n, by omega, e1.symm⟩
    · by_cases e2 : v = n
      · obtain ⟨p, p1, p2⟩ := ih _ hp (f n) (by omega)
        have b : f p ≠ f n := fun e => by have := h2 p n (by omega) (by omega) e; omega
        split at p2
        · exact ⟨p, by omega, by omega⟩
        · exact absurd p2 b
      · obtain ⟨p, p1, p2⟩ := ih _ hp v (by omega)
        split at p2
        · exact absurd p2.symm e1
        · exact ⟨p, by omega, p2⟩

theorem LtK.irrefl {K : Nat → Int} {x : Nat} : ¬ LtK K x x := by unfold LtK; omega
/-- two rows in the same order are the same -/
theorem sorted_same {n : Nat} {K : Nat → Int} {f g : Nat → Nat} (hf : PermN n f) (hg : PermN n g) (sf : SegS K f 0 n) (sg : SegS K g 0 n) : ∀ p, p < n → f p = g p := by
  intro p
  induction p using Nat.strongRecOn with
  | _ p ih =>
    intro hp
    -- what comes later in the one is not ahead in the other
    have key : ∀ (f g : Nat → Nat), PermN n f → PermN n g → SegS K f 0 n → (∀ q, q < p → f q = g q) → ¬ LtK K (g p) (f p) := by
      intro f g hf hg sf hq hl
      obtain ⟨r, hr, e⟩ := perm_onto n f hf (g p) (hg.1 p hp)
      rcases Nat.lt_trichotomy r p with h | h | h
      · have e2 := hq r h
        rw [e] at e2
        have := hg.2 p r hp hr e2
        omega
      · subst h; rw [e] at hl; exact LtK.irrefl hl
      · have := sf p r (Nat.zero_le _) h hr
        rw [e] at this
        exact hl.asymm this
    have h1 := key f g hf hg sf (fun q hq => ih q hq (by omega))
    have h2 := key g f hg hf sg (fun q hq => (ih q hq (by omega)).symm)
    by_cases e : f p = g p
    · exact e
    · exact absurd (LtK.of_not e h2) h1

/-! ### a product of a fraction and a whole number -/
/-- this word is a whole number over two to the r -/
def FracF (x : Nat) (s : Bool) (a : Int) (r : Nat) : Prop := ∃ m i, rdF x = .number s m i ∧ i ≤ -(r : Int) ∧ signed s m 0 * 2 ^ r = a * 2 ^ (-i).toNat

theorem nearest_frac (s : Bool) (N q r : Nat) (h0 : N ≠ 0) (h : N < 9007199254740992) (hr : r ≤ 900) :
    rdF (Ieee.double.nearest s (N * 2 ^ q) (-(q : Int) - r)) = .number s (N * 2 ^ (52 - N.log2)) ((N.log2 : Int) - 52 - r) ∧ N.log2 ≤ 52 := by
  have hp := Nat.two_pow_pos q
  have hlog : N.log2 ≤ 52 := by
    have := (Nat.log2_lt h0).2 (show N < 2 ^ 53 by omega)
    omega
  refine ⟨?_, hlog⟩
  have hne : N * 2 ^ q ≠ 0 := Nat.mul_ne_zero h0 (by omega)
  have hK1 : 4503599627370496 ≤ N * 2 ^ (52 - N.log2) := by
    have := Nat.mul_le_mul_right (2 ^ (52 - N.log2)) (Nat.log2_self_le h0)
    rw [← Nat.pow_add, show N.log2 + (52 - N.log2) = 52 by omega] at this
    omega
  have hK2 : N * 2 ^ (52 - N.log2) < 9007199254740992 := by
    have h1 : N < 2 ^ (N.log2 + 1) := Nat.lt_log2_self
    have := Nat.mul_lt_mul_of_pos_right h1 (Nat.two_pow_pos (52 - N.log2))
    rw [← Nat.pow_add, show N.log2 + 1 + (52 - N.log2) = 53 by omega] at this
    omega
  have hw : Ieee.double.nearest s (N * 2 ^ q) (-(q : Int) - r) = Ieee.double.word s ((N.log2 + 1022 - r) * 4503599627370496 + N * 2 ^ (52 - N.log2)) := by
    unfold Format.nearest
    rw [if_neg hne, log2_mul N q h0]
    simp only [fb, lp_eq, bi_eq, ir_eq]
    have e1 : max (-(q : Int) - r + ((N.log2 + q : Nat) : Int) - ((52 : Nat) : Int)) (-1074) = (N.log2 : Int) - 52 - r := by omega
    rw [e1]
    have e2 : ((N.log2 : Int) - 52 - r - -1074).toNat = N.log2 + 1022 - r := by omega
    rw [e2]
    have e3 : Toward.even.cut s ((N * 2 ^ q) <<< (-(q : Int) - r - ((N.log2 : Int) - 52 - r)).toNat) ((N.log2 : Int) - 52 - r - (-(q : Int) - r)).toNat = N * 2 ^ (52 - N.log2) := by
      by_cases hc : q ≤ 52 - N.log2
      · rw [show ((N.log2 : Int) - 52 - r - (-(q : Int) - r)).toNat = 0 by omega, show (-(q : Int) - r - ((N.log2 : Int) - 52 - r)).toNat = 52 - N.log2 - q by omega, Nat.shiftLeft_eq, Nat.mul_assoc, ← Nat.pow_add, show q + (52 - N.log2 - q) = 52 - N.log2 by omega]
        have := cut_exact s (N * 2 ^ (52 - N.log2)) 0
        simpa using this
      · rw [show ((N.log2 : Int) - 52 - r - (-(q : Int) - r)).toNat = q - (52 - N.log2) by omega, show (-(q : Int) - r - ((N.log2 : Int) - 52 - r)).toNat = 0 by omega, Nat.shiftLeft_zero]
        have := cut_exact s (N * 2 ^ (52 - N.log2)) (q - (52 - N.log2))
        rw [Nat.mul_assoc, ← Nat.pow_add, show 52 - N.log2 + (q - (52 - N.log2)) = q by omega] at this
        exact this
    rw [e3, Nat.min_eq_left (by omega)]
  rw [hw]
  unfold rdF Format.read Format.word
  simp only [lp_eq, sw_eq, bi_eq, ir_eq]
  generalize N * 2 ^ (52 - N.log2) = K at *
  have hm : ((if s = true then 9223372036854775808 + ((N.log2 + 1022 - r) * 4503599627370496 + K) else (N.log2 + 1022 - r) * 4503599627370496 + K) % 9223372036854775808) = (N.log2 + 1022 - r) * 4503599627370496 + K := by
    cases s <;> simp <;> omega
  have hs : ((if s = true then 9223372036854775808 + ((N.log2 + 1022 - r) * 4503599627370496 + K) else (N.log2 + 1022 - r) * 4503599627370496 + K) / 9223372036854775808 % 2 == 1) = s := by
    cases s <;> simp <;> omega
  rw [hm, hs, if_neg (by omega), if_pos (by omega)]
  congr 1
  · omega
  · omega

theorem signed_abs (s : Bool) (m : Nat) : (signed s m 0).natAbs = m := by rw [signed0]; cases s <;> simp
theorem pow_abs (k : Nat) : ((2 : Int) ^ k).natAbs = 2 ^ k := by rw [Int.natAbs_pow]; rfl
theorem mul_frac {x y : Nat} {s : Bool} {a b : Int} {r : Nat} (hx : FracF x s a r) (hy : FracF y false b 0) (hab : (a * b).natAbs < 9007199254740992) (hr : r ≤ 900) :
    ∃ z, floatBits .mul .f64 x y = some z ∧ nanB z = false ∧ sgB z = s ∧ valF z = (if s then -1 else 1) * (((a * b).natAbs : Nat) : Int) * 2 ^ (1074 - r) := by
  obtain ⟨m, i, hx1, hx2, hx4⟩ := hx
  obtain ⟨n, j, hy1, hy2, hy4⟩ := hy
  have ha := congrArg Int.natAbs hx4
  have hb := congrArg Int.natAbs hy4
  rw [Int.natAbs_mul, Int.natAbs_mul, signed_abs, pow_abs, pow_abs] at ha hb
  rw [Nat.pow_zero, Nat.mul_one] at hb
  obtain ⟨p, hp⟩ : ∃ p : Nat, (-i).toNat = p + r := ⟨(-i).toNat - r, by omega⟩
  have hm : m = a.natAbs * 2 ^ p := by
    rw [hp, Nat.pow_add, ← Nat.mul_assoc] at ha
    exact Nat.eq_of_mul_eq_mul_right (Nat.two_pow_pos r) ha
  have hmn : m * n = (a * b).natAbs * 2 ^ (p + (-j).toNat) := by
    rw [hm, hb, Int.natAbs_mul, Nat.pow_add]
    simp only [Nat.mul_assoc, Nat.mul_comm, Nat.mul_left_comm]
  have hij : i + j = -((p + (-j).toNat : Nat) : Int) - r := by omega
  refine ⟨Ieee.double.write (.number s (m * n) (i + j)), ?_, ?_⟩
  · show (((rdF x).product (rdF y)).map Ieee.double.write) = _
    rw [hx1, hy1]
    simp only [Datum.product, Option.map_some]
    cases s <;> rfl
  · rw [write_def, hmn, hij]
    by_cases h0 : (a * b).natAbs = 0
    · rw [h0, Nat.zero_mul]
      have hz := nearest_zero s (-((p + (-j).toNat : Nat) : Int) - r)
      have hf := read_fine (Ieee.double.nearest s 0 (-((p + (-j).toNat : Nat) : Int) - r))
      refine ⟨by rw [nanB_eq, hz]; rfl, by rw [← hf.2, hz]; rfl, ?_⟩
      unfold valF
      rw [hz]
      simp [valD, signed_eq]
    · obtain ⟨hz, hl⟩ := nearest_frac s (a * b).natAbs (p + (-j).toNat) r h0 hab hr
      have hf := read_fine (Ieee.double.nearest s ((a * b).natAbs * 2 ^ (p + (-j).toNat)) (-((p + (-j).toNat : Nat) : Int) - r))
      refine ⟨by rw [nanB_eq, hz]; rfl, by rw [← hf.2, hz]; rfl, ?_⟩
      unfold valF
      rw [hz]
      simp only [valD, signed_eq]
      have e : (((a * b).natAbs.log2 : Int) - 52 - r + 1074).toNat = (1074 - r) - (52 - (a * b).natAbs.log2) := by omega
      rw [e, Int.mul_assoc, Int.natCast_mul, Int.mul_assoc]
      congr 2
      rw [Int.natCast_pow, show ((2 : Nat) : Int) = 2 from rfl, ← Int.pow_add]
      congr 1
      omega

def chkF (z : Nat) (s : Bool) (a : Int) (r : Nat) : Bool :=
  match rdF z with
  | .number t m i => (t == s) && decide (i ≤ -(r : Int)) && decide (signed t m 0 * 2 ^ r = a * 2 ^ (-i).toNat)
  | _ => false
theorem FracF.of_chk {z : Nat} {s : Bool} {a : Int} {r : Nat} (h : chkF z s a r = true) : FracF z s a r := by
  unfold chkF at h
  split at h
  · rename_i t m i hz
    simp only [Bool.and_eq_true, beq_iff_eq, decide_eq_true_eq] at h
    obtain ⟨⟨rfl, h2⟩, h3⟩ := h
    exact ⟨m, i, hz, h2, h3⟩
  · cases h
/-- a quarter, a half of a whole number -/
def qrtO (x : Int) : Option Nat := floatBits .quo .f64 (floatOfInt .f64 x) 4616189618054758400
def hlfO (x : Int) : Option Nat := floatBits .quo .f64 (floatOfInt .f64 x) 4611686018427387904
theorem quart' : ∀ k : Fin 1000, (qrtO ((k.val : Int) - 500)).any (fun z => chkF z (decide (k.val < 500)) ((k.val : Int) - 500) 2) = true := by decide +kernel
theorem half' : ∀ k : Fin 1000, (hlfO ((k.val : Int) - 500)).any (fun z => chkF z (decide (k.val < 500)) ((k.val : Int) - 500) 1) = true := by decide +kernel
theorem ofInt' : ∀ c : Fin 31, chkF (floatOfInt .f64 (c.val : Int)) false (c.val : Int) 0 = true := by decide +kernel
theorem any_some {α : Type} {o : Option α} {q : α → Bool} (h : o.any q = true) : ∃ z, o = some z ∧ q z = true := by
  cases o with
  | none => cases h
  | some z => exact ⟨z, rfl, h⟩
theorem quart (x : Int) (h1 : -500 ≤ x) (h2 : x < 500) : ∃ z, qrtO x = some z ∧ FracF z (decide (x < 0)) x 2 := by
  have h := quart' ⟨(x + 500).toNat, by omega⟩
  rw [show (((x + 500).toNat : Nat) : Int) - 500 = x by omega, show decide ((x + 500).toNat < 500) = decide (x < 0) by simp; omega] at h
  obtain ⟨z, hz, hc⟩ := any_some h
  exact ⟨z, hz, .of_chk hc⟩
theorem half (x : Int) (h1 : -500 ≤ x) (h2 : x < 500) : ∃ z, hlfO x = some z ∧ FracF z (decide (x < 0)) x 1 := by
  have h := half' ⟨(x + 500).toNat, by omega⟩
  rw [show (((x + 500).toNat : Nat) : Int) - 500 = x by omega, show decide ((x + 500).toNat < 500) = decide (x < 0) by simp; omega] at h
  obtain ⟨z, hz, hc⟩ := any_some h
  exact ⟨z, hz, .of_chk hc⟩

/-- one is the other, twice as heavy -/
def Dbl (a b : Nat) : Prop := ∃ x : Int, -500 ≤ x ∧ x < 500 ∧ qrtO x = some a ∧ hlfO x = some b
theorem dbl_zero : Dbl 0 0 := ⟨0, by omega, by omega, by decide +kernel, by decide +kernel⟩
theorem key_of {z : Nat} {v : Int} (h1 : nanB z = false) (h2 : valF z = v) (h3 : v = 0 → sgB z = false) : keyF z = 2 * v := by
  unfold keyF
  rw [h1, zeroB_eq, h1, h2, signB_eq]
  by_cases h : v = 0
  · rw [h3 h]; simp
  · simp [h]
theorem dbl_key {a b c : Nat} (h : Dbl a b) (h1 : 1 ≤ c) (h2 : c ≤ 30) : keyO (mulO b c) = 2 * keyO (mulO a c) := by
  obtain ⟨x, x1, x2, hq, hh⟩ := h
  obtain ⟨z, hz, fq⟩ := quart x x1 x2
  rw [hq] at hz; cases hz
  obtain ⟨z, hz, fh⟩ := half x x1 x2
  rw [hh] at hz; cases hz
  have fc := FracF.of_chk (ofInt' ⟨c, by omega⟩)
  have hbd : (x * (c : Int)).natAbs < 9007199254740992 := by
    rw [Int.natAbs_mul]
    have : x.natAbs * (c : Int).natAbs ≤ 500 * 30 := Nat.mul_le_mul (by omega) (by omega)
    omega
  obtain ⟨ra, m1, n1, s1, v1⟩ := mul_frac fq fc hbd (by omega)
  obtain ⟨rb, m2, n2, s2, v2⟩ := mul_frac fh fc hbd (by omega)
  unfold mulO
  dsimp only at m1 m2
  rw [m1, m2]
  show keyF rb = 2 * keyF ra
  have hx0 : (x * (c : Int)).natAbs = 0 → x = 0 := by
    intro h
    have := Int.natAbs_eq_zero.1 h
    rcases Int.mul_eq_zero.1 this with h | h
    · exact h
    · omega
  have e1 : (2 : Int) ^ (1074 - 1) = 2 * 2 ^ (1074 - 2) := by rw [show 1074 - 1 = (1074 - 2) + 1 from rfl, Int.pow_succ]; omega
  have hp : (0 : Int) < 2 ^ (1074 - 2) := Int.pow_pos (by omega)
  rw [e1] at v2
  generalize (2 : Int) ^ (1074 - 2) = P at v1 v2 hp
  have hs : ∀ (Q : Int), 0 < Q → (if decide (x < 0) = true then (-1 : Int) else 1) * (((x * (c : Int)).natAbs : Nat) : Int) * Q = 0 → decide (x < 0) = false := by
    intro Q hQ h
    rcases Int.mul_eq_zero.1 h with h | h
    · rcases Int.mul_eq_zero.1 h with h | h
      · split at h <;> omega
      · have := hx0 (by omega); subst this; rfl
    · omega
  rw [key_of n1 v1 (fun h => by rw [s1]; exact hs _ hp h), key_of n2 v2 (fun h => by rw [s2]; exact hs _ (by omega) h)]
  rw [Int.mul_left_comm _ 2 P]

theorem wtP_dbl (cs : List ByteArray) (hx hy : List Nat) (hl : hx.length = hy.length) (hd : ∀ i, ∀ h1 : i < hx.length, ∀ h2 : i < hy.length, Dbl hx[i] hy[i]) (s : ByteArray) (k : Nat) : Dbl (wtP cs hx s k) (wtP cs hy s k) := by
  induction k with
  | zero => exact dbl_zero
  | succ k ih =>
    unfold wtP
    split
    · by_cases h : k < hx.length
      · rw [List.getElem?_eq_getElem h, List.getElem?_eq_getElem (by omega)]; exact hd k h (by omega)
      · rw [List.getElem?_eq_none (by omega), List.getElem?_eq_none (by omega)]; exact dbl_zero
    · exact ih
theorem cntP_pos (ns : List ByteArray) (i : Nat) (h : i < ns.length) : ∀ k, i < k → 1 ≤ cntP ns (ns[i]?.getD ByteArray.empty) k := by
  intro k
  induction k with
  | zero => intro h; omega
  | succ k ih =>
    intro hk
    unfold cntP
    by_cases e : i = k
    · subst e
      rw [List.getElem?_eq_getElem h]
      simp
    · have := ih (by omega); omega
theorem scale_keys (ns cs : List ByteArray) (hx hy : List Nat) (hl : hx.length = hy.length) (hd : ∀ i, ∀ h1 : i < hx.length, ∀ h2 : i < hy.length, Dbl hx[i] hy[i]) (h30 : ns.length ≤ 30) (i : Nat) (hi : i < ns.length) :
    keyR ns cs hy i = 2 * keyR ns cs hx i :=
  dbl_key (wtP_dbl cs hx hy hl hd _ _) (cntP_pos ns i hi _ hi) (by have := cntP_le ns (ns[i]?.getD ByteArray.empty) ns.length; omega)
/-- so the order is the same -/
theorem scale_same (ns cs : List ByteArray) (hx hy : List Nat) (hl : hx.length = hy.length) (hd : ∀ i, ∀ h1 : i < hx.length, ∀ h2 : i < hy.length, Dbl hx[i] hy[i]) (h30 : ns.length ≤ 30)
    {f g : Nat → Nat} (hf : PermN ns.length f) (hg : PermN ns.length g) (sf : SegS (keyR ns cs hx) f 0 ns.length) (sg : SegS (keyR ns cs hy) g 0 ns.length) (p : Nat) (hp : p < ns.length) : f p = g p := by
  refine sorted_same hf hg sf (fun a b h1 h2 h3 => ?_) p hp
  have := sg a b h1 h2 h3
  unfold LtK at this ⊢
  rw [scale_keys ns cs hx hy hl hd h30 _ (hg.1 a (by omega)), scale_keys ns cs hx hy hl hd h30 _ (hg.1 b h3)] at this
  omega
end Go.Proofs.Ytdhklfbelplbcaa
