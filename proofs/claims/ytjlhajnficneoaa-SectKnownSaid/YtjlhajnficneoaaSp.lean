/- Plain: sectors, their sums, Parts, records. No program's text. -/
namespace Go.Proofs.Ytjlhajnficneoaa
set_option linter.unusedVariables false
set_option linter.unusedSimpArgs false

/-! ### the sum -/
def poly : Nat := 3988292384
def stepC (c : Nat) : Nat := if c % 2 = 1 then (c / 2) ^^^ poly else c / 2
def stepsC : Nat → Nat → Nat
  | 0, c => c
  | n + 1, c => stepsC n (stepC c)
def byteC (c x : Nat) : Nat := stepsC 8 (c ^^^ x)
def runC (l : List Nat) (c : Nat) : Nat := l.foldl byteC c
def crc (l : List Nat) : Nat := (runC l 4294967295) ^^^ 4294967295

def Bytes8 (l : List Nat) : Prop := ∀ x ∈ l, x < 256

theorem xor_lt32 {a b : Nat} (ha : a < 4294967296) (hb : b < 4294967296) : a ^^^ b < 4294967296 := Nat.xor_lt_two_pow (n := 32) ha hb
theorem stepC_lt {c : Nat} (h : c < 4294967296) : stepC c < 4294967296 := by
  unfold stepC; split
  · exact xor_lt32 (by omega) (by decide)
  · omega
theorem stepsC_snoc (n c : Nat) : stepsC (n + 1) c = stepC (stepsC n c) := by
  induction n generalizing c with
  | zero => rfl
  | succ n ih => rw [stepsC, ih]; rfl
theorem stepsC_lt (n : Nat) {c : Nat} (h : c < 4294967296) : stepsC n c < 4294967296 := by
  induction n with
  | zero => exact h
  | succ n ih => rw [stepsC_snoc]; exact stepC_lt ih
theorem byteC_lt {c x : Nat} (h : c < 4294967296) (hx : x < 256) : byteC c x < 4294967296 := stepsC_lt 8 (xor_lt32 h (by omega))
theorem runC_lt (l : List Nat) {c : Nat} (hl : Bytes8 l) (h : c < 4294967296) : runC l c < 4294967296 := by
  induction l generalizing c with
  | nil => exact h
  | cons x l ih => exact ih (fun y hy => hl y (by simp [hy])) (byteC_lt h (hl x (by simp)))
theorem crc_lt (l : List Nat) (hl : Bytes8 l) : crc l < 4294967296 := xor_lt32 (runC_lt l hl (by decide)) (by decide)
theorem runC_snoc (l : List Nat) (k : Nat) (h : k < l.length) (c : Nat) : runC (l.take (k + 1)) c = byteC (runC (l.take k) c) l[k] := by
  rw [List.take_succ_eq_append_getElem h, runC, List.foldl_append]; rfl
theorem Bytes8.take {l : List Nat} (h : Bytes8 l) (k : Nat) : Bytes8 (l.take k) := fun x hx => h x (List.mem_of_mem_take hx)
theorem Bytes8.drop {l : List Nat} (h : Bytes8 l) (k : Nat) : Bytes8 (l.drop k) := fun x hx => h x (List.mem_of_mem_drop hx)
theorem Bytes8.append {l m : List Nat} (h : Bytes8 l) (k : Bytes8 m) : Bytes8 (l ++ m) := fun x hx => by
  rcases List.mem_append.1 hx with g | g
  · exact h x g
  · exact k x g
theorem Bytes8.nil : Bytes8 [] := fun x hx => by simp at hx

/-! ### numbers -/
def num : List Nat → Nat
  | [] => 0
  | x :: l => x + 256 * num l
theorem num_snoc (l : List Nat) (x : Nat) : num (l ++ [x]) = num l + x * 256 ^ l.length := by
  induction l with
  | nil => simp [num]
  | cons y l ih => simp only [List.cons_append, num, ih, List.length_cons, Nat.pow_succ]; rw [Nat.mul_add, ← Nat.add_assoc, Nat.mul_left_comm, Nat.mul_comm 256 (256 ^ l.length)]
theorem num_lt (l : List Nat) (h : Bytes8 l) : num l < 256 ^ l.length := by
  induction l with
  | nil => simp [num]
  | cons x l ih =>
    have h1 := h x (by simp)
    have h2 := ih (fun y hy => h y (by simp [hy]))
    simp only [num, List.length_cons, Nat.pow_succ]
    omega
theorem num_take (l : List Nat) (k : Nat) (h : k < l.length) : num (l.take (k + 1)) = num (l.take k) + l[k] * 256 ^ k := by
  rw [List.take_succ_eq_append_getElem h, num_snoc]; simp [Nat.min_eq_left (Nat.le_of_lt h)]
theorem num_drop (l : List Nat) (k : Nat) (h : k < l.length) : num (l.drop k) = l[k] + 256 * num (l.drop (k + 1)) := by
  rw [List.drop_eq_getElem_cons h]; rfl
end Go.Proofs.Ytjlhajnficneoaa
