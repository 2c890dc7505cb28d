/- Strings that are lists of bytes; what becomes of effects, as lists. No program's text. -/
import Derived.Test.YtdabpeoaleopmaaKw
import Derived.Laws.RangeAny
import Derived.Laws.IdiomStrings
import Derived.Laws.Concat
import Derived.Laws.Runes
namespace Go.Proofs.Ytdabpeoaleopmaa
set_option linter.unusedVariables false
set_option linter.unusedSimpArgs false
open Go.RowKit

/-- a string of these bytes -/
def st (l : List Int) : ByteArray := ⟨(l.map fun x => UInt8.ofNat x.toNat).toArray⟩
/-- bytes that are letters -/
def Asc (l : List Int) : Prop := ∀ x ∈ l, 0 ≤ x ∧ x < 128
/-- signs -/
def Sg (l : List Int) : Prop := ∀ x ∈ l, 48 ≤ x ∧ x ≤ 50
theorem Sg.asc {l : List Int} (h : Sg l) : Asc l := fun x hx => by have := h x hx; omega
theorem Sg.nil : Sg [] := fun x hx => by simp at hx
theorem Sg.get {l : List Int} (h : Sg l) (k : Nat) (hk : k < l.length) : 48 ≤ l[k] ∧ l[k] ≤ 50 := h _ (List.getElem_mem _)
theorem Asc.get {l : List Int} (h : Asc l) (k : Nat) (hk : k < l.length) : 0 ≤ l[k] ∧ l[k] < 128 := h _ (List.getElem_mem _)
theorem st_size (l : List Int) : (st l).size = l.length := by
  show ((l.map fun x => UInt8.ofNat x.toNat).toArray).size = _
  simp
theorem st_get (l : List Int) (ha : Asc l) (k : Nat) (h : k < (st l).size) : (((st l)[k]'h).toNat : Int) = l[k]'(by rw [st_size] at h; exact h) := by
  have hk : k < l.length := by rw [st_size] at h; exact h
  have hb := ha.get k hk
  show ((((l.map fun x => UInt8.ofNat x.toNat).toArray)[k]'(by simpa using hk)).toNat : Int) = _
  simp only [List.getElem_toArray, List.getElem_map, UInt8.toNat_ofNat']
  omega
theorem st_app (l m : List Int) : st l ++ st m = st (l ++ m) := by
  unfold st; rw [ByteArray.mk_append_mk, List.map_append]
theorem st_nil : st [] = ⟨#[]⟩ := rfl
theorem st_list (l : List Int) : (st l).toList = l.map fun x => UInt8.ofNat x.toNat := by
  unfold st; exact ByteArray.toList_mk _
theorem st_data (l : List Int) : (st l).data.toList = l.map fun x => UInt8.ofNat x.toNat := by
  unfold st; simp
theorem enc_st (x : Int) (h0 : 0 ≤ x) (h1 : x < 128) : Utf8.encode x = st [x] := by
  unfold Utf8.encode st
  have hv : Utf8.valid x = true := by
    simp only [Utf8.valid]
    have a1 : decide (0 ≤ x) = true := by simpa using h0
    simp [a1]
    omega
  have hc : x.toNat < 128 := by omega
  simp [hv, hc]
theorem decode_st (l : List Int) (ha : Asc l) (k : Nat) (hk : k < l.length) : Utf8.decode (st l) k = ((l[k]).toNat, 1) := by
  have h : k < (st l).size := by rw [st_size]; exact hk
  have hg := st_get l ha k h
  have hb := ha.get k hk
  rw [decode_ascii (st l) k h (by omega)]
  congr 1
  omega
theorem runes_from (l : List Int) (ha : Asc l) : ∀ (n k : Nat) (acc : Array Value), k + n = l.length → Conv.runesFrom (st l) n k acc = acc ++ ((l.drop k).map (Value.int .i32)).toArray := by
  intro n
  induction n with
  | zero =>
    intro k acc hk
    rw [List.drop_of_length_le (by omega)]
    simp [Conv.runesFrom]
  | succ n ih =>
    intro k acc hk
    have hlt : k < l.length := by omega
    have h : k < (st l).size := by rw [st_size]; exact hlt
    have hb := ha.get k hlt
    unfold Conv.runesFrom
    rw [if_pos h, decode_st l ha k hlt]
    simp only
    have e : Int.ofNat (l[k]).toNat = l[k] := by simp; omega
    rw [ih (k + 1) _ (by omega), e, List.drop_eq_getElem_cons hlt, List.map_cons]
    apply Array.ext'
    simp only [Array.toList_append, Array.toList_push, List.append_assoc, List.singleton_append]
theorem runes_st (l : List Int) (ha : Asc l) : Conv.runesFrom (st l) (st l).size 0 #[] = (l.map (Value.int .i32)).toArray := by
  rw [runes_from l ha _ 0 #[] (by rw [st_size]; omega)]
  simp
theorem st_extract (l : List Int) (a b : Nat) : (st l).extract a b = st ((l.take b).drop a) := by
  apply ByteArray.ext
  unfold st
  rw [ByteArray.data_extract]
  simp
  rw [List.drop_take]

/-! ### effects -/
def th (x y : Int) : Int := if y = 49 then x else y
def thenL (a b : List Int) : List Int := List.zipWith th a b
def leastL (a b : List Int) : List Int := List.zipWith min a b
def mostL (a b : List Int) : List Int := List.zipWith max a b
def putL (a : List Int) (at_ c : Int) : List Int := if 0 ≤ at_ then a.set at_.toNat c else a
def hasL (a : List Int) (at_ : Int) : Bool := decide (0 ≤ at_) && (a[at_.toNat]? == some 50)
def allL (n : Nat) (c : Int) : List Int := List.replicate n c
def makeL (n : Nat) (ns : List Int) : List Int := (List.range n).map fun i : Nat => 48 + (ns[i]?.getD (i : Int)) % 3
theorem make_len (n : Nat) (ns : List Int) : (makeL n ns).length = n := by simp [makeL]
theorem make_sg (n : Nat) (ns : List Int) : Sg (makeL n ns) := by
  intro x hx
  simp only [makeL, List.mem_map, List.mem_range] at hx
  obtain ⟨i, _, rfl⟩ := hx
  omega
theorem make_succ (n : Nat) (ns : List Int) : makeL (n + 1) ns = makeL n ns ++ [48 + (ns[n]?.getD (n : Int)) % 3] := by
  simp [makeL, List.range_succ]
end Go.Proofs.Ytdabpeoaleopmaa
