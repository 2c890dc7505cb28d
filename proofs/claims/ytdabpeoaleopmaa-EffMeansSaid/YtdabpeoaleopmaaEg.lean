/- Effects of one length, and the contracts over them. -/
import Derived.Test.YtdabpeoaleopmaaEf
namespace Go.Proofs.Ytdabpeoaleopmaa
set_option linter.unusedVariables false
set_option linter.unusedSimpArgs false
open Go.RowKit

/-- an effect of so many locks -/
def Ef (m : Nat) (l : List Int) : Prop := Sg l ∧ l.length = m
theorem zip_ef {op : Int → Int → Int} (hop : ∀ x y, 48 ≤ x ∧ x ≤ 50 → 48 ≤ y ∧ y ≤ 50 → 48 ≤ op x y ∧ op x y ≤ 50) {m : Nat} {a b : List Int} (ha : Ef m a) (hb : Ef m b) : Ef m (List.zipWith op a b) := by
  refine ⟨fun x hx => ?_, by rw [List.length_zipWith, ha.2, hb.2]; omega⟩
  obtain ⟨i, hi, rfl⟩ := List.mem_iff_getElem.1 hx
  rw [List.getElem_zipWith]
  exact hop _ _ (ha.1.get _ _) (hb.1.get _ _)
theorem Ef.tn {m : Nat} {a b : List Int} (ha : Ef m a) (hb : Ef m b) : Ef m (thenL a b) := zip_ef (fun x y h k => by unfold th; split <;> assumption) ha hb
theorem Ef.le {m : Nat} {a b : List Int} (ha : Ef m a) (hb : Ef m b) : Ef m (leastL a b) := zip_ef (fun x y h k => by omega) ha hb
theorem Ef.mo {m : Nat} {a b : List Int} (ha : Ef m a) (hb : Ef m b) : Ef m (mostL a b) := zip_ef (fun x y h k => by omega) ha hb
theorem Ef.mk (m : Nat) (ns : List Int) : Ef m (makeL m ns) := ⟨make_sg m ns, make_len m ns⟩
theorem Ef.all (m : Nat) : Ef m (allL m 49) := ⟨fun x hx => by have := List.eq_of_mem_replicate hx; omega, by simp [allL]⟩
theorem Ef.put {m : Nat} {a : List Int} (ha : Ef m a) (p : Int) {c : Int} (h0 : 48 ≤ c) (h1 : c ≤ 50) : Ef m (putL a p c) := ⟨put_sg ha.1 p h0 h1, by rw [put_len, ha.2]⟩

variable {m : Nat}
theorem make_e {ns l : List Int} (h : Hid (makeL m ns = l)) (hm : Hid (m ≤ 1000)) (A : Option Addr) (c : Nat) (w : World) (hr : Rd w A (enc (Value.int .i64) ns)) (hn : ns.length ≤ c) (hc : c ≤ 9223372036854775807) :
    Calls Try.prog 12 #[.int .i64 m, .slice A ns.length c] w fun e w' => e = .returned (.string (st l)) ∧ Below w.heap.size w w' := by
  have hm' := hm.out
  have := make_any m A c ns w (by omega) (by omega) hr hn hc
  rw [Int.toNat_natCast, h.out] at this
  exact this
theorem then_e {a b c : List Int} (h : Hid (thenL a b = c)) (ha : Hid (Ef m a)) (hb : Hid (Ef m b)) (hm : Hid (m ≤ 1000)) (w : World) :
    Calls Try.prog 14 #[.string (st a), .string (st b)] w fun e w' => e = .returned (.string (st c)) ∧ Below w.heap.size w w' :=
  then_to h.out ha.out.1.asc hb.out.1.asc (by rw [ha.out.2]; exact hm.out) (by rw [hb.out.2]; exact hm.out) w
theorem least_e {a b c : List Int} (h : Hid (leastL a b = c)) (ha : Hid (Ef m a)) (hb : Hid (Ef m b)) (hm : Hid (m ≤ 1000)) (w : World) :
    Calls Try.prog 15 #[.string (st a), .string (st b)] w fun e w' => e = .returned (.string (st c)) ∧ Below w.heap.size w w' :=
  least_to h.out ha.out.1.asc hb.out.1.asc (by rw [ha.out.2]; exact hm.out) (by rw [hb.out.2]; exact hm.out) w
theorem most_e {a b c : List Int} (h : Hid (mostL a b = c)) (ha : Hid (Ef m a)) (hb : Hid (Ef m b)) (hm : Hid (m ≤ 1000)) (w : World) :
    Calls Try.prog 16 #[.string (st a), .string (st b)] w fun e w' => e = .returned (.string (st c)) ∧ Below w.heap.size w w' :=
  most_to h.out ha.out.1.asc hb.out.1.asc (by rw [ha.out.2]; exact hm.out) (by rw [hb.out.2]; exact hm.out) w
theorem refthen_e {a b c : List Int} (h : Hid (thenL a b = c)) (ha : Hid (Ef m a)) (hb : Hid (Ef m b)) (hm : Hid (m ≤ 1000)) (w : World) :
    Calls Try.prog 25 #[.string (st a), .string (st b)] w fun e w' => e = .returned (.string (st c)) ∧ Below w.heap.size w w' :=
  refthen_to h.out ha.out.1.asc hb.out.1.asc (by rw [ha.out.2, hb.out.2]) (by rw [ha.out.2]; exact hm.out) w
theorem refleast_e {a b c : List Int} (h : Hid (leastL a b = c)) (ha : Hid (Ef m a)) (hb : Hid (Ef m b)) (hm : Hid (m ≤ 1000)) (w : World) :
    Calls Try.prog 17 #[.string (st a), .string (st b)] w fun e w' => e = .returned (.string (st c)) ∧ Below w.heap.size w w' :=
  refleast_to h.out ha.out.1.asc hb.out.1.asc (by rw [ha.out.2, hb.out.2]) (by rw [ha.out.2]; exact hm.out) w
theorem refmost_e {a b c : List Int} (h : Hid (mostL a b = c)) (ha : Hid (Ef m a)) (hb : Hid (Ef m b)) (hm : Hid (m ≤ 1000)) (w : World) :
    Calls Try.prog 18 #[.string (st a), .string (st b)] w fun e w' => e = .returned (.string (st c)) ∧ Below w.heap.size w w' :=
  refmost_to h.out ha.out.1.asc hb.out.1.asc (by rw [ha.out.2, hb.out.2]) (by rw [ha.out.2]; exact hm.out) w
theorem refall_e {c : List Int} (h : Hid (allL m 49 = c)) (hm : Hid (m ≤ 1000)) (w : World) :
    Calls Try.prog 13 #[.int .i64 m, .int .u8 49] w fun e w' => e = .returned (.string (st c)) ∧ Below w.heap.size w w' :=
  refall_to h.out hm.out (by decide) (by decide) w
theorem put_e {a l : List Int} {p c : Int} (h : Hid (putL a p c = l)) (ha : Hid (Ef m a)) (hc : Hid (48 ≤ c ∧ c ≤ 50)) (hm : Hid (m ≤ 1000)) (w : World) :
    Calls Try.prog 21 #[.string (st a), .int .i64 p, .int .u8 c] w fun e w' => e = .returned (.string (st l)) ∧ Below w.heap.size w w' :=
  put_to h.out ha.out.1 (by rw [ha.out.2]; exact hm.out) hc.out.1 hc.out.2 w
theorem refput_e {a l : List Int} {p c : Int} (h : Hid (putL a p c = l)) (ha : Hid (Ef m a)) (hc : Hid (48 ≤ c ∧ c ≤ 50)) (hm : Hid (m ≤ 1000)) (w : World) :
    Calls Try.prog 22 #[.string (st a), .int .i64 p, .int .u8 c] w fun e w' => e = .returned (.string (st l)) ∧ Below w.heap.size w w' :=
  refput_to h.out ha.out.1.asc hc.out.1 hc.out.2 (by rw [ha.out.2]; exact hm.out) w
theorem has_e {a : List Int} {p : Int} {b : Bool} (h : Hid (hasL a p = b)) (ha : Hid (Ef m a)) (w : World) :
    Calls Try.prog 20 #[.string (st a), .int .i64 p] w fun e w' => e = .returned (.bool b) ∧ Below w.heap.size w w' :=
  has_to h.out ha.out.1.asc w
theorem refhas_e {a : List Int} {p : Int} {b : Bool} (h : Hid (hasL a p = b)) (ha : Hid (Ef m a)) (hm : Hid (m ≤ 1000)) (w : World) :
    Calls Try.prog 23 #[.string (st a), .int .i64 p] w fun e w' => e = .returned (.bool b) ∧ Below w.heap.size w w' :=
  refhas_to h.out ha.out.1.asc (by rw [ha.out.2]; exact hm.out) w

/-! ### two lists of one length that agree everywhere -/
theorem zz {f g : Int → Int → Int} {a b : List Int} (h : ∀ x y, f x y = g x y) : List.zipWith f a b = List.zipWith g a b := by congr 1; funext x y; exact h x y
theorem pw {m : Nat} {a b : List Int} (ha : a.length = m) (hb : b.length = m) (h : ∀ i (h1 : i < a.length) (h2 : i < b.length), a[i] = b[i]) : a = b :=
  List.ext_getElem (by omega) h
end Go.Proofs.Ytdabpeoaleopmaa
