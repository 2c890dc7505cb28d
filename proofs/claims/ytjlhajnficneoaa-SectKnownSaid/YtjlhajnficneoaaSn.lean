/- The plain laws: what Bytes writes, Parse reads. -/
import Derived.Test.YtjlhajnficneoaaSm
namespace Go.Proofs.Ytjlhajnficneoaa
set_option linter.unusedVariables false
set_option linter.unusedSimpArgs false
open Go.RowKit

theorem num_le4 (x : Int) (h : 0 ≤ x ∧ x ≤ 4294967295) : ((num (leN x 4) : Nat) : Int) = x := by
  have e : leN x 4 = [(x / 256 ^ 0 % 256).toNat, (x / 256 ^ 1 % 256).toNat, (x / 256 ^ 2 % 256).toNat, (x / 256 ^ 3 % 256).toNat] := rfl
  rw [e]; simp only [num]; omega
theorem num_le2 (x : Int) (h : 0 ≤ x ∧ x ≤ 65535) : ((num (leN x 2) : Nat) : Int) = x := by
  have e : leN x 2 = [(x / 256 ^ 0 % 256).toNat, (x / 256 ^ 1 % 256).toNat] := rfl
  rw [e]; simp only [num]; omega
theorem num_le1 (x : Int) (h : 0 ≤ x ∧ x ≤ 255) : ((num (leN x 1) : Nat) : Int) = x := by
  have e : leN x 1 = [(x / 256 ^ 0 % 256).toNat] := rfl
  rw [e]; simp only [num]; omega

theorem bytes_len (p : PartD) (h : p.data.length = 52) : p.bytes.length = 64 := by simp [PartD.bytes, head_len, leN_len, h]
theorem bytes_8 (p : PartD) (h : Bytes8 p.data) : Bytes8 p.bytes := ((head_8 _).append (leN_8 _ _)).append h

theorem readP_bytes (p : PartD) (h : p.ok) : readP p.bytes = p := by
  obtain ⟨a1, a2, a3, a4, a5, a6, a7, a8, a9⟩ := h
  have e : p.bytes = leN p.gen 4 ++ (leN p.rc 2 ++ (leN p.n 1 ++ (leN p.ofn 1 ++ (leN (crc (p.head ++ p.data)) 4 ++ p.data)))) := by simp [PartD.bytes, PartD.head]
  have l4 := leN_len p.gen 4
  have l2 := leN_len p.rc 2
  have l1 := leN_len p.n 1
  have l0 := leN_len p.ofn 1
  have lc := leN_len (crc (p.head ++ p.data)) 4
  have d4 : p.bytes.drop 4 = leN p.rc 2 ++ (leN p.n 1 ++ (leN p.ofn 1 ++ (leN (crc (p.head ++ p.data)) 4 ++ p.data))) := by rw [e]; exact List.drop_left' l4
  have d6 : p.bytes.drop 6 = leN p.n 1 ++ (leN p.ofn 1 ++ (leN (crc (p.head ++ p.data)) 4 ++ p.data)) := by
    rw [show p.bytes.drop 6 = (p.bytes.drop 4).drop 2 by simp, d4]; exact List.drop_left' l2
  have d7 : p.bytes.drop 7 = leN p.ofn 1 ++ (leN (crc (p.head ++ p.data)) 4 ++ p.data) := by
    rw [show p.bytes.drop 7 = (p.bytes.drop 6).drop 1 by simp, d6]; exact List.drop_left' l1
  have d8 : p.bytes.drop 8 = leN (crc (p.head ++ p.data)) 4 ++ p.data := by
    rw [show p.bytes.drop 8 = (p.bytes.drop 7).drop 1 by simp, d7]; exact List.drop_left' l0
  have d12 : p.bytes.drop 12 = p.data := by
    rw [show p.bytes.drop 12 = (p.bytes.drop 8).drop 4 by simp, d8]; exact List.drop_left' lc
  unfold readP
  rw [d4, d6, d7, d12, List.take_left' l2, List.take_left' l1, List.take_left' l0, show p.bytes.take 4 = leN p.gen 4 by rw [e]; exact List.take_left' l4,
    num_le4 _ ⟨by omega, a2⟩, num_le2 _ ⟨a3, a4⟩, num_le1 _ ⟨a7, by omega⟩, num_le1 _ ⟨by omega, a6⟩]

theorem parseD_bytes (p : PartD) (h : p.ok) : parseD p.bytes = (p, true) := by
  have hl : p.bytes.length = 64 := bytes_len p h.2.2.2.2.2.2.2.2
  have hr := readP_bytes p h
  unfold parseD
  rw [if_pos ⟨hl, by rw [hr]; exact h, by rw [hr]⟩, hr]

/-- Make, its slice written out -/
theorem make_at (gen rc n ofn : Int) (A : Option Addr) (c : Nat) (l : List Nat) (w : World) (hr : Rd w A (bs l)) (hn : l.length ≤ c) (hc : c ≤ 9223372036854775807) (p : PartD) (hp : makeD gen rc n ofn l = p) :
    Calls Try.prog 15 #[.int .i64 gen, .int .i64 rc, .int .i64 n, .int .i64 ofn, .slice A l.length c] w fun e w' => ∃ g cap, e = .returned (.agg #[.int .i64 p.gen, .int .i64 p.rc, .int .i64 p.n, .int .i64 p.ofn, .slice (some ⟨g, 0, none⟩) 52 cap]) ∧ w.heap.size ≤ g ∧ OwnB w' w.heap.size (.slice (some ⟨g, 0, none⟩) 52 cap) p.data ∧ Rd w' (some ⟨g, 0, none⟩) (bs p.data) ∧ Below w.heap.size w w' := by
  subst hp
  refine (make_any gen rc n ofn A c l w hr hn hc).mono ?_
  rintro e w' ⟨v, rfl, ho, hb⟩
  have hl := makeD_len gen rc n ofn l
  have ho' := ho
  unfold OwnB at ho'
  rw [hl] at ho'
  obtain ⟨g, cap, rfl, hcap, hg⟩ := own_some ho' (by decide)
  obtain ⟨A', c', e, -, -, h3, -⟩ := Rd.own ho'
  cases e
  exact ⟨g, cap, rfl, hg, ho, h3, hb⟩
end Go.Proofs.Ytjlhajnficneoaa
