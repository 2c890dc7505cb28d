/-
  The walk of slices' stable sort of up to thirty places.
  The walks of a place's weight: the program's and the document's.
  A map that counts the classes.
  The walk of rank.Order: the count of the classes.
-/
import Derived.Test.YtdhklfbelplbcaaZ36
import Derived.Maps.OwnOps
import Derived.Maps.Views
import Derived.Maps.Keyed
import Derived.StringKeys
import Derived.WalkArith
namespace Go.Proofs.Ytdhklfbelplbcaa
set_option linter.unusedVariables false
set_option linter.unusedSimpArgs false
open Go.RowKit

variable {w0 : World} {gd hb gh n : Nat} {hs : List Nat}
theorem PermN.id (n : Nat) : PermN n (fun p => p) := ⟨fun p h => h, fun p q _ _ h => h⟩
set_option maxHeartbeats 16000000 in
set_option maxRecDepth 100000 in
theorem stable_any (E : Env w0 gd hb gh n hs) (hn : n ≤ 30) (W : World) (hst : SortSt w0 gd n (fun p => p) W) :
    Calls Try.prog 60 #[.slice (some ⟨gd, 0, none⟩) n n, .int .i64 (n : Nat), FNG hb] W fun e w' => e = .returned (.tuple #[]) ∧ ∃ f', SortSt w0 gd n f' w' ∧ PermN n f' ∧ SegS (keyL hs) f' 0 n := by
  unfold FNG
  have hst' := Lib.hid hst
  clear hst
  have p1 : (2 : Int) * 20 = 40 := by omega
  have u1 : decide ((40 : Int) ≤ (n : Int)) = false := by simp; omega
  have u2 : decide ((40 : Int) < (n : Int)) = false := by simp; omega
  go_enter Try.func60, Try.ntmps60
  go_wp2_with fail
  go_loopw [7, 8] (fun i j wr => ∃ f, SortSt w0 gd n f wr ∧ PermN n f ∧ ((i = .int .i64 0 ∧ j = .int .i64 20 ∧ f = fun p => p) ∨ (i = .int .i64 20 ∧ j = .int .i64 40 ∧ 20 ≤ n ∧ Hid (SegS (keyL hs) f 0 20) ∧ Hid (∀ p, 20 ≤ p → f p = p) ∧ Hid (∀ p, p < 20 → f p < 20)))) (fun _ j _ => 60 - (intOf j).toNat)
  case atStart => exact ⟨fun p => p, hst'.out, PermN.id n, .inl ⟨rfl, rfl, rfl⟩⟩
  case round =>
    obtain ⟨f, hs1, hp1, ⟨rfl, rfl, rfl⟩ | ⟨rfl, rfl, hn2, hsg, hid1, hlo⟩⟩ := hrel
    · by_cases c : 20 ≤ n
      · have c1 : decide (20 ≤ n) = true := by simpa using c
        have c2 : decide ((20 : Int) ≤ (n : Int)) = true := by simp; omega
        replace hs1 := Lib.hid hs1
        replace hp1 := Lib.hid hp1
        go_wp2_with (go_at_call 69; refine (insert_any E 0 20 (fun p => p) _ hs1.out hp1.out (fun _ _ _ => rfl) c (by omega)).mono ?_; rintro ex w' ⟨rfl, f1, h1, h2, h3, h4, h5⟩; replace hs1 := Lib.hid h1; replace hp1 := Lib.hid h2; have ho := Lib.hid h3; have hsg := Lib.hid h4; have hlo := Lib.hid h5; clear h1 h2 h3 h4 h5)
        exact ⟨⟨f1, hs1.out, hp1.out, .inr ⟨rfl, rfl, c, hsg, Lib.hid (fun p h => ho.out p (by omega)), Lib.hid (fun p h => (hlo.out p (by omega) h).2)⟩⟩, by simp [intOf]⟩
      · have c1 : decide (20 ≤ n) = false := by simpa using c
        have c2 : decide ((20 : Int) ≤ (n : Int)) = false := by simp; omega
        have c3 : decide (20 < n) = false := by simp; omega
        have c4 : decide ((20 : Int) < (n : Int)) = false := by simp; omega
        replace hs1 := Lib.hid hs1
        replace hp1 := Lib.hid hp1
        go_wp2_with (go_at_call 69; refine (insert_any E 0 n (fun p => p) _ hs1.out hp1.out (fun _ _ _ => rfl) (Nat.le_refl _) (by omega)).mono ?_; rintro ex w' ⟨rfl, f1, h1, h2, h3, h4, h5⟩; replace hs1 := Lib.hid h1; replace hp1 := Lib.hid h2; have ho := Lib.hid h3; have hsg := Lib.hid h4; have hlo := Lib.hid h5; clear h1 h2 h3 h4 h5)
        go_loopw [6] (fun i wr => i = .int .i64 20 ∧ SortSt w0 gd n f1 wr) (fun _ _ => 0)
        case atStart => exact ⟨rfl, hs1.out⟩
        case round =>
          obtain ⟨rfl, hs2⟩ := hrel
          replace hs2 := Lib.hid hs2
          go_wp2_with fail
          first | go_end0 | go_ret
          exact ⟨rfl, f1, hs2.out, hp1.out, hsg.out⟩
    · by_cases c : 20 < n
      · have c1 : decide (20 < n) = true := by simpa using c
        have c2 : decide ((20 : Int) < (n : Int)) = true := by simp; omega
        have c3 : decide ((n : Int) < (n : Int)) = false := by simp
        replace hs1 := Lib.hid hs1
        replace hp1 := Lib.hid hp1
        go_wp2_with (go_at_call 69; refine (insert_any E 20 n f _ hs1.out hp1.out (fun p h _ => hid1.out p h) (Nat.le_refl _) hn2).mono ?_; rintro ex w' ⟨rfl, f1, h1, h2, h3, h4, h5⟩; replace hs1 := Lib.hid h1; replace hp1 := Lib.hid h2; have ho := Lib.hid h3; have hsg2 := Lib.hid h4; have hhi := Lib.hid h5; clear h1 h2 h3 h4 h5)
        have hin : Hid (MgIn (keyL hs) 20 n f1 0 20 n) := Lib.hid ⟨by omega, c, Nat.le_refl _, fun p q k1 k2 k3 => by rw [ho.out p (by omega), ho.out q (by omega)]; exact hsg.out p q k1 k2 k3, hsg2.out, fun p k1 k2 => by rw [ho.out p (by omega)]; exact hlo.out p k2, fun p k1 k2 => (hhi.out p k1 k2).1, hp1.out⟩
        go_loopw [6] (fun i wr => (i = .int .i64 20 ∧ SortSt w0 gd n f1 wr) ∨ (i = .int .i64 40 ∧ ∃ f2, SortSt w0 gd n f2 wr ∧ MgOut (keyL hs) n f1 f2 0 n)) (fun i _ => 60 - (intOf i).toNat)
        case atStart => exact .inl ⟨rfl, hs1.out⟩
        case round =>
          obtain ⟨rfl, hs2⟩ | ⟨rfl, f2, hs2, hou⟩ := hrel
          · replace hs2 := Lib.hid hs2
            obtain ⟨wq, hwq⟩ : ∃ x, x = wr := ⟨_, rfl⟩
            go_wp2_with fail
            go_loopw [7, 8] (fun i j ws => i = .int .i64 0 ∧ j = .int .i64 40 ∧ ws = wq) (fun _ _ _ => 0)
            case atStart => exact ⟨rfl, rfl, hwq.symm⟩
            case round =>
              obtain ⟨rfl, rfl, rfl⟩ := hrel
              subst hwq
              go_wp2_with (go_at_call 70; refine (symm_any E 20 n 0 20 n f1 _ (by omega) hs2.out hin.out).mono ?_; rintro ex w' ⟨rfl, f2, h1, h2⟩; replace hs2 := Lib.hid h1; have hou := Lib.hid h2; clear h1 h2)
              exact ⟨.inr ⟨rfl, f2, hs2.out, hou.out⟩, by simp [intOf]⟩
          · replace hs2 := Lib.hid hs2
            have hou' := Lib.hid hou
            clear hou
            go_wp2_with fail
            first | go_end0 | go_ret
            exact ⟨rfl, f2, hs2.out, hou'.out.perm, hou'.out.seg⟩
      · have hn3 : n = 20 := by omega
        subst hn3
        replace hs1 := Lib.hid hs1
        replace hp1 := Lib.hid hp1
        go_wp2_with (go_at_call 69; refine (insert_any E 20 20 f _ hs1.out hp1.out (fun p h _ => hid1.out p h) (Nat.le_refl _) hn2).mono ?_; rintro ex w' ⟨rfl, f1, h1, h2, h3, h4, h5⟩; replace hs1 := Lib.hid h1; replace hp1 := Lib.hid h2; have ho := Lib.hid h3; have hsg2 := Lib.hid h4; have hhi := Lib.hid h5; clear h1 h2 h3 h4 h5)
        go_loopw [6] (fun i wr => i = .int .i64 20 ∧ SortSt w0 gd 20 f1 wr) (fun _ _ => 0)
        case atStart => exact ⟨rfl, hs1.out⟩
        case round =>
          obtain ⟨rfl, hs2⟩ := hrel
          replace hs2 := Lib.hid hs2
          go_wp2_with fail
          first | go_end0 | go_ret
          exact ⟨rfl, f1, hs2.out, hp1.out, fun p q k1 k2 k3 => by rw [ho.out p (by omega), ho.out q (by omega)]; exact hsg.out p q k1 k2 k3⟩

set_option maxHeartbeats 4000000 in
theorem sort_any (E : Env w0 gd hb gh n hs) (hn : n ≤ 30) (W : World) (hst : SortSt w0 gd n (fun p => p) W) :
    Calls Try.prog 46 #[.slice (some ⟨gd, 0, none⟩) n n, FNG hb] W fun e w' => e = .returned (.tuple #[]) ∧ ∃ f', SortSt w0 gd n f' w' ∧ PermN n f' ∧ SegS (keyL hs) f' 0 n := by
  unfold FNG
  have hst' := Lib.hid hst
  clear hst
  go_enter Try.func46, Try.ntmps46
  go_wp2_with (go_at_call 60; refine (stable_any E hn _ hst'.out).mono ?_; rintro ex w' ⟨rfl, f2, h1, h2, h3⟩; have hs2 := Lib.hid h1; have hp := Lib.hid h2; have hsg := Lib.hid h3; clear h1 h2 h3)
  first | go_end0 | go_ret
  exact ⟨rfl, f2, hs2.out, hp.out, hsg.out⟩
end Go.Proofs.Ytdhklfbelplbcaa
namespace Go.Proofs.Ytdhklfbelplbcaa
set_option linter.unusedVariables false
set_option linter.unusedSimpArgs false
open Go.RowKit

def strsG (l : List ByteArray) : List Value := enc Value.string l
/-- the last class that answers, among the first k -/
def wtP (cs : List ByteArray) (hv : List Nat) (c : ByteArray) : Nat → Nat
  | 0 => 0
  | k + 1 => if cs[k]?.any (fun x => x.toList == c.toList) then hv[k]?.getD 0 else wtP cs hv c k

set_option maxHeartbeats 4000000 in
set_option maxRecDepth 100000 in
theorem weight_any (A B : Option Addr) (ca cb : Nat) (cs : List ByteArray) (hv : List Nat) (c : ByteArray) (w : World) (hr : Rd w A (strsG cs)) (hr2 : Rd w B (fl hv)) (hn : cs.length ≤ ca) (hca : ca ≤ 9223372036854775807) (hm : hv.length ≤ cb) (hcb : cb ≤ 9223372036854775807) :
    Calls Try.prog 45 #[.string c, .slice A cs.length ca, .slice B hv.length cb] w fun e w' => e = .returned (.float .f64 (wtP cs hv c cs.length)) ∧ w' = w := by
  have hr' := Lib.hid hr
  have hr2' := Lib.hid hr2
  clear hr hr2
  go_enter Try.func45, Try.ntmps45
  go_wp2
  go_loopw [7] (fun i wr => ∃ k : Nat, k ≤ cs.length ∧ i = .int .i64 ((k : Int) - 1) ∧ Hid (wtP cs hv c k = wtP cs hv c cs.length) ∧ wr = w) (fun i _ => ((intOf i) + 1).toNat)
  case atStart => exact ⟨cs.length, Nat.le_refl _, rfl, Lib.hid rfl, rfl⟩
  case round =>
    obtain ⟨k, hk, rfl, hw, rfl⟩ := hrel
    rcases k with _ | k
    · have e : (((0 : Nat) : Int) - 1) = -1 := by omega
      rw [e]
      have hw0 : Hid (wtP cs hv c cs.length = 0) := Lib.hid hw.out.symm
      clear hw
      go_wp2
      first | go_ret | go_end0
      exact ⟨by rw [hw0.out]; rfl, rfl⟩
    · have e : (((k + 1 : Nat) : Int) - 1) = (k : Int) := by omega
      rw [e]
      have hlt : k < cs.length := by omega
      have k1 : (0 : Int) ≤ (k : Int) := by omega
      have k2 : (k : Int) < (cs.length : Int) := by omega
      obtain ⟨ad, x, rfl, hx, hxe⟩ := hr'.out.at k hlt
      have hc0 : cs[k]?.any (fun x => x.toList == c.toList) = (x.toList == c.toList) := by rw [List.getElem?_eq_getElem hlt, ← hxe]; rfl
      by_cases c1 : (x.toList == c.toList) = true
      · rw [c1] at hc0
        by_cases c2 : k < hv.length
        · obtain ⟨bd, y, rfl, hy, hye⟩ := hr2'.out.at k c2
          have hd : decide (k < hv.length) = true := by simpa using c2
          have hd2 : decide ((k : Int) < (hv.length : Int)) = true := by simp; omega
          have hw0 : Hid (wtP cs hv c cs.length = y) := Lib.hid (by rw [← hw.out, wtP, if_pos hc0, List.getElem?_eq_getElem c2, ← hye]; rfl)
          clear hw hxe hye hc0
          go_wp2
          exact bodyPost_ret (v := .float .f64 y) (by simp [results, Try.results45, go_sem]) rfl ⟨by rw [hw0.out], rfl⟩
        · have hd : decide (k < hv.length) = false := by simpa using c2
          have hd2 : decide ((k : Int) < (hv.length : Int)) = false := by simp; omega
          have hw0 : Hid (wtP cs hv c cs.length = 0) := Lib.hid (by rw [← hw.out, wtP, if_pos hc0, List.getElem?_eq_none (by omega)]; rfl)
          clear hw hxe hc0
          go_wp2
          exact bodyPost_ret (v := .float .f64 0) (by simp [results, Try.results45, go_sem]) rfl ⟨by rw [hw0.out], rfl⟩
      · have hc : (x.toList == c.toList) = false := Bool.not_eq_true _ ▸ c1
        have hw0 : Hid (wtP cs hv c k = wtP cs hv c cs.length) := Lib.hid (by rw [← hw.out, wtP, if_neg (by rw [hc0]; exact c1)])
        clear hw hxe hc0
        go_wp2
        go_roundw
        case rel => exact ⟨k, by omega, rfl, hw0, trivial⟩
        case measure => simp [intOf]
end Go.Proofs.Ytdhklfbelplbcaa
namespace Go.Proofs.Ytdhklfbelplbcaa
set_option linter.unusedVariables false
set_option linter.unusedSimpArgs false
open Go.RowKit Go.Maps

/-- how many of the first k are alike s -/
def cntP (ns : List ByteArray) (s : ByteArray) : Nat → Nat
  | 0 => 0
  | k + 1 => cntP ns s k + if ns[k]?.any (fun x => x.toList == s.toList) then 1 else 0
theorem cntP_le (ns : List ByteArray) (s : ByteArray) (k : Nat) : cntP ns s k ≤ k := by
  induction k with
  | zero => exact Nat.le_refl _
  | succ k ih => unfold cntP; split <;> omega
/-- the map has counted the first k -/
def MapSt (W : World) (gm m : Nat) (ns : List ByteArray) (k : Nat) : Prop :=
  ∃ D : DataW Unit, W.ownsMap Try.prog 9 (plainElem Try.prog 3) gm m D ∧ ∀ s : ByteArray, D.atKey (.string s.data.toList) (.lit (.int .i64 0)) = .lit (.int .i64 (cntP ns s k : Nat))
theorem zero3 (w : World) : (zeroValue 3).run Try.prog w = .ok (.int .i64 0) w := by kernel_rfl
theorem MapSt.made (W : World) (ns : List ByteArray) : MapSt (W.alloc (.map #[] 0)) W.heap.size 0 ns 0 :=
  ⟨.map [], World.ownsMap_made _ _ _ _, fun s => WideAt.atKey_none _ (fun p hp => by simp at hp)⟩
theorem MapSt.kept {W W' : World} {gm m k : Nat} {ns : List ByteArray} {row : Option Nat} (h : MapSt W gm m ns k) (hg : W.grownBy W' row) (hne : some gm ≠ row) : MapSt W' gm m ns k := by
  obtain ⟨D, h1, h2⟩ := h
  exact ⟨D, h1.kept hg hne, h2⟩
set_option maxRecDepth 100000 in
theorem MapSt.lookup {W : World} {gm m k : Nat} {ns : List ByteArray} (h : MapSt W gm m ns k) (s : ByteArray) (hs : s.size ≤ maxLen) :
    (Instr.lookup 104 (.map (some gm)) (.string s) false).run Try.prog W = .ok (.int .i64 (cntP ns s k : Nat)) W := by
  obtain ⟨D, h1, h2⟩ := h
  obtain ⟨c, hr, hat, _⟩ := h1.lookup_int (string_keyed Try.underlying9) Try.underlying104 Try.underlying3 (zero3 _) (WideMaps.keyOf_string_mk Try.underlying9 hs)
  rw [h2 s] at hat
  injection hat with hat
  injection hat with _ hat
  rw [hr, ← hat]
set_option maxRecDepth 100000 in
theorem MapSt.update {W : World} {gm m k : Nat} {ns : List ByteArray} (h : MapSt W gm m ns k) (s : ByteArray) (hk : ns[k]? = some s) (hs : s.size ≤ maxLen) (hm : m < 1000000) (hkm : k < 1000000) :
    ∃ W', (Instr.mapUpdate 104 (.map (some gm)) (.string s) (.int .i64 ((cntP ns s k : Nat) + 1 : Int))).run Try.prog W = .ok () W' ∧ MapSt W' gm (m + 1) ns (k + 1) ∧ W.grownBy W' (some gm) := by
  obtain ⟨D, h1, h2⟩ := h
  have hle := cntP_le ns s k
  have hwf : (Lit.int .i64 ((cntP ns s k : Nat) + 1 : Int)).wf = true := WalkArith.wf_i64 (by omega)
  obtain ⟨W', r1, r2, r3⟩ := h1.update (string_keyed Try.underlying9) Try.underlying104 (by unfold maxLen; omega) (WideMaps.keyOf_string_mk Try.underlying9 hs) (plainElem_int Try.underlying3 hwf)
  refine ⟨W', r1, ⟨_, r2, fun z => ?_⟩, r3⟩
  by_cases e : z.data.toList = s.data.toList
  · have hc : cntP ns z (k + 1) = cntP ns s k + 1 := by
      have : ∀ j, cntP ns z j = cntP ns s j := by
        intro j
        induction j with
        | zero => rfl
        | succ j ih => unfold cntP; rw [ih, ByteArray.toList_eq z, e, ← ByteArray.toList_eq s]
      rw [cntP, this k, hk]
      simp [ByteArray.toList_eq, e]
    rw [e, atKey_put_same h1.isMap (show WideAt.IsKeyLit (.string s.data.toList) from True.intro), hc]
    rfl
  · rw [atKey_put_other (fun h => e (by injection h)), h2 z, cntP, hk]
    have : (s.toList == z.toList) = false := by
      rw [ByteArray.toList_eq, ByteArray.toList_eq]
      exact beq_eq_false_iff_ne.2 (fun h => e h.symm)
    simp [this]
end Go.Proofs.Ytdhklfbelplbcaa
namespace Go.Proofs.Ytdhklfbelplbcaa
set_option linter.unusedVariables false
set_option linter.unusedSimpArgs false
open Go.RowKit Go.Maps

/-- a row of races: their variables -/
def RaceR (w : World) (A : Option Addr) (ns : List ByteArray) : Prop :=
  ∀ i, ∀ h : i < ns.length, ∃ ad s1 x1 s2 x2, A = some ad ∧ w.cell? (ad.add (i * 5)) = some (.string ns[i]) ∧ w.cell? ⟨(ad.add (i * 5)).block, (ad.add (i * 5)).off + 1, none⟩ = some (.string s1) ∧ w.cell? ⟨(ad.add (i * 5)).block, (ad.add (i * 5)).off + 2, none⟩ = some (.int .i64 x1) ∧ w.cell? ⟨(ad.add (i * 5)).block, (ad.add (i * 5)).off + 3, none⟩ = some (.string s2) ∧ w.cell? ⟨(ad.add (i * 5)).block, (ad.add (i * 5)).off + 4, none⟩ = some (.int .i64 x2)
theorem RaceR.below {w w' : World} {A : Option Addr} {ns : List ByteArray} (h : RaceR w A ns) (hb : Below w.heap.size w w') : RaceR w' A ns := by
  intro i hi
  obtain ⟨ad, s1, x1, s2, x2, h1, h2, h3, h4, h5, h6⟩ := h i hi
  exact ⟨ad, s1, x1, s2, x2, h1, bl_cell hb h2, bl_cell hb h3, bl_cell hb h4, bl_cell hb h5, bl_cell hb h6⟩
/-- the world while the classes are counted -/
structure OrdA (w W : World) (v : Array Value) (ns : List ByteArray) (k : Nat) : Prop where
  hB : Below w.heap.size w W
  bx : W.heap[w.heap.size]? = some (.cells v 48 (0, 0))
  mp : MapSt W (w.heap.size + 1) k ns k
  sz : w.heap.size + 2 ≤ W.heap.size
theorem OrdA.start (w : World) (v : Array Value) (ns : List ByteArray) : OrdA w ((w.alloc (.cells v 48)).alloc (.map #[] 0)) v ns 0 := by
  have h := MapSt.made (w.alloc (.cells v 48)) ns
  have e : (w.alloc (.cells v 48)).heap.size = w.heap.size + 1 := by simp
  rw [e] at h
  refine ⟨bl_alloc (bl_alloc (Below.refl _ _) _) _, ?_, h, by simp⟩
  rw [Below.heap_alloc _ _ _ (by simp)]; exact heap_alloc_new w _
theorem OrdA.step {w W W' : World} {v : Array Value} {ns : List ByteArray} {k : Nat} (h : OrdA w W v ns k) (o : Obj) (hm : MapSt W' (w.heap.size + 1) (k + 1) ns (k + 1)) (hg : (W.alloc o).grownBy W' (some (w.heap.size + 1))) : OrdA w W' v ns (k + 1) := by
  have hs := h.sz
  refine ⟨(bl_alloc h.hB o).grown hg (by simp; omega) (fun j hj => by cases hj; omega), ?_, hm, ?_⟩
  · rw [hg.block w.heap.size (by simp; omega) (by simp), Below.heap_alloc _ _ _ (by omega)]; exact h.bx
  · have := hg.size; simp at this; omega

theorem info3 : (Try.prog.info? 3).map (fun i => (i.zero, i.size, i.bytes)) = some (some (.int .i64 0), 1, 8) := by kernel_rfl
theorem zer_row (n : Nat) : zer (.int .i64 0) n = rowF n (fun p => if p < 0 then p else 0) := by
  apply List.ext_getElem
  · simp [rowF, zer]
  · intro i h1 h2; simp [rowF, zer]
theorem zer_fl (n : Nat) : zer (.float .f64 0) n = fl (List.replicate n 0) := by
  simp [zer, fl, enc]
def mulO (w k : Nat) : Option Nat := floatBits .mul .f64 w (floatOfInt .f64 (k : Nat))
/-- the world while the weights are laid -/
structure OrdB (wq W : World) (n : Nat) (P : Nat → Option Nat) (j k : Nat) (hs : List Nat) : Prop where
  hB : Below wq.heap.size wq W
  od : W.heap[wq.heap.size]? = some (.cells (rowF n (fun p => if p < j then p else 0)).toArray 3 (0, 0))
  hv : W.heap[wq.heap.size + 1]? = some (.cells (fl hs).toArray 23 (0, 0))
  bx : W.heap[wq.heap.size + 2]? = some (.cells #[.slice (some ⟨wq.heap.size + 1, 0, none⟩) n n] 25 (0, 0))
  len : hs.length = n
  ok : ∀ i, i < k → ∀ h : i < hs.length, IsO (P i) hs[i]
  sz : wq.heap.size + 3 ≤ W.heap.size
theorem OrdB.start (wq : World) (n : Nat) (P : Nat → Option Nat) : OrdB wq (((wq.alloc (.cells (zer (.int .i64 0) n).toArray 3)).alloc (.cells (zer (.float .f64 0) n).toArray 23)).alloc (.cells #[.slice (some ⟨wq.heap.size + 1, 0, none⟩) n n] 25)) n P 0 0 (List.replicate n 0) := by
  refine ⟨bl_alloc (bl_alloc (bl_alloc (Below.refl _ _) _) _) _, ?_, ?_, ?_, by simp, fun i h => by omega, by simp⟩
  · rw [Below.heap_alloc _ _ _ (by simp; omega), Below.heap_alloc _ _ _ (by simp), ← zer_row]; exact heap_alloc_new _ _
  · rw [Below.heap_alloc _ _ _ (by simp), ← zer_fl]
    have := heap_alloc_new (wq.alloc (.cells (zer (.int .i64 0) n).toArray 3)) (.cells (zer (.float .f64 0) n).toArray 23)
    simpa using this
  · have := heap_alloc_new ((wq.alloc (.cells (zer (.int .i64 0) n).toArray 3)).alloc (.cells (zer (.float .f64 0) n).toArray 23)) (.cells #[.slice (some ⟨wq.heap.size + 1, 0, none⟩) n n] 25)
    simpa using this

theorem OrdB.into {wq W : World} {n k : Nat} {P : Nat → Option Nat} {hs : List Nat} (h : OrdB wq W n P k k hs) (hk : k < n) (s0 s1 s2 : ByteArray) (x1 x2 : Int) :
    OrdB wq ((W.alloc (.cells #[.string s0, .string s1, .int .i64 x1, .string s2, .int .i64 x2] 86)).setCell ⟨wq.heap.size, k, none⟩ (.int .i64 (k : Nat))) n P (k + 1) k hs ∧
    ((W.alloc (.cells #[.string s0, .string s1, .int .i64 x1, .string s2, .int .i64 x2] 86)).setCell ⟨wq.heap.size, k, none⟩ (.int .i64 (k : Nat))).cell? ⟨W.heap.size, 0, none⟩ = some (.string s0) := by
  have hs3 := h.sz
  have hod : (W.alloc (.cells #[.string s0, .string s1, .int .i64 x1, .string s2, .int .i64 x2] 86)).heap[wq.heap.size]? = some (.cells (rowF n (fun p => if p < k then p else 0)).toArray 3 (0, 0)) := by rw [Below.heap_alloc _ _ _ (by omega)]; exact h.od
  refine ⟨⟨(bl_alloc h.hB _).setCell (Nat.le_refl _) _, ?_, ?_, ?_, h.len, h.ok, ?_⟩, ?_⟩
  · have := (show SortSt (W.alloc (.cells #[.string s0, .string s1, .int .i64 x1, .string s2, .int .i64 x2] 86)) wq.heap.size n _ _ from ⟨grown_refl _ _, hod⟩).set k k (by simp; omega)
    have e : upd (fun p => if p < k then p else 0) k k = fun p => if p < k + 1 then p else 0 := ?_
    · rw [this.2, e]
    funext p
    unfold upd
    by_cases e : p = k
    · rw [if_pos e, if_pos (by omega)]; exact e.symm
    · rw [if_neg e]
      dsimp only
      by_cases e2 : p < k
      · rw [if_pos e2, if_pos (by omega)]
      · rw [if_neg e2, if_neg (by omega)]
  · rw [Below.heap_setCell _ _ _ _ (by simp), Below.heap_alloc _ _ _ (by omega)]; exact h.hv
  · rw [Below.heap_setCell _ _ _ _ (by simp), Below.heap_alloc _ _ _ (by omega)]; exact h.bx
  · simp; omega
  · rw [cell_of_row _ W.heap.size 0 _ 86 (0, 0) (by rw [Below.heap_setCell _ _ _ _ (by simp; omega)]; exact heap_alloc_new W _)]; rfl
theorem OrdB.laid {wq W : World} {n k : Nat} {P : Nat → Option Nat} {hs : List Nat} (h : OrdB wq W n P (k + 1) k hs) (hk : k < n) (v : Nat) (hv : IsO (P k) v) :
    OrdB wq (W.setCell ⟨wq.heap.size + 1, k, none⟩ (.float .f64 v)) n P (k + 1) (k + 1) (hs.set k v) := by
  have hl := h.len
  refine ⟨h.hB.setCell (by simp) _, ?_, ?_, ?_, by simp [h.len], ?_, ?_⟩
  · rw [Below.heap_setCell _ _ _ _ (by simp)]; exact h.od
  · rw [setCell_eq_setRow W _ k _ 23 (0, 0) _ h.hv, List.setIfInBounds_toArray, show (fl hs).set k (.float .f64 v) = fl (hs.set k v) by simp [fl, enc, List.map_set]]
    exact setRow_heap W _ _ _ 23 _ h.hv
  · rw [Below.heap_setCell _ _ _ _ (by simp)]; exact h.bx
  · intro i hi h1
    rw [List.getElem_set]
    by_cases e : k = i
    · subst e; rw [if_pos rfl]; exact hv
    · rw [if_neg e]; exact h.ok i (by omega) (by simpa using h1)
  · simpa using h.sz
theorem OrdB.drewN {wq W : World} {n j k : Nat} {P : Nat → Option Nat} {hs : List Nat} (h : OrdB wq W n P j k hs) (m : Nat) : OrdB wq (W.drewN m) n P j k hs := ⟨bl_drewN h.hB m, h.od, h.hv, h.bx, h.len, h.ok, h.sz⟩

theorem OrdB.of_eq {wq W W' : World} {n j k : Nat} {P : Nat → Option Nat} {hs : List Nat} (h : OrdB wq W n P j k hs) (e1 : W'.heap = W.heap) (e2 : W'.os = W.os) (e3 : W'.tape = W.tape) (e4 : W'.output = W.output) : OrdB wq W' n P j k hs :=
  ⟨⟨e2.trans h.hB.os, e3.trans h.hB.tape, e4.trans h.hB.output, by rw [e1]; exact h.hB.size, fun k hk => by rw [e1]; exact h.hB.block k hk⟩, by rw [e1]; exact h.od, by rw [e1]; exact h.hv, by rw [e1]; exact h.bx, h.len, h.ok, by rw [e1]; exact h.sz⟩
theorem run_mul {P : Program} (w : World) (t : TypeId) (x q : Nat) :
    ∃ r m, (binOp .mul t (.float .f64 x) (.float .f64 (floatOfInt .f64 (q : Nat)))).run P w = .ok (.float .f64 r) (w.drewN m) ∧ IsO (mulO x q) r := by
  rcases hmu : mulO x q with _ | r
  · exact ⟨nanAt w x (floatOfInt .f64 (q : Nat)), 1, run_float_nan w .mul t _ _ (by simp) hmu, nanAt_nan w _ _⟩
  · exact ⟨r, 0, run_float_arith w .mul t .f64 _ _ _ hmu, rfl⟩
/-- the key of a weight -/
def keyO (o : Option Nat) : Int := match o with | some r => keyF r | none => 2 * big + 2
theorem IsO.key {o : Option Nat} {b : Nat} (h : IsO o b) : keyF b = keyO o := by
  cases o with
  | some r => rw [show b = r from h]; rfl
  | none => have h : nanB b = true := h; simp [keyF, h, keyO]
/-- the key of place i -/
def keyR (ns cs : List ByteArray) (hv : List Nat) (i : Nat) : Int := keyO (mulO (wtP cs hv (ns[i]?.getD ByteArray.empty) cs.length) (cntP ns (ns[i]?.getD ByteArray.empty) ns.length))
theorem SegS.congr {K K' : Nat → Int} {f : Nat → Nat} {n : Nat} (h : SegS K f 0 n) (hp : PermN n f) (he : ∀ i, i < n → K i = K' i) : SegS K' f 0 n := by
  intro p q h1 h2 h3
  have := h p q h1 h2 h3
  unfold LtK at this ⊢
  rw [← he _ (hp.1 p (by omega)), ← he _ (hp.1 q h3)]
  exact this
theorem OrdB.ready {wq W : World} {n : Nat} {P : Nat → Option Nat} {hs : List Nat} (h : OrdB wq W n P n n hs) (hn : n ≤ 1000) : Env W wq.heap.size (wq.heap.size + 2) (wq.heap.size + 1) n hs ∧ SortSt W wq.heap.size n (fun p => p) W := by
  have e : rowF n (fun p => if p < n then p else 0) = rowF n (fun p => p) := by
    unfold rowF
    apply List.map_congr_left
    intro p hp
    rw [List.mem_range] at hp
    simp [hp]
  have hs3 := h.sz
  exact ⟨⟨⟨h.bx, h.hv, h.len⟩, by omega, by omega, by omega, hn⟩, grown_refl _ _, by rw [← e]; exact h.od⟩
end Go.Proofs.Ytdhklfbelplbcaa
