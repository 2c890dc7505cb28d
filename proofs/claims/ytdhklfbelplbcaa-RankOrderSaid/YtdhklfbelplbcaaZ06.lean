/-
  The walks over rows of names: In, With.
-/
import Derived.Test.YtdhklfbelplbcaaZ05
import Derived.Deep.RegionLaw
namespace Go.Proofs.Ytdhklfbelplbcaa
set_option linter.unusedVariables false
set_option linter.unusedSimpArgs false
open Go.RowKit

def strs (l : List ByteArray) : List Value := enc Value.string l
theorem strs_len (l : List ByteArray) : (strs l).length = l.length := by simp [strs, enc]
def eqS (a b : ByteArray) : Bool := a.toList == b.toList
theorem eqS_iff (a b : ByteArray) : eqS a b = true ↔ a = b := by
  unfold eqS
  rw [beq_iff_eq, ByteArray.toList_eq, ByteArray.toList_eq]
  constructor
  · intro h
    cases a; cases b
    simp only [ByteArray.mk.injEq]
    exact Array.toList_inj.1 h
  · rintro rfl; rfl
/-- is a name one of these -/
def inL (l : List ByteArray) (s : ByteArray) : Bool := l.any fun x => eqS x s
theorem inL_iff (l : List ByteArray) (s : ByteArray) : inL l s = true ↔ s ∈ l := by
  unfold inL
  rw [List.any_eq_true]
  constructor
  · rintro ⟨x, hx, h⟩
    rw [eqS_iff] at h
    subst h; exact hx
  · intro h
    exact ⟨s, h, (eqS_iff _ _).2 rfl⟩

set_option maxHeartbeats 1000000 in
theorem in_any (A : Option Addr) (c : Nat) (l : List ByteArray) (s : ByteArray) (w : World) (hr : Rd w A (strs l)) (hn : l.length ≤ c) (hc : c ≤ 9223372036854775807) :
    Calls Try.prog 52 #[.slice A l.length c, .string s] w fun e w' => e = .returned (.bool (inL l s)) ∧ w = w' := by
  have hr' := Lib.hid hr
  clear hr
  go_enter Try.func52, Try.ntmps52
  go_wp2_with fail
  go_loopw [5] (fun i wr => ∃ k : Nat, k ≤ l.length ∧ i = .int .i64 (k : Nat) ∧ Hid (inL (l.drop k) s = inL l s) ∧ wr = w) (fun i _ => l.length - (intOf i).toNat)
  case atStart => exact ⟨0, Nat.zero_le _, rfl, Lib.hid rfl, rfl⟩
  case round =>
    obtain ⟨k, hk, rfl, hq, rfl⟩ := hrel
    by_cases hlt : k < l.length
    · have hd : decide (k < l.length) = true := by simpa using hlt
      have hd2 : decide ((k : Int) < (l.length : Int)) = true := by simp; omega
      have k1 : (0 : Int) ≤ (k : Int) := by omega
      have k2 : (k : Int) < (l.length : Int) := by omega
      obtain ⟨ad, x, rfl, hx, hxe⟩ := hr'.out.at k hlt
      have hst : inL (l.drop k) s = (eqS x s || inL (l.drop (k + 1)) s) := by
        rw [List.drop_eq_getElem_cons hlt, ← hxe]; rfl
      cases he : eqS x s with
      | true =>
        have he' : (x.toList == s.toList) = true := he
        have hz : Hid (inL l s = true) := Lib.hid (by rw [← hq.out, hst, he]; rfl)
        clear hst hxe hq he
        go_wp2_with fail
        go_ret
        exact ⟨ret_bool hz.out.symm, rfl⟩
      | false =>
        have he' : (x.toList == s.toList) = false := he
        have hz : Hid (inL (l.drop (k + 1)) s = inL l s) := Lib.hid (by rw [← hq.out, hst, he]; rfl)
        clear hst hxe hq he
        go_wp2_with fail
        exact ⟨⟨k + 1, by omega, by go_num, hz, trivial⟩, by simp [intOf]; omega⟩
    · have hd : decide (k < l.length) = false := by simpa using hlt
      have hd2 : decide ((k : Int) < (l.length : Int)) = false := by simp; omega
      have hz : Hid (inL l s = false) := Lib.hid (by rw [← hq.out, List.drop_of_length_le (by omega)]; rfl)
      go_wp2_with fail
      go_ret
      exact ⟨ret_bool hz.out.symm, rfl⟩

section
variable {P : Program} {ops : Array Oper} {rest : List Oper} {o : Oper} {a : Act} {Q : Exit → Act → World → Prop}
/-- the same, as one step of a region that draws its order -/
theorem step_app {W : World} {K : Act → World → Prop} {E : Prop} (base : Nat) (hgd : o.guard = none) (s x : Operand) (t e : TypeId) (z : Value) (size bytes : Nat)
    (ho : o.op = .call { callee := .builtin .append, args := #[s, x], argTypes := #[t, t] })
    (ht : P.underlying t = some (.slice e)) (hinfo : (P.info? e).map (fun i => (i.zero, i.size, i.bytes)) = some (some z, size, bytes)) (hz : z.cells.size = size) (hsz : 0 < size) (hb0 : 0 < bytes)
    (v : Value) (n : Nat) (xs : List Value) (hs : a.eval s = v) (HO : W.ownsRow base e size v n xs) (hbase : base ≤ W.heap.size)
    (A : Option Addr) (m c : Nat) (news : List Value) (hx : a.eval x = .slice A m c) (hl : news.length = m * size) (hnews : Rd W A news) (hA : A = none → m = 0 ∧ c = 0) (h1 : ∀ u ∈ news, u.oneCell' = true)
    (hbytes : (n + m) * bytes ≤ 140737488355328)
    (h : ∀ v1 w1, w1.ownsRow base e size v1 (n + m) (xs ++ news) → Below base W w1 → W.grownBy w1 v.ownBlock → (v1.ownBlock = v.ownBlock ∨ ∃ b, v1.ownBlock = some b ∧ W.heap.size ≤ b) → K (a.put o.dst v1) w1) :
    if Region.wanted o (yielded ops a.tmps) = true then Oper.wp P o a W K Q else E := by
  have hw : Region.wanted o (yielded ops a.tmps) = true := by simp [Region.wanted, hgd]
  obtain ⟨i0, hi, hzz⟩ := Option.map_eq_some_iff.1 hinfo
  simp only [Prod.mk.injEq] at hzz
  obtain ⟨hz0, hz1, hz2⟩ := hzz
  have hlen : n + m ≤ 140737488355328 := Nat.le_trans (Nat.le_mul_of_pos_right _ hb0) hbytes
  rw [if_pos hw]
  cases A with
  | none =>
    obtain ⟨rfl, rfl⟩ := hA rfl
    have hn : news = [] := List.eq_nil_of_length_eq_zero (by simpa using hl)
    subst hn
    have hrun := run_append_owned_none (P := P) (w := W) base t o.type e i0 size ht hi v n xs HO
    unfold Oper.wp
    simp [execOp, ho, resolve, invoke, builtin, hs, hx, hrun, Result.andThen]
    exact h v W (by simpa using HO) (Below.refl _ _) ⟨rfl, rfl, rfl, Nat.le_refl _, fun _ _ _ => rfl⟩ (.inl rfl)
  | some ad =>
    have hn' : ∀ j u, news[j]? = some u → W.cell? (ad.add j) = some u := by
      intro j u hj
      obtain ⟨hj1, hj2⟩ := List.getElem?_eq_some_iff.1 hj
      rw [hnews.get j hj1, hj2]
    obtain ⟨v1, w1, hr, hown, hg, _, hat⟩ := run_append_own_at (P := P) W base t o.type e i0 z size bytes ht hi hz0 hz1 hz2 hz hsz v n xs HO ad m c news hl hn' h1 (by simp only [maxLen]; omega) hbytes hbase
    unfold Oper.wp execOp
    simp only [ho, resolve, invoke, builtin, Sem.run_bind, Sem.run_pure, Result.andThen_ok, List.map_toArray, List.map_cons, List.map_nil, hs, hx, hr]
    refine h v1 w1 hown ((Below.refl _ _).grown hg hbase (own_base HO)) hg ?_
    rcases hat with hat | hat
    · exact .inl hat
    · exact .inr ⟨_, hat, Nat.le_refl _⟩

end

/-- where a name belongs -/
def posF (s : ByteArray) : List ByteArray → Nat
  | [] => 0
  | x :: xs => if Op.bytesLess x.toList s.toList then posF s xs + 1 else 0
theorem posF_le (s : ByteArray) : ∀ l : List ByteArray, posF s l ≤ l.length
  | [] => Nat.le_refl _
  | x :: xs => by unfold posF; split <;> simp; exact posF_le s xs
/-- one name more -/
def withL (l : List ByteArray) (s : ByteArray) : List ByteArray := if inL l s then l else l.take (posF s l) ++ [s] ++ l.drop (posF s l)
theorem withL_mem (l : List ByteArray) (s x : ByteArray) : x ∈ withL l s ↔ x ∈ l ∨ x = s := by
  unfold withL
  split
  · rename_i h
    rw [inL_iff] at h
    constructor
    · exact .inl
    · rintro (h' | rfl)
      · exact h'
      · exact h
  · rw [List.mem_append, List.mem_append, List.mem_singleton]
    constructor
    · rintro ((h | h) | h)
      · exact .inl (List.mem_of_mem_take h)
      · exact .inr h
      · exact .inl (List.mem_of_mem_drop h)
    · rintro (h | h)
      · rw [← List.take_append_drop (posF s l) l, List.mem_append] at h
        rcases h with h | h
        · exact .inl (.inl h)
        · exact .inr h
      · exact .inl (.inr h)
theorem withL_len (l : List ByteArray) (s : ByteArray) : (withL l s).length ≤ l.length + 1 := by
  unfold withL
  split
  · omega
  · have := posF_le s l
    simp; omega
theorem rd_takeS {w : World} {A : Option Addr} {l : List ByteArray} (h : Rd w A (strs l)) (k : Nat) : Rd w A (strs (l.take k)) := by
  have := h.take k
  rwa [show (strs l).take k = strs (l.take k) by simp [strs, enc, List.map_take]] at this
theorem rd_dropS {w : World} {ad : Addr} {l : List ByteArray} (h : Rd w (some ad) (strs l)) (k : Nat) : Rd w (some (ad.add k)) (strs (l.drop k)) := by
  have := h.dropA k
  rwa [show (strs l).drop k = strs (l.drop k) by simp [strs, enc, List.map_drop]] at this
theorem strs_one (l : List ByteArray) : ∀ u ∈ strs l, u.oneCell' = true := by
  intro u hu
  simp only [strs, enc, List.mem_map] at hu
  obtain ⟨x, _, rfl⟩ := hu
  rfl
theorem rd_of_row {w : World} {g : Nat} {v : Value} {t : TypeId} (h : w.heap[g]? = some (.cells #[v] t (0, 0))) : Rd w (some ⟨g, 0, none⟩) [v] := rd_row (xs := [v]) h
theorem row_n0 (w : World) (o : Obj) : (w.alloc o).drew.heap[w.heap.size]? = some o := heap_alloc_new w o
theorem row_n1 (w : World) (o o' : Obj) : ((w.alloc o).alloc o').drew.heap[w.heap.size]? = some o := blk_alloc (heap_alloc_new w o) o'
theorem row_n2 (w : World) (o o' : Obj) : ((w.alloc o).alloc o').drew.heap[w.heap.size + 1]? = some o' := by
  have := heap_alloc_new (w.alloc o) o'
  rw [World.size_alloc] at this
  exact this
/-- a slice of names -/
def SlN (w : World) (v : Value) (l : List ByteArray) : Prop := ∃ A c, v = .slice A l.length c ∧ l.length ≤ c ∧ c ≤ 9223372036854775807 ∧ (A = none → l.length = 0 ∧ c = 0) ∧ Rd w A (strs l)
theorem SlN.below {w w' : World} {v : Value} {l : List ByteArray} (h : SlN w v l) (hb : Below w.heap.size w w') : SlN w' v l := by
  obtain ⟨A, c, h1, h2, h3, h4, h5⟩ := h
  exact ⟨A, c, h1, h2, h3, h4, h5.below hb⟩
theorem SlN.nil (w : World) : SlN w (.slice none 0 0) [] := ⟨none, 0, rfl, Nat.le_refl _, by omega, fun _ => ⟨rfl, rfl⟩, Rd.nil _ _⟩
theorem SlN.own {w : World} {base n : Nat} {v : Value} {xs : List Value} {l : List ByteArray} (h : w.ownsRow base 9 1 v n xs) (hx : xs = strs l) : SlN w v l := by
  obtain ⟨A, c, h1, h2, h3, h4, h5⟩ := Rd.own h
  have hn : n = l.length := by have := h.1; rw [hx, strs_len] at this; omega
  subst hn
  exact ⟨A, c, h1, h2, h3, h5, hx ▸ h4⟩
/-- the same slice, or one that is new -/
def Fr (n : Nat) (v0 v : Value) : Prop := v = v0 ∨ ∀ b, v.ownBlock = some b → n ≤ b
theorem Fr.refl (n : Nat) (v : Value) : Fr n v v := .inl rfl
theorem Fr.trans {n m : Nat} {v0 v1 v2 : Value} (h : Fr n v0 v1) (hn : n ≤ m) (k : Fr m v1 v2) : Fr n v0 v2 := by
  rcases k with rfl | k
  · exact h
  · exact .inr fun b hb => Nat.le_trans hn (k b hb)
theorem ret_slice {A : Option Addr} {c n m : Nat} (h : n = m) : Ending.returned (.slice A n c) = .returned (.slice A m c) := by rw [h]
theorem info9 : (Try.prog.info? 9).map (fun i => (i.zero, i.size, i.bytes)) = some (some (.string ⟨#[]⟩), 1, 16) := by kernel_rfl

set_option maxHeartbeats 4000000 in
set_option maxRecDepth 100000 in
theorem with_new_ (A : Option Addr) (c : Nat) (l : List ByteArray) (s : ByteArray) (w : World) (hr : Rd w A (strs l)) (hA : A = none → l.length = 0 ∧ c = 0) (hn : l.length ≤ c) (hc : c ≤ 9223372036854775807) (h1 : l.length ≤ 1000) (hno : inL l s = false) :
    Calls Try.prog 44 #[.slice A l.length c, .string s] w fun e w' => ∃ v, e = .returned v ∧ SlN w' v (withL l s) ∧ Fr w.heap.size (.slice A l.length c) v ∧ Below w.heap.size w w' := by
  have hr' := Lib.hid hr
  have hin := Lib.hid (in_any A c l s w hr hn hc)
  have hwl : Hid (withL l s = l.take (posF s l) ++ [s] ++ l.drop (posF s l)) := Lib.hid (by unfold withL; rw [hno]; rfl)
  rw [hno] at hin
  clear hr hno
  go_enter Try.func44, Try.ntmps44
  go_upto_block 0 with (go_at_call 52; refine hin.out.mono ?_; rintro e w' ⟨rfl, rfl⟩)
  go_cut [5] (fun i wx => i = .int .i64 (posF s l : Nat) ∧ w = wx)
  case first =>
    go_wp2_with fail
    go_loopw [5] (fun i wr => ∃ k : Nat, k ≤ l.length ∧ i = .int .i64 (k : Nat) ∧ Hid (k + posF s (l.drop k) = posF s l) ∧ wr = w) (fun i _ => l.length - (intOf i).toNat)
    case atStart => exact ⟨0, Nat.zero_le _, rfl, Lib.hid (by simp), rfl⟩
    case round =>
      obtain ⟨k, hk, rfl, hq, rfl⟩ := hrel
      by_cases hlt : k < l.length
      · have hd : decide (k < l.length) = true := by simpa using hlt
        have hd2 : decide ((k : Int) < (l.length : Int)) = true := by simp; omega
        have k1 : (0 : Int) ≤ (k : Int) := by omega
        have k2 : (k : Int) < (l.length : Int) := by omega
        obtain ⟨ad, x, rfl, hx, hxe⟩ := hr'.out.at k hlt
        have hst : posF s (l.drop k) = if Op.bytesLess x.toList s.toList then posF s (l.drop (k + 1)) + 1 else 0 := by
          rw [List.drop_eq_getElem_cons hlt, ← hxe]; rfl
        replace hxe := Lib.hid hxe
        cases he : Op.bytesLess x.toList s.toList with
        | true =>
          have hz : Hid (k + 1 + posF s (l.drop (k + 1)) = posF s l) := Lib.hid (by rw [← hq.out, hst, he]; simp; omega)
          clear hst hq
          go_wp2_with fail
          exact ⟨⟨k + 1, by omega, by go_num, hz, trivial⟩, by simp [intOf]; omega⟩
        | false =>
          have hz : Hid (k = posF s l) := Lib.hid (by rw [← hq.out, hst, he]; simp)
          clear hst hq
          go_wp2_with fail
          go_meet
          exact ⟨by rw [hz.out], rfl⟩
      · have hd : decide (k < l.length) = false := by simpa using hlt
        have hd2 : decide ((k : Int) < (l.length : Int)) = false := by simp; omega
        have hz : Hid (k = posF s l) := Lib.hid (by rw [← hq.out, List.drop_of_length_le (by omega)]; rfl)
        go_wp2_with fail
        go_meet
        exact ⟨by rw [hz.out], rfl⟩
  case rest =>
    obtain ⟨rfl, rfl⟩ := hcut
    have hkl := posF_le s l
    generalize posF s l = k at hkl hwl ⊢
    cases A with
    | none =>
      obtain ⟨hl0, rfl⟩ := hA rfl
      have hk0 : k = 0 := by omega
      subst hk0
      have hln : l = [] := List.eq_nil_of_length_eq_zero hl0
      subst hln
      have e0 : ([] : List ByteArray).length = 0 := rfl
      rw [e0]
      clear hl0 hA e0
      have oa : ((w.alloc (.cells #[] 9)).alloc (.cells #[.string s] 9)).ownsRow w.heap.size 9 1 (.slice (some ⟨w.heap.size, 0, none⟩) 0 0) 0 [] := (own_lit w w.heap.size 9 1 0 [] (Nat.le_refl _) rfl (by omega)).alloc _
      have ob : ((w.alloc (.cells #[.string s] 9)).alloc (.cells #[] 9)).ownsRow w.heap.size 9 1 (.slice (some ⟨w.heap.size + 1, 0, none⟩) 0 0) 0 [] := by
        have := own_lit (w.alloc (.cells #[.string s] 9)) w.heap.size 9 1 0 [] (by simp) rfl (by omega)
        rw [World.size_alloc] at this
        exact this
      have oc : (w.alloc (.cells #[] 9)).ownsRow w.heap.size 9 1 (.slice (some ⟨w.heap.size, 0, none⟩) 0 0) 0 [] := own_lit w w.heap.size 9 1 0 [] (Nat.le_refl _) rfl (by omega)
      replace oa := Lib.hid oa
      replace ob := Lib.hid ob
      replace oc := Lib.hid oc
      have hsz0 : Hid (w.heap.size = w.heap.size) := Lib.hid rfl
      go_upto_region 6 with fail
      go_region_law (first
        | (refine step_app w.heap.size rfl _ _ 52 9 (.string ⟨#[]⟩) 1 16 rfl Try.underlying52 info9 rfl (by decide) (by decide) (.slice (some ⟨w.heap.size, 0, none⟩) 0 0) 0 [] rfl oa.out (by first | (simp; done) | (simp; omega)) none 0 0 [] rfl rfl (Rd.nil _ _) (fun _ => ⟨rfl, rfl⟩) (fun u hu => by cases hu) (by omega) ?_; intro v1 w1 ho1 hb1 hg1 hat1; have hBw := Lib.hid (show Below w.heap.size w w1 from Below.trans (by repeat (with_reducible (first | exact Below.refl _ _ | apply bl_alloc | apply Below.drew))) hb1); have hS1 := Lib.hid (rd_of_row (v := .string s) (t := 9) ((hg1.block (w.heap.size + 1) (by show w.heap.size + 1 < ((w.alloc _).alloc _).heap.size; rw [World.size_alloc, World.size_alloc]; omega) (by intro e; simp only [Value.ownBlock, Option.some.injEq] at e; omega)).trans (row_n2 w _ _))); replace ho1 := Lib.hid ho1; replace hb1 := Lib.hid hb1; replace hg1 := Lib.hid hg1; replace hat1 := Lib.hid hat1)
        | (refine step_app w.heap.size rfl _ _ 52 9 (.string ⟨#[]⟩) 1 16 rfl Try.underlying52 info9 rfl (by decide) (by decide) (.slice (some ⟨w.heap.size + 1, 0, none⟩) 0 0) 0 [] rfl ob.out (by first | (simp; done) | (simp; omega)) none 0 0 [] rfl rfl (Rd.nil _ _) (fun _ => ⟨rfl, rfl⟩) (fun u hu => by cases hu) (by omega) ?_; intro v1 w1 ho1 hb1 hg1 hat1; have hBw := Lib.hid (show Below w.heap.size w w1 from Below.trans (by repeat (with_reducible (first | exact Below.refl _ _ | apply bl_alloc | apply Below.drew))) hb1); have hS2 := Lib.hid (rd_of_row (v := .string s) (t := 9) ((hg1.block w.heap.size (by show w.heap.size < ((w.alloc _).alloc _).heap.size; rw [World.size_alloc, World.size_alloc]; omega) (by intro e; simp only [Value.ownBlock, Option.some.injEq] at e; omega)).trans (row_n1 w _ _))); replace ho1 := Lib.hid ho1; replace hb1 := Lib.hid hb1; replace hg1 := Lib.hid hg1; replace hat1 := Lib.hid hat1)
        | (refine step_app w.heap.size rfl _ _ 52 9 (.string ⟨#[]⟩) 1 16 rfl Try.underlying52 info9 rfl (by decide) (by decide) (.slice (some ⟨w.heap.size, 0, none⟩) 0 0) 0 [] rfl oc.out (by first | (simp; done) | (simp; omega)) none 0 0 [] rfl rfl (Rd.nil _ _) (fun _ => ⟨rfl, rfl⟩) (fun u hu => by cases hu) (by omega) ?_; intro v1 w1 ho1 hb1 hg1 hat1; have hBw := Lib.hid (show Below w.heap.size w w1 from Below.trans (by repeat (with_reducible (first | exact Below.refl _ _ | apply bl_alloc | apply Below.drew))) hb1); have hS3 := Lib.hid hg1; replace ho1 := Lib.hid ho1; replace hb1 := Lib.hid hb1; replace hg1 := Lib.hid hg1; replace hat1 := Lib.hid hat1)
        | (refine step_app w.heap.size rfl _ _ 52 9 (.string ⟨#[]⟩) 1 16 rfl Try.underlying52 info9 rfl (by decide) (by decide) v1 (0 + 0) ([] ++ []) rfl ho1.out (by have := hBw.out.size; omega) (some ⟨w.heap.size + 1, 0, none⟩) 1 1 [.string s] rfl rfl hS1.out (fun e => by cases e) (by simp [Value.oneCell']) (by omega) ?_; intro v2 w2 ho2 hb2 hg2 hat2; replace ho2 := Lib.hid ho2; have hB2 := Lib.hid (show Below w.heap.size w w2 from Below.trans (by first | exact hBw.out | exact bl_alloc hBw.out _ | exact (bl_alloc hBw.out _).drew) hb2); have hz2 := hB2.out.size)
        | (refine step_app w.heap.size rfl _ _ 52 9 (.string ⟨#[]⟩) 1 16 rfl Try.underlying52 info9 rfl (by decide) (by decide) v1 (0 + 0) ([] ++ []) rfl ho1.out (by have := hBw.out.size; omega) (some ⟨w.heap.size, 0, none⟩) 1 1 [.string s] rfl rfl hS2.out (fun e => by cases e) (by simp [Value.oneCell']) (by omega) ?_; intro v2 w2 ho2 hb2 hg2 hat2; replace ho2 := Lib.hid ho2; have hB2 := Lib.hid (show Below w.heap.size w w2 from Below.trans (by first | exact hBw.out | exact bl_alloc hBw.out _ | exact (bl_alloc hBw.out _).drew) hb2); have hz2 := hB2.out.size)
        | (refine step_app w.heap.size rfl _ _ 52 9 (.string ⟨#[]⟩) 1 16 rfl Try.underlying52 info9 rfl (by decide) (by decide) v1 (0 + 0) ([] ++ []) rfl (own_below ho1.out (by repeat (with_reducible (first | exact Below.refl _ _ | apply bl_alloc | apply Below.drew)))) (by have := hBw.out.size; simp; omega) (some ⟨w1.heap.size, 0, none⟩) 1 1 [.string s] rfl rfl (rd_new w1 [.string s] 9) (fun e => by cases e) (by simp [Value.oneCell']) (by omega) ?_; intro v2 w2 ho2 hb2 hg2 hat2; replace ho2 := Lib.hid ho2; have hB2 := Lib.hid (show Below w.heap.size w w2 from Below.trans (by first | exact hBw.out | exact bl_alloc hBw.out _ | exact (bl_alloc hBw.out _).drew) hb2); have hz2 := hB2.out.size)
        | (refine step_app w.heap.size rfl _ _ 52 9 (.string ⟨#[]⟩) 1 16 rfl Try.underlying52 info9 rfl (by decide) (by decide) v2 (0 + 0 + 1) ([] ++ [] ++ [.string s]) rfl ho2.out hz2 none 0 0 [] rfl rfl (Rd.nil _ _) (fun _ => ⟨rfl, rfl⟩) (fun u hu => by cases hu) (by omega) ?_; intro v3 w3 ho3 hb3 hg3 hat3; replace ho3 := Lib.hid ho3; replace hb3 := Lib.hid (hB2.out.trans hb3)))
      all_goals
        (have hsl := Lib.hid (SlN.own (l := withL [] s) ho3.out (by rw [hwl.out]; rfl))
         go_wp2_with fail
         all_goals (first | go_ret | go_end0)
         all_goals exact ⟨_, rfl, hsl.out, .inr (fun b h => (ho3.out.lt b h).1), hb3.out⟩)
    | some ad =>
      have oa : ((w.alloc (.cells #[] 9)).alloc (.cells #[.string s] 9)).ownsRow w.heap.size 9 1 (.slice (some ⟨w.heap.size, 0, none⟩) 0 0) 0 [] := (own_lit w w.heap.size 9 1 0 [] (Nat.le_refl _) rfl (by omega)).alloc _
      have ob : ((w.alloc (.cells #[.string s] 9)).alloc (.cells #[] 9)).ownsRow w.heap.size 9 1 (.slice (some ⟨w.heap.size + 1, 0, none⟩) 0 0) 0 [] := by
        have := own_lit (w.alloc (.cells #[.string s] 9)) w.heap.size 9 1 0 [] (by simp) rfl (by omega)
        rw [World.size_alloc] at this
        exact this
      have oc : (w.alloc (.cells #[] 9)).ownsRow w.heap.size 9 1 (.slice (some ⟨w.heap.size, 0, none⟩) 0 0) 0 [] := own_lit w w.heap.size 9 1 0 [] (Nat.le_refl _) rfl (by omega)
      replace oa := Lib.hid oa
      replace ob := Lib.hid ob
      replace oc := Lib.hid oc
      have k1 : (0 : Int) ≤ (k : Int) := by omega
      have k2 : (k : Int) ≤ (l.length : Int) := by omega
      have k3 : (k : Int) ≤ (c : Int) := by omega
      have hsz0 : Hid (w.heap.size = w.heap.size) := Lib.hid rfl
      have hdr : Hid (Rd w (if c = k then some ad else some (ad.add k)) (strs (l.drop k))) := Lib.hid (by
        split
        · rw [List.drop_of_length_le (by omega)]; exact Rd.nil _ _
        · exact rd_dropS hr'.out k)
      go_upto_region 6 with fail
      go_region_law (first
        | (refine step_app w.heap.size rfl _ _ 52 9 (.string ⟨#[]⟩) 1 16 rfl Try.underlying52 info9 rfl (by decide) (by decide) (.slice (some ⟨w.heap.size, 0, none⟩) 0 0) 0 [] rfl oa.out (by first | (simp; done) | (simp; omega)) (some ad) k c (strs (l.take k)) rfl (by rw [strs_len, List.length_take]; omega) ((rd_takeS hr'.out k).below (by repeat (with_reducible (first | exact Below.refl _ _ | apply bl_alloc | apply Below.drew)))) (fun e => by cases e) (strs_one _) (by omega) ?_; intro v1 w1 ho1 hb1 hg1 hat1; have hBw := Lib.hid (show Below w.heap.size w w1 from Below.trans (by repeat (with_reducible (first | exact Below.refl _ _ | apply bl_alloc | apply Below.drew))) hb1); have hS1 := Lib.hid (rd_of_row (v := .string s) (t := 9) ((hg1.block (w.heap.size + 1) (by show w.heap.size + 1 < ((w.alloc _).alloc _).heap.size; rw [World.size_alloc, World.size_alloc]; omega) (by intro e; simp only [Value.ownBlock, Option.some.injEq] at e; omega)).trans (row_n2 w _ _))); replace ho1 := Lib.hid ho1; replace hb1 := Lib.hid hb1; replace hg1 := Lib.hid hg1; replace hat1 := Lib.hid hat1)
        | (refine step_app w.heap.size rfl _ _ 52 9 (.string ⟨#[]⟩) 1 16 rfl Try.underlying52 info9 rfl (by decide) (by decide) (.slice (some ⟨w.heap.size + 1, 0, none⟩) 0 0) 0 [] rfl ob.out (by first | (simp; done) | (simp; omega)) (some ad) k c (strs (l.take k)) rfl (by rw [strs_len, List.length_take]; omega) ((rd_takeS hr'.out k).below (by repeat (with_reducible (first | exact Below.refl _ _ | apply bl_alloc | apply Below.drew)))) (fun e => by cases e) (strs_one _) (by omega) ?_; intro v1 w1 ho1 hb1 hg1 hat1; have hBw := Lib.hid (show Below w.heap.size w w1 from Below.trans (by repeat (with_reducible (first | exact Below.refl _ _ | apply bl_alloc | apply Below.drew))) hb1); have hS2 := Lib.hid (rd_of_row (v := .string s) (t := 9) ((hg1.block w.heap.size (by show w.heap.size < ((w.alloc _).alloc _).heap.size; rw [World.size_alloc, World.size_alloc]; omega) (by intro e; simp only [Value.ownBlock, Option.some.injEq] at e; omega)).trans (row_n1 w _ _))); replace ho1 := Lib.hid ho1; replace hb1 := Lib.hid hb1; replace hg1 := Lib.hid hg1; replace hat1 := Lib.hid hat1)
        | (refine step_app w.heap.size rfl _ _ 52 9 (.string ⟨#[]⟩) 1 16 rfl Try.underlying52 info9 rfl (by decide) (by decide) (.slice (some ⟨w.heap.size, 0, none⟩) 0 0) 0 [] rfl oc.out (by first | (simp; done) | (simp; omega)) (some ad) k c (strs (l.take k)) rfl (by rw [strs_len, List.length_take]; omega) ((rd_takeS hr'.out k).below (by repeat (with_reducible (first | exact Below.refl _ _ | apply bl_alloc | apply Below.drew)))) (fun e => by cases e) (strs_one _) (by omega) ?_; intro v1 w1 ho1 hb1 hg1 hat1; have hBw := Lib.hid (show Below w.heap.size w w1 from Below.trans (by repeat (with_reducible (first | exact Below.refl _ _ | apply bl_alloc | apply Below.drew))) hb1); have hS3 := Lib.hid hg1; replace ho1 := Lib.hid ho1; replace hb1 := Lib.hid hb1; replace hg1 := Lib.hid hg1; replace hat1 := Lib.hid hat1)
        | (refine step_app w.heap.size rfl _ _ 52 9 (.string ⟨#[]⟩) 1 16 rfl Try.underlying52 info9 rfl (by decide) (by decide) v1 (0 + k) ([] ++ strs (l.take k)) rfl ho1.out (by have := hBw.out.size; omega) (some ⟨w.heap.size + 1, 0, none⟩) 1 1 [.string s] rfl rfl hS1.out (fun e => by cases e) (by simp [Value.oneCell']) (by omega) ?_; intro v2 w2 ho2 hb2 hg2 hat2; replace ho2 := Lib.hid ho2; have hB2 := Lib.hid (show Below w.heap.size w w2 from Below.trans (by first | exact hBw.out | exact bl_alloc hBw.out _ | exact (bl_alloc hBw.out _).drew) hb2); have hz2 := hB2.out.size)
        | (refine step_app w.heap.size rfl _ _ 52 9 (.string ⟨#[]⟩) 1 16 rfl Try.underlying52 info9 rfl (by decide) (by decide) v1 (0 + k) ([] ++ strs (l.take k)) rfl ho1.out (by have := hBw.out.size; omega) (some ⟨w.heap.size, 0, none⟩) 1 1 [.string s] rfl rfl hS2.out (fun e => by cases e) (by simp [Value.oneCell']) (by omega) ?_; intro v2 w2 ho2 hb2 hg2 hat2; replace ho2 := Lib.hid ho2; have hB2 := Lib.hid (show Below w.heap.size w w2 from Below.trans (by first | exact hBw.out | exact bl_alloc hBw.out _ | exact (bl_alloc hBw.out _).drew) hb2); have hz2 := hB2.out.size)
        | (refine step_app w.heap.size rfl _ _ 52 9 (.string ⟨#[]⟩) 1 16 rfl Try.underlying52 info9 rfl (by decide) (by decide) v1 (0 + k) ([] ++ strs (l.take k)) rfl (own_below ho1.out (by repeat (with_reducible (first | exact Below.refl _ _ | apply bl_alloc | apply Below.drew)))) (by have := hBw.out.size; simp; omega) (some ⟨w1.heap.size, 0, none⟩) 1 1 [.string s] rfl rfl (rd_new w1 [.string s] 9) (fun e => by cases e) (by simp [Value.oneCell']) (by omega) ?_; intro v2 w2 ho2 hb2 hg2 hat2; replace ho2 := Lib.hid ho2; have hB2 := Lib.hid (show Below w.heap.size w w2 from Below.trans (by first | exact hBw.out | exact bl_alloc hBw.out _ | exact (bl_alloc hBw.out _).drew) hb2); have hz2 := hB2.out.size)
        | (refine step_app w.heap.size rfl _ _ 52 9 (.string ⟨#[]⟩) 1 16 rfl Try.underlying52 info9 rfl (by decide) (by decide) v2 (0 + k + 1) ([] ++ strs (l.take k) ++ [.string s]) rfl ho2.out hz2 (if c = k then some ad else some (ad.add k)) (l.length - k) (c - k) (strs (l.drop k)) rfl (by rw [strs_len, List.length_drop]; omega) (hdr.out.below hB2.out) (fun e => by split at e <;> cases e) (strs_one _) (by omega) ?_; intro v3 w3 ho3 hb3 hg3 hat3; replace ho3 := Lib.hid ho3; replace hb3 := Lib.hid (hB2.out.trans hb3)))
      all_goals
        (have hsl := Lib.hid (SlN.own (l := withL l s) ho3.out (by rw [hwl.out]; simp [strs, enc]))
         go_wp2_with fail
         all_goals (first | go_ret | go_end0)
         all_goals exact ⟨_, rfl, hsl.out, .inr (fun b h => (ho3.out.lt b h).1), hb3.out⟩)

theorem with_any (A : Option Addr) (c : Nat) (l : List ByteArray) (s : ByteArray) (w : World) (hr : Rd w A (strs l)) (hA : A = none → l.length = 0 ∧ c = 0) (hn : l.length ≤ c) (hc : c ≤ 9223372036854775807) (h1 : l.length ≤ 1000) :
    Calls Try.prog 44 #[.slice A l.length c, .string s] w fun e w' => ∃ v, e = .returned v ∧ SlN w' v (withL l s) ∧ Fr w.heap.size (.slice A l.length c) v ∧ Below w.heap.size w w' := by
  cases hno : inL l s with
  | false => exact with_new_ A c l s w hr hA hn hc h1 hno
  | true =>
    have hin := Lib.hid (in_any A c l s w hr hn hc)
    have hsl : Hid (SlN w (.slice A l.length c) (withL l s)) := Lib.hid (by unfold withL; rw [hno]; exact ⟨A, c, rfl, hn, hc, hA, hr⟩)
    rw [hno] at hin
    clear hr hno hA
    go_enter Try.func44, Try.ntmps44
    go_wp2_with (go_at_call 52; refine hin.out.mono ?_; rintro e w' ⟨rfl, rfl⟩)
    first | go_ret | go_end0
    exact ⟨_, rfl, hsl.out, Fr.refl _ _, Below.refl _ _⟩
end Go.Proofs.Ytdhklfbelplbcaa
