/- The walk of EffTwice. -/
import Derived.Test.YtdabpeoaleopmaaEg
namespace Go.Proofs.Ytdabpeoaleopmaa
set_option linter.unusedVariables false
set_option linter.unusedSimpArgs false
open Go.RowKit

theorem all_get (m : Nat) (i : Nat) (h : i < (allL m 49).length) : (allL m 49)[i] = 49 := by simp [allL]
theorem then_self {m : Nat} {a : List Int} (ha : Ef m a) : thenL a a = a :=
  pw (ha.tn ha).2 ha.2 (fun i h1 h2 => by simp only [thenL, List.getElem_zipWith, th]; split <;> rfl)
theorem least_idem {m : Nat} {a b : List Int} (ha : Ef m a) (hb : Ef m b) : leastL (leastL a b) b = leastL a b :=
  pw ((ha.le hb).le hb).2 (ha.le hb).2 (fun i h1 h2 => by simp only [leastL, List.getElem_zipWith]; omega)
theorem least_idem' {m : Nat} {a b : List Int} (ha : Ef m a) (hb : Ef m b) : leastL (leastL a b) a = leastL a b :=
  pw ((ha.le hb).le ha).2 (ha.le hb).2 (fun i h1 h2 => by simp only [leastL, List.getElem_zipWith]; omega)
theorem most_idem {m : Nat} {a b : List Int} (ha : Ef m a) (hb : Ef m b) : mostL (mostL a b) b = mostL a b :=
  pw ((ha.mo hb).mo hb).2 (ha.mo hb).2 (fun i h1 h2 => by simp only [mostL, List.getElem_zipWith]; omega)

set_option maxHeartbeats 4000000 in
set_option maxRecDepth 100000 in
theorem twice_walk (w : World) (n : Int) (A : Option Addr) (c : Nat) (ns : List Int) (hr : Rd w A (enc (Value.int .i64) ns)) (hn : ns.length ≤ c) (hc : c ≤ 9223372036854775807) :
    Calls Try.prog 4 #[.int .i64 n, .slice A ns.length c] w fun e w' => e = .returned (.bool true) ∧ Below w.heap.size w w' := by
  have hr' := Lib.hid hr
  clear hr
  obtain ⟨m, hm0, hqe⟩ : ∃ m : Nat, m ≤ 1000 ∧ n % 20 = (m : Int) := ⟨(n % 20).toNat, by omega, by omega⟩
  have hm := Lib.hid hm0
  replace hqe := Lib.hid hqe
  clear hm0
  obtain ⟨x, hx⟩ : ∃ l, makeL m ns = l := ⟨_, rfl⟩
  have ex : Hid (Ef m x) := Lib.hid (hx ▸ Ef.mk m ns)
  replace hx := Lib.hid hx
  obtain ⟨one, h1⟩ : ∃ l, allL m 49 = l := ⟨_, rfl⟩
  have e1 : Hid (Ef m one) := Lib.hid (h1 ▸ Ef.all m)
  replace h1 := Lib.hid h1
  obtain ⟨l, hl⟩ : ∃ l, leastL one x = l := ⟨_, rfl⟩
  have el : Hid (Ef m l) := Lib.hid (hl ▸ e1.out.le ex.out)
  obtain ⟨s, hs⟩ : ∃ l, mostL one x = l := ⟨_, rfl⟩
  have es : Hid (Ef m s) := Lib.hid (hs ▸ e1.out.mo ex.out)
  have q1 := Lib.hid (then_self ex.out)
  have q2 := Lib.hid (then_self el.out)
  have q3 := Lib.hid (then_self es.out)
  have q4 : Hid (leastL l x = l) := Lib.hid (hl ▸ least_idem e1.out ex.out)
  have q5 : Hid (leastL l one = l) := Lib.hid (hl ▸ least_idem' e1.out ex.out)
  have q6 : Hid (mostL s x = s) := Lib.hid (hs ▸ most_idem e1.out ex.out)
  replace hl := Lib.hid hl
  replace hs := Lib.hid hs
  have hB := Lib.hid (Below.refl w.heap.size w)
  go_enter Try.func4, Try.ntmps4
  go_wp2_with (first
    | (go_at_call 10; refine (known_any _).mono ?_; rintro e w1 ⟨rfl, hb1⟩; replace hB := Lib.hid (bl_then hB.out hB.out.size hb1); clear hb1; have hR := Lib.hid (hr'.out.below hB.out))
    | (go_at_call 11; refine (within_any n 20 _ (by decide) (by decide)).mono ?_; rintro e w' ⟨rfl, rfl⟩; rw [hqe.out])
    | (go_at_call 12; refine (make_e hx hm A c _ hR.out hn hc).mono ?_; rintro e w1 ⟨rfl, hb1⟩; replace hB := Lib.hid (bl_then hB.out hB.out.size hb1); clear hb1)
    | (go_at_call 13; refine (refall_e h1 hm _).mono ?_; rintro e w1 ⟨rfl, hb1⟩; replace hB := Lib.hid (bl_then hB.out hB.out.size hb1); clear hb1)
    | (go_at_call 14; (first | (with_reducible refine (then_e q1 ex ex hm _).mono ?_) | (with_reducible refine (then_e q2 el el hm _).mono ?_) | (with_reducible refine (then_e q3 es es hm _).mono ?_)); rintro e w1 ⟨rfl, hb1⟩; replace hB := Lib.hid (bl_then hB.out hB.out.size hb1); clear hb1)
    | (go_at_call 15; (first | (with_reducible refine (least_e hl e1 ex hm _).mono ?_) | (with_reducible refine (least_e q4 el ex hm _).mono ?_) | (with_reducible refine (least_e q5 el e1 hm _).mono ?_)); rintro e w1 ⟨rfl, hb1⟩; replace hB := Lib.hid (bl_then hB.out hB.out.size hb1); clear hb1)
    | (go_at_call 16; (first | (with_reducible refine (most_e hs e1 ex hm _).mono ?_) | (with_reducible refine (most_e q6 es ex hm _).mono ?_)); rintro e w1 ⟨rfl, hb1⟩; replace hB := Lib.hid (bl_then hB.out hB.out.size hb1); clear hb1))
  go_ret
  exact ⟨rfl, hB.out⟩

theorem twice_any (w : World) (n : Int) (h0 : (Lit.int .i64 n).wf = true) (A : Option Addr) (c : Nat) (ns : List Int) (hr : Rd w A (enc (Value.int .i64) ns)) (hn : ns.length ≤ c) (hc : c ≤ 9223372036854775807) (hw : ∀ x ∈ ns, (Lit.int .i64 x).wf = true) :
    Calls Try.prog 4 #[.int .i64 n, .slice A ns.length c] w fun e w' => e = .returned (.bool true) ∧ Below w.heap.size w w' := twice_walk w n A c ns hr hn hc
end Go.Proofs.Ytdabpeoaleopmaa
