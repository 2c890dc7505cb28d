/- A drawn region by the name of its place in a function: its orders' facts are reckoned once, apart from the walk. -/
import Derived.Test.YtjlhajnficneoaaProg
import Derived.Deep.RegionHeld3
namespace Go
set_option linter.unusedVariables false
/-- the operations of region id -/
def regOf (id : Nat) : Code → Option (Array Oper)
  | .region i ops _ => if Nat.beq i id then some ops else none
  | .seq a b => match regOf id a with
    | some o => some o
    | none => regOf id b
  | .cond _ t e => match regOf id t with
    | some o => some o
    | none => regOf id e
  | .block _ b => regOf id b
  | .loop b => regOf id b
  | .rangeFunc _ _ a b => match regOf id a with
    | some o => some o
    | none => regOf id b
  | .scope b => regOf id b
  | _ => none
/-- which operations have come up: the bits of a number -/
def bitsB (n m : Nat) : Array Bool := ((List.range n).map fun i => m.testBit i).toArray
def regIn (id : Nat) (f : Func) : Array Oper := ((f.body).bind (regOf id)).getD #[]
section
variable {P : Program} {ops opsR : Array Oper} {Q : Exit → Act → World → Prop} {md : Region.Mode} {S : World → Prop}
theorem wp_region_heldR (opsR : Array Oper) (listed : Array Bool) {id : Nat} {a : Act} {w : World} (ho : opsR = ops) (hl : Array.replicate opsR.size false = listed) (hm : P.follows .mixedOrders = true) (hn : Region.noSelect opsR = true) (hS : S w.drew)
    (h : opsR = ops → Region.noSelect opsR = true → S w.drew → wpAnyH P .any ops Q S opsR.size listed a w.drew) : (Code.region id ops true).wp P Q a w := by
  subst ho
  refine wp_region_held_drew hm hS (fun h1 => ?_)
  rw [hl]
  exact h rfl hn h1
theorem wpAnyH_takeR {i : Nat} {oi : Oper} {v : Value} {rs : List Nat} {fuel : Nat} {listed listed' : Array Bool} {a : Act} {w : World} (ho : opsR = ops) (hs : Region.noSelect opsR = true) (hr : Region.ready md opsR listed = rs) (hin : rs.contains i = true) (hf : Region.free md opsR listed i = true)
    (hi : ops.toList[i]? = some oi) (hQ : ∀ c a w, Q (.panic c) (a.put oi.dst v) w → Q (.panic c) a w) (hst : listed.setIfInBounds i true = listed') (hy : YieldsIf P ops S oi v a) (hS : S w)
    (h : wpAnyH P md ops Q S fuel listed' (a.put oi.dst v) w) : wpAnyH P md ops Q S (fuel + 1) listed a w := by
  subst ho hst
  exact wpAnyH_take (by simpa using hi) hs hf (by rw [hr]; exact hin) hQ hy hS h
theorem wpAnyH_oneR {i : Nat} {oi : Oper} {v : Value} {fuel : Nat} {listed listed' : Array Bool} {a : Act} {w : World} (ho : opsR = ops) (hr : Region.ready md opsR listed = [i])
    (hi : ops.toList[i]? = some oi) (hst : listed.setIfInBounds i true = listed') (hy : YieldsIf P ops S oi v a) (hS : S w) (h : wpAnyH P md ops Q S fuel listed' (a.put oi.dst v) w) : wpAnyH P md ops Q S (fuel + 1) listed a w := by
  subst ho hst
  refine ⟨fun h0 => ?_, fun j hj => ?_⟩
  · rw [hr] at h0; cases h0
  · rw [hr] at hj
    obtain rfl := List.mem_singleton.1 hj
    exact hy.wpOp (by simpa using hi) hS ⟨hS, h⟩
theorem wpAnyH_readyR {rs : List Nat} {fuel : Nat} {listed : Array Bool} {a : Act} {w : World} (ho : opsR = ops) (hr : Region.ready md opsR listed = rs) (hne : rs ≠ [])
    (h : AllReadyH P md ops Q S fuel listed a w rs) : wpAnyH P md ops Q S (fuel + 1) listed a w := by
  subst ho
  exact wpAnyH_ready hr hne h
theorem AllReadyH.consR {fuel : Nat} {listed listed' : Array Bool} {a : Act} {w : World} {i : Nat} {o : Oper} {rs : List Nat} (ho : ops.toList[i]? = some o) (hst : listed.setIfInBounds i true = listed')
    (h : ∀ K' : Act → World → Prop, Shut (∀ a w, S w → (S w → wpAnyH P md ops Q S fuel listed' a w) → K' a w) → if Region.wanted o (yielded ops a.tmps) = true then Oper.wp P o a w K' Q else K' (a.put o.dst undef) w)
    (hs : AllReadyH P md ops Q S fuel listed a w rs) : AllReadyH P md ops Q S fuel listed a w (i :: rs) := by
  subst hst
  exact AllReadyH.cons (by simpa using ho) h hs
theorem wpAnyH_doneR {fuel : Nat} {listed : Array Bool} {a : Act} {w : World} (ho : opsR = ops) (hr : Region.ready md opsR listed = []) (h : Q .normal a w) : wpAnyH P md ops Q S fuel listed a w := by
  subst ho
  exact wpAnyH_done hr h fuel
end
end Go
