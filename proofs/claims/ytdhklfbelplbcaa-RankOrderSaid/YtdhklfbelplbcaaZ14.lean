/-
  What Report lays.
  A region's orders: a condition that is held while something is still to come.
  A drawn region by its place, S not asked behind its last operation.
  The orders of the drawn region 18 of Report.
-/
import Derived.Test.YtdhklfbelplbcaaZ10
import Derived.Test.YtdhklfbelplbcaaZ13
import Derived.Test.YtdhklfbelplbcaaZ00
import Derived.Deep.RegionHeld3
namespace Go.Proofs.Ytdhklfbelplbcaa
set_option linter.unusedVariables false
open Go.RowKit

theorem Rd.grown {W W' : World} {A : Option Addr} {xs : List Value} {row : Option Nat} (h : Rd W A xs) (hg : W.grownBy W' row) (hne : ∀ a : Addr, A = some a → row ≠ some a.block) : Rd W' A xs := by
  intro i hi
  obtain ⟨ad, h6, h7⟩ := h i hi
  refine ⟨ad, h6, ?_⟩
  have hb := World.block_lt_of_cell? W _ h7
  have hbl : (ad.add i).block = ad.block := by unfold Addr.add; split <;> rfl
  rw [cell_block (hg.block _ hb (fun e => hne ad h6 (by rw [← e, hbl])))]
  exact h7
theorem own_of {A : Option Addr} {n c : Nat} {row : Option Nat} (h : ∀ b, (Value.slice A n c).ownBlock = some b → row ≠ some b) : ∀ a : Addr, A = some a → row ≠ some a.block := fun a ha => h _ (by rw [ha]; rfl)
theorem SlRc.grown {W W' : World} {v : Value} {n : Nat} {row : Option Nat} (h : SlRc W v n) (hg : W.grownBy W' row) (hne : ∀ b, v.ownBlock = some b → row ≠ some b) : SlRc W' v n := by
  obtain ⟨A, c, xs, rfl, h2, h3, h4, h5, h6⟩ := h
  exact ⟨A, c, xs, rfl, h2, h3, h4, h5.grown hg (own_of hne), h6⟩
theorem SlEd.grown {W W' : World} {v : Value} {es : List (ByteArray × ByteArray)} {row : Option Nat} (h : SlEd W v es) (hg : W.grownBy W' row) (hne : ∀ b, v.ownBlock = some b → row ≠ some b) : SlEd W' v es := by
  obtain ⟨A, c, rfl, h2, h3, h4, h5, h6⟩ := h
  exact ⟨A, c, rfl, h2, h3, h4, h5.grown hg (own_of hne), h6⟩
theorem grown_of_below {W W' : World} (h : Below W.heap.size W W') (row : Option Nat) : W.grownBy W' row := ⟨h.os, h.tape, h.output, h.size, fun k hk _ => h.block k hk⟩
/-- a struct of five cells is stored over -/
theorem set5 (W : World) (g : Nat) (c0 c1 c2 c3 c4 v0 v1 v2 v3 v4 : Value) (t : TypeId) (h : W.heap[g]? = some (.cells ([c0, c1, c2, c3, c4] : List Value).toArray t (0, 0))) :
    (((((W.setCell ⟨g, 0, none⟩ v0).setCell ⟨g, 1, none⟩ v1).setCell ⟨g, 2, none⟩ v2).setCell ⟨g, 3, none⟩ v3).setCell ⟨g, 4, none⟩ v4).heap[g]? = some (.cells ([v0, v1, v2, v3, v4] : List Value).toArray t (0, 0)) := by
  have s0 := set_field W g 0 _ v0 t h
  have s1 := set_field _ g 1 _ v1 t s0.1
  have s2 := set_field _ g 2 _ v2 t s1.1
  have s3 := set_field _ g 3 _ v3 t s2.1
  have s4 := set_field _ g 4 _ v4 t s3.1
  exact s4.1
theorem bl_set5 {B : Nat} {w W : World} (h : Below B w W) (g : Nat) (hg : B ≤ g) (v0 v1 v2 v3 v4 : Value) :
    Below B w (((((W.setCell ⟨g, 0, none⟩ v0).setCell ⟨g, 1, none⟩ v1).setCell ⟨g, 2, none⟩ v2).setCell ⟨g, 3, none⟩ v3).setCell ⟨g, 4, none⟩ v4) :=
  ((((h.setCell (p := ⟨g, 0, none⟩) hg v0).setCell (p := ⟨g, 1, none⟩) hg v1).setCell (p := ⟨g, 2, none⟩) hg v2).setCell (p := ⟨g, 3, none⟩) hg v3).setCell (p := ⟨g, 4, none⟩) hg v4
/-- the report so far: its struct, its races, its edges -/
structure RepS (w w2 W : World) (go : Nat) (vr ve : Value) (n : Nat) (es : List (ByteArray × ByteArray)) : Prop where
  hB : Below w.heap.size w W
  hK : w2.grownBy W (some go)
  bx : W.heap[go]? = some (.cells ([vr, ve, .slice none 0 0] : List Value).toArray 48 (0, 0))
  rc : SlRc W vr n
  ed : SlEd W ve es
  nr : ∀ b, vr.ownBlock = some b → w2.heap.size ≤ b
  ne : ∀ b, ve.ownBlock = some b → w2.heap.size ≤ b
  gw : w.heap.size ≤ go
  gl : go < w2.heap.size
theorem RepS.lt {w w2 W : World} {go : Nat} {vr ve : Value} {n : Nat} {es : List (ByteArray × ByteArray)} (h : RepS w w2 W go vr ve n es) : go < W.heap.size := (Array.getElem?_eq_some_iff.1 h.bx).1
theorem RepS.below {w w2 W W' : World} {go : Nat} {vr ve : Value} {n : Nat} {es : List (ByteArray × ByteArray)} (h : RepS w w2 W go vr ve n es) (hb : Below W.heap.size W W') : RepS w w2 W' go vr ve n es :=
  ⟨bl_then h.hB h.hB.size hb, grown_then h.hK (.inl rfl) (grown_of_below hb _), bl_row hb h.bx, h.rc.below hb, h.ed.below hb, h.nr, h.ne, h.gw, h.gl⟩
theorem fr_ge {n m : Nat} {v0 v : Value} (h : Fr n v0 v) (h0 : ∀ b, v0.ownBlock = some b → m ≤ b) (hn : m ≤ n) : ∀ b, v.ownBlock = some b → m ≤ b := by
  intro b hb
  rcases h with rfl | h
  · exact h0 b hb
  · exact Nat.le_trans hn (h b hb)
theorem ge_ne {m go : Nat} {v : Value} (h : ∀ b, v.ownBlock = some b → m ≤ b) (hg : go < m) : ∀ b, v.ownBlock = some b → some go ≠ some b := by
  intro b hb e
  have := h b hb
  simp only [Option.some.injEq] at e
  omega
/-- a race more -/
theorem RepS.race {w w2 W W1 : World} {go : Nat} {vr vr' ve : Value} {n n' : Nat} {es : List (ByteArray × ByteArray)} (h : RepS w w2 W go vr ve n es) (hb : Below W.heap.size W W1) (hs : SlRc W1 vr' n') (hf : Fr W.heap.size vr vr') :
    RepS w w2 (W1.setCell ⟨go, 0, none⟩ vr') go vr' ve n' es ∧ W.grownBy (W1.setCell ⟨go, 0, none⟩ vr') (some go) := by
  have k := h.below hb
  obtain ⟨e2, g2⟩ := set_field W1 go 0 _ vr' 48 k.bx
  have nr' := fr_ge hf h.nr h.hK.size
  refine ⟨⟨k.hB.setCell (p := ⟨go, 0, none⟩) h.gw vr', grown_then k.hK (.inl rfl) g2, e2, hs.grown g2 (ge_ne nr' h.gl), k.ed.grown g2 (ge_ne h.ne h.gl), nr', h.ne, h.gw, h.gl⟩, grown_then (grown_of_below hb _) (.inl rfl) g2⟩
/-- an edge more -/
theorem RepS.edge {w w2 W W1 : World} {go : Nat} {vr ve ve' : Value} {n : Nat} {es es' : List (ByteArray × ByteArray)} (h : RepS w w2 W go vr ve n es) (hb : Below W.heap.size W W1) (hs : SlEd W1 ve' es') (hf : Fr W.heap.size ve ve') :
    RepS w w2 (W1.setCell ⟨go, 1, none⟩ ve') go vr ve' n es' ∧ W.grownBy (W1.setCell ⟨go, 1, none⟩ ve') (some go) := by
  have k := h.below hb
  obtain ⟨e2, g2⟩ := set_field W1 go 1 _ ve' 48 k.bx
  have ne' := fr_ge hf h.ne h.hK.size
  refine ⟨⟨k.hB.setCell (p := ⟨go, 1, none⟩) h.gw ve', grown_then k.hK (.inl rfl) g2, e2, k.rc.grown g2 (ge_ne h.nr h.gl), hs.grown g2 (ge_ne ne' h.gl), h.nr, ne', h.gw, h.gl⟩, grown_then (grown_of_below hb _) (.inl rfl) g2⟩
/-- a row that lies apart from the report's struct -/
theorem row_kept {W W' : World} {g go : Nat} {o : Obj} (h : W.heap[g]? = some o) (hg : W.grownBy W' (some go)) (hne : g ≠ go) : W'.heap[g]? = some o := (hg.block g (Array.getElem?_eq_some_iff.1 h).1 (fun e => hne (by cases e; rfl))).trans h
/-- the cells of one access -/
theorem SlAc.cells {w : World} {A : Option Addr} {na c1 : Nat} (h : SlAc w (.slice A na c1) na) {x : Nat} (hx : x < na) :
    ∃ (g : Nat) (f : ByteArray) (k : Int) (v : ByteArray) (b : Bool) (E : List Int), A = some ⟨g, 0, none⟩ ∧ Ef 3 E ∧ v.size ≤ 4 ∧ ∀ w', Below w.heap.size w w' → (w'.cell? ⟨g, x * 5, none⟩ = some (.string f) ∧ w'.cell? ⟨g, x * 5 + 1, none⟩ = some (.int .i64 k) ∧ w'.cell? ⟨g, x * 5 + 2, none⟩ = some (.string v) ∧ w'.cell? ⟨g, x * 5 + 3, none⟩ = some (.bool b) ∧ w'.cell? ⟨g, x * 5 + 4, none⟩ = some (.string (st E))) := by
  obtain ⟨A', c', xs, e, h1, h2, h3, h4, h5, h6⟩ := h
  cases e
  obtain ⟨f, k, v, b, E, e0, e1, e2, e3, e4, hE, hv⟩ := h5 x hx
  obtain ⟨ad, q1, -⟩ := h3 (x * 5) (by omega)
  have q2 := h6 ad q1
  rw [q1, q2] at h3
  have hat : ∀ o u, xs[x * 5 + o]? = some u → w.cell? ⟨ad.block, x * 5 + o, none⟩ = some u := fun o u hu => by
    have := h3.cells _ u hu
    rwa [add_plain] at this
  exact ⟨ad.block, f, k, v, b, E, by rw [q1, ← q2], hE, hv, fun w' hb => ⟨bl_cell hb (hat 0 _ e0), bl_cell hb (hat 1 _ e1), bl_cell hb (hat 2 _ e2), bl_cell hb (hat 3 _ e3), bl_cell hb (hat 4 _ e4)⟩⟩
/-- the cells of one lock taken -/
theorem SlAq.cells {w : World} {A : Option Addr} {na c1 : Nat} (h : SlAq w (.slice A na c1) na) {x : Nat} (hx : x < na) :
    ∃ (g : Nat) (f : ByteArray) (k : Int) (v : ByteArray) (E : List Int), A = some ⟨g, 0, none⟩ ∧ Ef 3 E ∧ ∀ w', Below w.heap.size w w' → (w'.cell? ⟨g, x * 4, none⟩ = some (.string f) ∧ w'.cell? ⟨g, x * 4 + 1, none⟩ = some (.int .i64 k) ∧ w'.cell? ⟨g, x * 4 + 2, none⟩ = some (.string v) ∧ w'.cell? ⟨g, x * 4 + 3, none⟩ = some (.string (st E))) := by
  obtain ⟨A', c', xs, e, h1, h2, h3, h4, h5, h6⟩ := h
  cases e
  obtain ⟨f, k, v, E, e0, e1, e2, e3, hE⟩ := h5 x hx
  obtain ⟨ad, q1, -⟩ := h3 (x * 4) (by omega)
  have q2 := h6 ad q1
  rw [q1, q2] at h3
  have hat : ∀ o u, xs[x * 4 + o]? = some u → w.cell? ⟨ad.block, x * 4 + o, none⟩ = some u := fun o u hu => by
    have := h3.cells _ u hu
    rwa [add_plain] at this
  exact ⟨ad.block, f, k, v, E, by rw [q1, ← q2], hE, fun w' hb => ⟨bl_cell hb (hat 0 _ e0), bl_cell hb (hat 1 _ e1), bl_cell hb (hat 2 _ e2), bl_cell hb (hat 3 _ e3)⟩⟩
end Go.Proofs.Ytdhklfbelplbcaa
namespace Go
set_option linter.unusedVariables false
section
variable {P : Program} {ops : Array Oper} {Q : Exit → Act → World → Prop} {md : Region.Mode} {S : World → Prop} {L : Nat}
/-- as wpAnyH, but S is not asked behind number L -/
def wpAnyF (P : Program) (md : Region.Mode) (ops : Array Oper) (Q : Exit → Act → World → Prop) (S : World → Prop) (L : Nat) : Nat → Array Bool → Act → World → Prop
  | 0, listed, a, w => Region.ready md ops listed = [] ∧ Q .normal a w
  | fuel + 1, listed, a, w =>
    (Region.ready md ops listed = [] → Q .normal a w) ∧
    ∀ i ∈ Region.ready md ops listed, wpOp P ops Q i (fun a' w' => (i ≠ L → S w') ∧ wpAnyF P md ops Q S L fuel (listed.setIfInBounds i true) a' w') a w
theorem wpAny_of_F : ∀ (fuel : Nat) (listed : Array Bool) (a : Act) (w : World), wpAnyF P md ops Q S L fuel listed a w → wpAny P md ops Q fuel listed a w
  | 0, _, _, _, h => h
  | fuel + 1, _, _, _, h => ⟨h.1, fun i hi => wpOp_mono (fun a' w' h' => wpAny_of_F fuel _ a' w' h'.2) (h.2 i hi)⟩
theorem wpAnyF_first {i : Nat} {oi : Oper} {v : Value} (hi : ops[i]? = some oi) (hsel : ∀ (j : Nat) (o : Oper) cs b, ops[j]? = some o → o.op ≠ .select cs b)
    (hQ : ∀ c a w, Q (.panic c) (a.put oi.dst v) w → Q (.panic c) a w) (hL : ∀ o, ops[L]? = some o → ∃ e ∈ o.after, Region.binds md e = true ∧ e.on = i) :
    ∀ (fuel : Nat) (listed : Array Bool) (a : Act) (w : World),
      (∀ j oj, ops[j]? = some oj → j ≠ i → listed.getD j true = false → (∀ e ∈ oj.after, Region.binds md e = true → e.on ≠ i) → oi.apart ops oj = true) →
      i ∈ Region.ready md ops listed → YieldsIf P ops S oi v a → S w →
      wpAnyF P md ops Q S L fuel (listed.setIfInBounds i true) (a.put oi.dst v) w → wpAnyF P md ops Q S L (fuel + 1) listed a w := by
  intro fuel
  induction fuel with
  | zero =>
    intro listed a w _ hr hy hS H
    refine ⟨fun h => (by rw [h] at hr; cases hr), fun j hj => ?_⟩
    by_cases hji : j = i
    · subst hji; exact hy.wpOp hi hS ⟨fun _ => hS, H⟩
    · have := ready_mono hj hji
      rw [H.1] at this
      cases this
  | succ fuel ih =>
    intro listed a w hfree hr hy hS H
    refine ⟨fun h => (by rw [h] at hr; cases hr), fun j hj => ?_⟩
    by_cases hji : j = i
    · subst hji; exact hy.wpOp hi hS ⟨fun _ => hS, H⟩
    · have h1 := H.2 j (ready_mono hj hji)
      obtain ⟨hjun, oj, hoj, hall⟩ := mem_ready.1 hj
      have hnot : ∀ e ∈ oj.after, Region.binds md e = true → e.on ≠ i := fun e he hb heq => by
        have h1 := hall e he hb
        have h0 := (mem_ready.1 hr).1
        rw [heq] at h1
        rcases Nat.lt_or_ge i listed.size with h' | h'
        · simp [h'] at h0 h1; rw [h0] at h1; cases h1
        · simp [Array.getElem?_eq_none h'] at h1
      have h2 := wpOp_putIf hoj (hfree j oj hoj hji hjun hnot) (fun cs b => hsel i oi cs b hi) (fun cs b => hsel j oj cs b hoj) hQ hy h1
      have hfree' : ∀ k ok, ops[k]? = some ok → k ≠ i → (listed.setIfInBounds j true).getD k true = false →
          (∀ e ∈ ok.after, Region.binds md e = true → e.on ≠ i) → oi.apart ops ok = true := fun k ok hk hki hun hno => by
        refine hfree k ok hk hki ?_ hno
        by_cases hjk : j = k
        · subst hjk; exact hjun
        · rw [getD_set_ne true hjk] at hun; exact hun
      have hri : i ∈ Region.ready md ops (listed.setIfInBounds j true) := ready_mono hr (Ne.symm hji)
      have hjL : j ≠ L := fun e => by
        subst e
        obtain ⟨e, he, hb, ho⟩ := hL oj hoj
        exact hnot e he hb ho
      refine wpOp_mono (fun a' w' h3 => ⟨fun _ => h3.2.1 hjL, ih (listed.setIfInBounds j true) a' w' hfree' hri h3.1 (h3.2.1 hjL) ?_⟩) h2
      rw [Array.setIfInBounds_comm _ _ hji]
      exact h3.2.2
/-- number L waits for number i -/
def lateOn (md : Region.Mode) (ops : Array Oper) (L i : Nat) : Bool :=
  match ops[L]? with
  | none => true
  | some o => o.after.any fun e => Region.binds md e && e.on == i
theorem lateOn_spec {i : Nat} (h : lateOn md ops L i = true) : ∀ o, ops[L]? = some o → ∃ e ∈ o.after, Region.binds md e = true ∧ e.on = i := by
  intro o ho
  unfold lateOn at h
  rw [ho] at h
  obtain ⟨k, hk, he⟩ := Array.any_eq_true.1 h
  simp only [Bool.and_eq_true, beq_iff_eq] at he
  exact ⟨_, Array.getElem_mem hk, he⟩
theorem wpAnyF_take {i : Nat} {oi : Oper} {v : Value} {fuel : Nat} {listed : Array Bool} {a : Act} {w : World} (hi : ops[i]? = some oi)
    (hs : Region.noSelect ops = true) (hf : Region.free md ops listed i = true) (hr : (Region.ready md ops listed).contains i = true) (hL : lateOn md ops L i = true)
    (hQ : ∀ c a w, Q (.panic c) (a.put oi.dst v) w → Q (.panic c) a w) (hy : YieldsIf P ops S oi v a) (hS : S w)
    (h : wpAnyF P md ops Q S L fuel (listed.setIfInBounds i true) (a.put oi.dst v) w) : wpAnyF P md ops Q S L (fuel + 1) listed a w :=
  wpAnyF_first hi (Region.noSelect_spec hs) hQ (lateOn_spec hL) fuel listed a w (Region.free_spec hi hf) (by simpa using hr) hy hS h
/-- one operation alone may come up, and is not the last -/
theorem wpAnyF_step {i : Nat} {o : Oper} {fuel : Nat} {listed : Array Bool} {a : Act} {w : World} (hr : Region.ready md ops listed = [i]) (ho : ops[i]? = some o) (hne : (i == L) = false)
    (h : ∀ K' : Act → World → Prop, Shut (∀ a w, S w → (S w → wpAnyF P md ops Q S L fuel (listed.setIfInBounds i true) a w) → K' a w) → if Region.wanted o (yielded ops a.tmps) = true then Oper.wp P o a w K' Q else K' (a.put o.dst undef) w) :
    wpAnyF P md ops Q S L (fuel + 1) listed a w := by
  refine ⟨fun h0 => (by rw [h0] at hr; cases hr), fun j hj => ?_⟩
  rw [hr] at hj
  obtain rfl := List.mem_singleton.1 hj
  exact wpOp_step ho (fun K' hK => h K' (fun a w hS hW => hK a w ⟨fun _ => hS, hW hS⟩))
/-- the last -/
theorem wpAnyF_last {o : Oper} {fuel : Nat} {listed : Array Bool} {a : Act} {w : World} (hr : Region.ready md ops listed = [L]) (ho : ops[L]? = some o)
    (h : ∀ K' : Act → World → Prop, Shut (∀ a w, wpAnyF P md ops Q S L fuel (listed.setIfInBounds L true) a w → K' a w) → if Region.wanted o (yielded ops a.tmps) = true then Oper.wp P o a w K' Q else K' (a.put o.dst undef) w) :
    wpAnyF P md ops Q S L (fuel + 1) listed a w := by
  refine ⟨fun h0 => (by rw [h0] at hr; cases hr), fun j hj => ?_⟩
  rw [hr] at hj
  obtain rfl := List.mem_singleton.1 hj
  exact wpOp_step ho (fun K' hK => h K' (fun a w hW => hK a w ⟨fun e => absurd rfl e, hW⟩))
theorem wpAnyF_done {listed : Array Bool} {a : Act} {w : World} (hr : Region.ready md ops listed = []) (h : Q .normal a w) :
    ∀ fuel, wpAnyF P md ops Q S L fuel listed a w
  | 0 => ⟨hr, h⟩
  | _ + 1 => ⟨fun _ => h, by rw [hr]; simp⟩
theorem wp_region_F {id : Nat} {a : Act} {w : World} (S : World → Prop) (L : Nat) (hm : P.follows .mixedOrders = true) (hS : S w.drew)
    (h : S w.drew → wpAnyF P .any ops Q S L ops.size (Array.replicate ops.size false) a w.drew) : (Code.region id ops true).wp P Q a w :=
  wp_region_any hm (wpAny_of_F _ _ _ _ (h hS))
end
end Go
namespace Go
set_option linter.unusedVariables false
section
variable {P : Program} {ops opsR : Array Oper} {Q : Exit → Act → World → Prop} {md : Region.Mode} {S : World → Prop}
/-! S is not asked behind the last operation L -/
variable {L : Nat}
theorem wp_region_FR (opsR : Array Oper) (listed : Array Bool) (L : Nat) {id : Nat} {a : Act} {w : World} (ho : opsR = ops) (hl : Array.replicate opsR.size false = listed) (hm : P.follows .mixedOrders = true) (hn : Region.noSelect opsR = true) (hS : S w.drew)
    (h : opsR = ops → Region.noSelect opsR = true → S w.drew → wpAnyF P .any ops Q S L opsR.size listed a w.drew) : (Code.region id ops true).wp P Q a w := by
  subst ho
  refine wp_region_F S L hm hS (fun h1 => ?_)
  rw [hl]
  exact h rfl hn h1
theorem wpAnyF_takeR {i : Nat} {oi : Oper} {v : Value} {rs : List Nat} {fuel : Nat} {listed listed' : Array Bool} {a : Act} {w : World} (ho : opsR = ops) (hs : Region.noSelect opsR = true) (hr : Region.ready md opsR listed = rs) (hin : rs.contains i = true) (hf : Region.free md opsR listed i = true) (hL : lateOn md opsR L i = true)
    (hi : ops.toList[i]? = some oi) (hQ : ∀ c a w, Q (.panic c) (a.put oi.dst v) w → Q (.panic c) a w) (hst : listed.setIfInBounds i true = listed') (hy : YieldsIf P ops S oi v a) (hS : S w)
    (h : wpAnyF P md ops Q S L fuel listed' (a.put oi.dst v) w) : wpAnyF P md ops Q S L (fuel + 1) listed a w := by
  subst ho hst
  exact wpAnyF_take (by simpa using hi) hs hf (by rw [hr]; exact hin) hL hQ hy hS h
theorem wpAnyF_oneR {i : Nat} {oi : Oper} {v : Value} {fuel : Nat} {listed listed' : Array Bool} {a : Act} {w : World} (ho : opsR = ops) (hr : Region.ready md opsR listed = [i])
    (hi : ops.toList[i]? = some oi) (hst : listed.setIfInBounds i true = listed') (hy : YieldsIf P ops S oi v a) (hS : S w) (h : wpAnyF P md ops Q S L fuel listed' (a.put oi.dst v) w) : wpAnyF P md ops Q S L (fuel + 1) listed a w := by
  subst ho hst
  refine ⟨fun h0 => ?_, fun j hj => ?_⟩
  · rw [hr] at h0; cases h0
  · rw [hr] at hj
    obtain rfl := List.mem_singleton.1 hj
    exact hy.wpOp (by simpa using hi) hS ⟨fun _ => hS, h⟩
theorem wpAnyF_stepR {i : Nat} {o : Oper} {fuel : Nat} {listed listed' : Array Bool} {a : Act} {w : World} (ho : opsR = ops) (hr : Region.ready md opsR listed = [i]) (hi : ops.toList[i]? = some o) (hst : listed.setIfInBounds i true = listed') (hne : (i == L) = false)
    (h : ∀ K' : Act → World → Prop, Shut (∀ a w, S w → (S w → wpAnyF P md ops Q S L fuel listed' a w) → K' a w) → if Region.wanted o (yielded ops a.tmps) = true then Oper.wp P o a w K' Q else K' (a.put o.dst undef) w) : wpAnyF P md ops Q S L (fuel + 1) listed a w := by
  subst ho hst
  exact wpAnyF_step hr (by simpa using hi) hne h
theorem wpAnyF_lastR {o : Oper} {fuel : Nat} {listed listed' : Array Bool} {a : Act} {w : World} (ho : opsR = ops) (hr : Region.ready md opsR listed = [L]) (hi : ops.toList[L]? = some o) (hst : listed.setIfInBounds L true = listed')
    (h : ∀ K' : Act → World → Prop, Shut (∀ a w, wpAnyF P md ops Q S L fuel listed' a w → K' a w) → if Region.wanted o (yielded ops a.tmps) = true then Oper.wp P o a w K' Q else K' (a.put o.dst undef) w) : wpAnyF P md ops Q S L (fuel + 1) listed a w := by
  subst ho hst
  exact wpAnyF_last hr (by simpa using hi) h
theorem wpAnyF_doneR {fuel : Nat} {listed : Array Bool} {a : Act} {w : World} (ho : opsR = ops) (hr : Region.ready md opsR listed = []) (h : Q .normal a w) : wpAnyF P md ops Q S L fuel listed a w := by
  subst ho
  exact wpAnyF_done hr h fuel
end
end Go
namespace Go.Proofs.Ytdhklfbelplbcaa
set_option maxRecDepth 100000
noncomputable def opsE18 : Array Oper := regIn 18 Try.f21
theorem nsE18 : Region.noSelect opsE18 = true := by kernel_rfl
theorem liE18 : Array.replicate opsE18.size false = (bitsB 14 0) := by kernel_rfl
theorem rdE18_0 : Region.ready .any opsE18 (bitsB 14 0) = [0, 2, 5, 7, 10, 11] := by kernel_rfl
theorem frE18_0 : Region.free .any opsE18 (bitsB 14 0) 0 = true := by kernel_rfl
theorem stE18_0 : (bitsB 14 0).setIfInBounds 0 true = (bitsB 14 1) := by kernel_rfl
theorem rdE18_1 : Region.ready .any opsE18 (bitsB 14 1) = [1, 2, 5, 7, 10, 11] := by kernel_rfl
theorem frE18_1 : Region.free .any opsE18 (bitsB 14 1) 1 = true := by kernel_rfl
theorem stE18_1 : (bitsB 14 1).setIfInBounds 1 true = (bitsB 14 3) := by kernel_rfl
theorem rdE18_2 : Region.ready .any opsE18 (bitsB 14 3) = [2, 5, 7, 10, 11] := by kernel_rfl
theorem frE18_2 : Region.free .any opsE18 (bitsB 14 3) 2 = true := by kernel_rfl
theorem stE18_2 : (bitsB 14 3).setIfInBounds 2 true = (bitsB 14 7) := by kernel_rfl
theorem rdE18_3 : Region.ready .any opsE18 (bitsB 14 7) = [3, 5, 7, 10, 11] := by kernel_rfl
theorem frE18_3 : Region.free .any opsE18 (bitsB 14 7) 3 = true := by kernel_rfl
theorem stE18_3 : (bitsB 14 7).setIfInBounds 3 true = (bitsB 14 15) := by kernel_rfl
theorem rdE18_4 : Region.ready .any opsE18 (bitsB 14 15) = [4, 5, 7, 10, 11] := by kernel_rfl
theorem frE18_4 : Region.free .any opsE18 (bitsB 14 15) 4 = true := by kernel_rfl
theorem stE18_4 : (bitsB 14 15).setIfInBounds 4 true = (bitsB 14 31) := by kernel_rfl
theorem rdE18_5 : Region.ready .any opsE18 (bitsB 14 31) = [5, 7, 10, 11] := by kernel_rfl
theorem frE18_5 : Region.free .any opsE18 (bitsB 14 31) 5 = true := by kernel_rfl
theorem stE18_5 : (bitsB 14 31).setIfInBounds 5 true = (bitsB 14 63) := by kernel_rfl
theorem rdE18_6 : Region.ready .any opsE18 (bitsB 14 63) = [6, 7, 10, 11] := by kernel_rfl
theorem frE18_6 : Region.free .any opsE18 (bitsB 14 63) 6 = true := by kernel_rfl
theorem stE18_6 : (bitsB 14 63).setIfInBounds 6 true = (bitsB 14 127) := by kernel_rfl
theorem rdE18_7 : Region.ready .any opsE18 (bitsB 14 127) = [7, 10, 11] := by kernel_rfl
theorem frE18_7 : Region.free .any opsE18 (bitsB 14 127) 7 = true := by kernel_rfl
theorem stE18_7 : (bitsB 14 127).setIfInBounds 7 true = (bitsB 14 255) := by kernel_rfl
theorem rdE18_8 : Region.ready .any opsE18 (bitsB 14 255) = [8, 10, 11] := by kernel_rfl
theorem frE18_8 : Region.free .any opsE18 (bitsB 14 255) 8 = true := by kernel_rfl
theorem stE18_8 : (bitsB 14 255).setIfInBounds 8 true = (bitsB 14 511) := by kernel_rfl
theorem rdE18_9 : Region.ready .any opsE18 (bitsB 14 511) = [9, 10, 11] := by kernel_rfl
theorem frE18_9 : Region.free .any opsE18 (bitsB 14 511) 9 = true := by kernel_rfl
theorem stE18_9 : (bitsB 14 511).setIfInBounds 9 true = (bitsB 14 1023) := by kernel_rfl
theorem stE18_10 : (bitsB 14 1023).setIfInBounds 11 true = (bitsB 14 3071) := by kernel_rfl
theorem stE18_11 : (bitsB 14 1023).setIfInBounds 10 true = (bitsB 14 2047) := by kernel_rfl
theorem rdE18_10 : Region.ready .any opsE18 (bitsB 14 1023) = [10, 11] := by kernel_rfl
theorem rdE18_11 : Region.ready .any opsE18 (bitsB 14 2047) = [11] := by kernel_rfl
theorem stE18_12 : (bitsB 14 2047).setIfInBounds 11 true = (bitsB 14 4095) := by kernel_rfl
theorem rdE18_12 : Region.ready .any opsE18 (bitsB 14 4095) = [12] := by kernel_rfl
theorem stE18_13 : (bitsB 14 4095).setIfInBounds 12 true = (bitsB 14 8191) := by kernel_rfl
theorem rdE18_13 : Region.ready .any opsE18 (bitsB 14 8191) = [13] := by kernel_rfl
theorem stE18_14 : (bitsB 14 8191).setIfInBounds 13 true = (bitsB 14 16383) := by kernel_rfl
theorem rdE18_14 : Region.ready .any opsE18 (bitsB 14 16383) = [] := by kernel_rfl
theorem rdE18_15 : Region.ready .any opsE18 (bitsB 14 3071) = [10] := by kernel_rfl
theorem stE18_15 : (bitsB 14 3071).setIfInBounds 10 true = (bitsB 14 4095) := by kernel_rfl

end Go.Proofs.Ytdhklfbelplbcaa
