/-
  NARROWER THAN 'FOR EVERY INPUT', by the rows' own cells (each row's printed sentence says how): RankOrder: loops.
  DERIVED. THE GIVEN ROWS OF THIS SEAT. 8 by the template 'for every input the law returns true; each argument reads behind the call as it read before'; 0 by the template 'total and deterministic' (their statements: YtdhklfbelplbcaaTotals.lean).
  GIVEN WITH THE SEED: the statements are not yours to turn. If you find one false, say at which input.
  Laid BY PROGRAM, IN A SANDBOX (cutbox-rows.mjs): the forced cells as the released guide's own fill.sh prints them over the translation e192b062b181e779… (all of the seat's roots in one cut). By AI agents, Wed Nov 11 2026. No macro, syntax, notation, axiom, sorry.
-/
import Derived.Test.YtdhklfbelplbcaaChecked
import GoSem.Claim
import GoSem.ClaimJoined
import GoSem.ClaimMapViews
import Derived.JoinedTies
import Derived.KernelRfl
namespace Go.Proofs.Ytdhklfbelplbcaa
/- THE CELL 'sum', in the pinned program and in every row, IS THE sha256 OF THE DUMP (.gsa) THAT YtdhklfbelplbcaaProg.lean LOADS. Nothing in Lean hashes anything: it is a label: what it is worth is what the hold of that sum in a sandbox is worth. -/
noncomputable def Try.pinned : Pinned := { name := "ytdhklfbelplbcaa", sum := "e192b062b181e7791810706a399ec2c5c690dac75288fa3f2d9edd2fcc816831", checked := Try.checked }
namespace Rows
def none {H : Type} : Left H := { results := [], args := [] }

/-- 'deadboltlaw12.RankCmp': WHATEVER THE INPUT: true; the input reads as it did. -/
def rankCmpSpec : ChangeSpec := { name := "rankCmp", fn := fun _ => fun
  | [d1, d2, d3] => { results := [.lit (.bool true)], args := [d1, d2, d3] }
  | _ => none }
def rankCmpRow : OpenClaim := { program := "ytdhklfbelplbcaa", sum := "e192b062b181e7791810706a399ec2c5c690dac75288fa3f2d9edd2fcc816831", func := "deadbolt/deadboltlaw12.RankCmp", spec := "rankCmp", inPlace := ["math.Float64bits"], apart := false }
def RankCmpSaid : Prop := rankCmpRow.holds Try.pinned (OpenSpec.ofChange rankCmpSpec)

/-- ITS FALSE NEIGHBOUR: 'it returns false'. Refute it at one input. -/
def rankCmpWrong : ChangeSpec := { name := "rankCmp", fn := fun _ => fun
  | [d1, d2, d3] => { results := [.lit (.bool false)], args := [d1, d2, d3] }
  | _ => none }
def RankCmpWrongFalsely : Prop := rankCmpRow.holds Try.pinned (OpenSpec.ofChange rankCmpWrong)

/-- 'deadboltlaw12.RankSum': WHATEVER THE INPUT: true; the input reads as it did. -/
def rankSumSpec : ChangeSpec := { name := "rankSum", fn := fun _ => fun
  | [d1, d2] => { results := [.lit (.bool true)], args := [d1, d2] }
  | _ => none }
def rankSumRow : OpenClaim := { program := "ytdhklfbelplbcaa", sum := "e192b062b181e7791810706a399ec2c5c690dac75288fa3f2d9edd2fcc816831", func := "deadbolt/deadboltlaw12.RankSum", spec := "rankSum", inPlace := ["math.Float64bits"], apart := false }
def RankSumSaid : Prop := rankSumRow.holds Try.pinned (OpenSpec.ofChange rankSumSpec)

/-- ITS FALSE NEIGHBOUR: 'it returns false'. Refute it at one input. -/
def rankSumWrong : ChangeSpec := { name := "rankSum", fn := fun _ => fun
  | [d1, d2] => { results := [.lit (.bool false)], args := [d1, d2] }
  | _ => none }
def RankSumWrongFalsely : Prop := rankSumRow.holds Try.pinned (OpenSpec.ofChange rankSumWrong)

/-- 'deadboltlaw12.RankEdges': WHATEVER THE INPUT: true; the input reads as it did. -/
def rankEdgesSpec : ChangeSpec := { name := "rankEdges", fn := fun _ => fun
  | [d1, d2] => { results := [.lit (.bool true)], args := [d1, d2] }
  | _ => none }
def rankEdgesRow : OpenClaim := { program := "ytdhklfbelplbcaa", sum := "e192b062b181e7791810706a399ec2c5c690dac75288fa3f2d9edd2fcc816831", func := "deadbolt/deadboltlaw12.RankEdges", spec := "rankEdges", inPlace := ["math.Float64bits"], apart := false }
def RankEdgesSaid : Prop := rankEdgesRow.holds Try.pinned (OpenSpec.ofChange rankEdgesSpec)

/-- ITS FALSE NEIGHBOUR: 'it returns false'. Refute it at one input. -/
def rankEdgesWrong : ChangeSpec := { name := "rankEdges", fn := fun _ => fun
  | [d1, d2] => { results := [.lit (.bool false)], args := [d1, d2] }
  | _ => none }
def RankEdgesWrongFalsely : Prop := rankEdgesRow.holds Try.pinned (OpenSpec.ofChange rankEdgesWrong)

/-- 'deadboltlaw12.RankParts': WHATEVER THE INPUT: true; the input reads as it did. -/
def rankPartsSpec : ChangeSpec := { name := "rankParts", fn := fun _ => fun
  | [d] => { results := [.lit (.bool true)], args := [d] }
  | _ => none }
def rankPartsRow : OpenClaim := { program := "ytdhklfbelplbcaa", sum := "e192b062b181e7791810706a399ec2c5c690dac75288fa3f2d9edd2fcc816831", func := "deadbolt/deadboltlaw12.RankParts", spec := "rankParts", inPlace := ["math.Float64bits"], apart := false }
def RankPartsSaid : Prop := rankPartsRow.holds Try.pinned (OpenSpec.ofChange rankPartsSpec)

/-- ITS FALSE NEIGHBOUR: 'it returns false'. Refute it at one input. -/
def rankPartsWrong : ChangeSpec := { name := "rankParts", fn := fun _ => fun
  | [d] => { results := [.lit (.bool false)], args := [d] }
  | _ => none }
def RankPartsWrongFalsely : Prop := rankPartsRow.holds Try.pinned (OpenSpec.ofChange rankPartsWrong)

/-- 'deadboltlaw12.RankOrder': WHATEVER THE INPUT: true; the input reads as it did. -/
def rankOrderSpec : ChangeSpec := { name := "rankOrder", fn := fun _ => fun
  | [d1, d2, d3, d4, d5] => { results := [.lit (.bool true)], args := [d1, d2, d3, d4, d5] }
  | _ => none }
def rankOrderRow : OpenClaim := { program := "ytdhklfbelplbcaa", sum := "e192b062b181e7791810706a399ec2c5c690dac75288fa3f2d9edd2fcc816831", func := "deadbolt/deadboltlaw12.RankOrder", spec := "rankOrder", inPlace := ["math.Float64bits"], unfollowed := true, recurses := true, loops := true, apart := false }
def RankOrderSaid : Prop := rankOrderRow.holds Try.pinned (OpenSpec.ofChange rankOrderSpec)

/-- ITS FALSE NEIGHBOUR: 'it returns false'. Refute it at one input. -/
def rankOrderWrong : ChangeSpec := { name := "rankOrder", fn := fun _ => fun
  | [d1, d2, d3, d4, d5] => { results := [.lit (.bool false)], args := [d1, d2, d3, d4, d5] }
  | _ => none }
def RankOrderWrongFalsely : Prop := rankOrderRow.holds Try.pinned (OpenSpec.ofChange rankOrderWrong)

/-- 'deadboltlaw12.RankKnown': WHATEVER THE INPUT: true; the input reads as it did. -/
def rankKnownSpec : ChangeSpec := { name := "rankKnown", fn := fun _ => fun
  | [d] => { results := [.lit (.bool true)], args := [d] }
  | _ => none }
def rankKnownRow : OpenClaim := { program := "ytdhklfbelplbcaa", sum := "e192b062b181e7791810706a399ec2c5c690dac75288fa3f2d9edd2fcc816831", func := "deadbolt/deadboltlaw12.RankKnown", spec := "rankKnown", inPlace := ["math.Float64bits"], unfollowed := true, recurses := true, apart := false }
def RankKnownSaid : Prop := rankKnownRow.holds Try.pinned (OpenSpec.ofChange rankKnownSpec)

/-- ITS FALSE NEIGHBOUR: 'it returns false'. Refute it at one input. -/
def rankKnownWrong : ChangeSpec := { name := "rankKnown", fn := fun _ => fun
  | [d] => { results := [.lit (.bool false)], args := [d] }
  | _ => none }
def RankKnownWrongFalsely : Prop := rankKnownRow.holds Try.pinned (OpenSpec.ofChange rankKnownWrong)

/-- 'deadboltlaw12.RankHeavy': WHATEVER THE INPUT: true; the input reads as it did. -/
def rankHeavySpec : ChangeSpec := { name := "rankHeavy", fn := fun _ => fun
  | [d1, d2, d3] => { results := [.lit (.bool true)], args := [d1, d2, d3] }
  | _ => none }
def rankHeavyRow : OpenClaim := { program := "ytdhklfbelplbcaa", sum := "e192b062b181e7791810706a399ec2c5c690dac75288fa3f2d9edd2fcc816831", func := "deadbolt/deadboltlaw12.RankHeavy", spec := "rankHeavy", inPlace := ["math.Float64bits"], unfollowed := true, recurses := true, apart := false }
def RankHeavySaid : Prop := rankHeavyRow.holds Try.pinned (OpenSpec.ofChange rankHeavySpec)

/-- ITS FALSE NEIGHBOUR: 'it returns false'. Refute it at one input. -/
def rankHeavyWrong : ChangeSpec := { name := "rankHeavy", fn := fun _ => fun
  | [d1, d2, d3] => { results := [.lit (.bool false)], args := [d1, d2, d3] }
  | _ => none }
def RankHeavyWrongFalsely : Prop := rankHeavyRow.holds Try.pinned (OpenSpec.ofChange rankHeavyWrong)

/-- 'deadboltlaw12.RankScale': WHATEVER THE INPUT: true; the input reads as it did. -/
def rankScaleSpec : ChangeSpec := { name := "rankScale", fn := fun _ => fun
  | [d1, d2] => { results := [.lit (.bool true)], args := [d1, d2] }
  | _ => none }
def rankScaleRow : OpenClaim := { program := "ytdhklfbelplbcaa", sum := "e192b062b181e7791810706a399ec2c5c690dac75288fa3f2d9edd2fcc816831", func := "deadbolt/deadboltlaw12.RankScale", spec := "rankScale", inPlace := ["math.Float64bits"], unfollowed := true, recurses := true, apart := false }
def RankScaleSaid : Prop := rankScaleRow.holds Try.pinned (OpenSpec.ofChange rankScaleSpec)

/-- ITS FALSE NEIGHBOUR: 'it returns false'. Refute it at one input. -/
def rankScaleWrong : ChangeSpec := { name := "rankScale", fn := fun _ => fun
  | [d1, d2] => { results := [.lit (.bool false)], args := [d1, d2] }
  | _ => none }
def RankScaleWrongFalsely : Prop := rankScaleRow.holds Try.pinned (OpenSpec.ofChange rankScaleWrong)

/- THE SECOND FORM. 'bulk': how many values and letters a reading holds, each counted each time it is reached (what is shared counts as often as it is met; a slice's spare places count too). A statement '..UptoSaid' is the law's where the arguments, and the package variables that the reading takes, are together of bulk at most 1048576: NARROWER than '..Said'. Prove '..Said' where nothing that the law and all that it calls make is longer than what came in: it says more and counts as full. Else prove '..UptoSaid'. A law counts once. -/
mutual
def uptoBulk {H : Type} : DataW H → Nat
  | .lit (.string bytes) => bytes.length + 1
  | .lit _ => 1
  | .nil => 1
  | .ptr d => uptoBulk d + 1
  | .slice elems spare => uptoBulkAll elems + uptoBulkAll spare + 1
  | .agg parts => uptoBulkAll parts + 1
  | .iface _ d => uptoBulk d + 1
  | .map entries => uptoBulkEntries entries + 1
  | .held _ => 1
def uptoBulkAll {H : Type} : List (DataW H) → Nat
  | [] => 0
  | d :: r => uptoBulk d + uptoBulkAll r
def uptoBulkEntries {H : Type} : List (Lit × DataW H) → Nat
  | [] => 0
  | x :: r => uptoBulkEntry x + uptoBulkEntries r
def uptoBulkEntry {H : Type} : Lit × DataW H → Nat
  | (.string bytes, d) => bytes.length + uptoBulk d + 1
  | (_, d) => uptoBulk d + 1
 end
def uptoSmall : (H : Type) → List (DataW H) → Bool := fun _ ds => decide (uptoBulkAll ds ≤ 1048576)
def OpenSpec.upto (s : _root_.Go.ChangeSpec) : _root_.Go.OpenSpec := { _root_.Go.OpenSpec.ofChange s with cond := some uptoSmall }

/-- 'deadboltlaw12.RankCmp', WHERE WHAT IT READS IS OF BULK AT MOST 1048576: true; the input reads as it did. -/
def rankCmpUptoRow : OpenClaim := { program := "ytdhklfbelplbcaa", sum := "e192b062b181e7791810706a399ec2c5c690dac75288fa3f2d9edd2fcc816831", func := "deadbolt/deadboltlaw12.RankCmp", spec := "rankCmp", inPlace := ["math.Float64bits"], apart := false, narrowed := true }
def RankCmpUptoSaid : Prop := rankCmpUptoRow.holds Try.pinned (OpenSpec.upto rankCmpSpec)

/-- 'deadboltlaw12.RankSum', WHERE WHAT IT READS IS OF BULK AT MOST 1048576: true; the input reads as it did. -/
def rankSumUptoRow : OpenClaim := { program := "ytdhklfbelplbcaa", sum := "e192b062b181e7791810706a399ec2c5c690dac75288fa3f2d9edd2fcc816831", func := "deadbolt/deadboltlaw12.RankSum", spec := "rankSum", inPlace := ["math.Float64bits"], apart := false, narrowed := true }
def RankSumUptoSaid : Prop := rankSumUptoRow.holds Try.pinned (OpenSpec.upto rankSumSpec)

/-- 'deadboltlaw12.RankEdges', WHERE WHAT IT READS IS OF BULK AT MOST 1048576: true; the input reads as it did. -/
def rankEdgesUptoRow : OpenClaim := { program := "ytdhklfbelplbcaa", sum := "e192b062b181e7791810706a399ec2c5c690dac75288fa3f2d9edd2fcc816831", func := "deadbolt/deadboltlaw12.RankEdges", spec := "rankEdges", inPlace := ["math.Float64bits"], apart := false, narrowed := true }
def RankEdgesUptoSaid : Prop := rankEdgesUptoRow.holds Try.pinned (OpenSpec.upto rankEdgesSpec)

/-- 'deadboltlaw12.RankParts', WHERE WHAT IT READS IS OF BULK AT MOST 1048576: true; the input reads as it did. -/
def rankPartsUptoRow : OpenClaim := { program := "ytdhklfbelplbcaa", sum := "e192b062b181e7791810706a399ec2c5c690dac75288fa3f2d9edd2fcc816831", func := "deadbolt/deadboltlaw12.RankParts", spec := "rankParts", inPlace := ["math.Float64bits"], apart := false, narrowed := true }
def RankPartsUptoSaid : Prop := rankPartsUptoRow.holds Try.pinned (OpenSpec.upto rankPartsSpec)

/-- 'deadboltlaw12.RankOrder', WHERE WHAT IT READS IS OF BULK AT MOST 1048576: true; the input reads as it did. -/
def rankOrderUptoRow : OpenClaim := { program := "ytdhklfbelplbcaa", sum := "e192b062b181e7791810706a399ec2c5c690dac75288fa3f2d9edd2fcc816831", func := "deadbolt/deadboltlaw12.RankOrder", spec := "rankOrder", inPlace := ["math.Float64bits"], unfollowed := true, recurses := true, loops := true, apart := false, narrowed := true }
def RankOrderUptoSaid : Prop := rankOrderUptoRow.holds Try.pinned (OpenSpec.upto rankOrderSpec)

/-- 'deadboltlaw12.RankKnown', WHERE WHAT IT READS IS OF BULK AT MOST 1048576: true; the input reads as it did. -/
def rankKnownUptoRow : OpenClaim := { program := "ytdhklfbelplbcaa", sum := "e192b062b181e7791810706a399ec2c5c690dac75288fa3f2d9edd2fcc816831", func := "deadbolt/deadboltlaw12.RankKnown", spec := "rankKnown", inPlace := ["math.Float64bits"], unfollowed := true, recurses := true, apart := false, narrowed := true }
def RankKnownUptoSaid : Prop := rankKnownUptoRow.holds Try.pinned (OpenSpec.upto rankKnownSpec)

/-- 'deadboltlaw12.RankHeavy', WHERE WHAT IT READS IS OF BULK AT MOST 1048576: true; the input reads as it did. -/
def rankHeavyUptoRow : OpenClaim := { program := "ytdhklfbelplbcaa", sum := "e192b062b181e7791810706a399ec2c5c690dac75288fa3f2d9edd2fcc816831", func := "deadbolt/deadboltlaw12.RankHeavy", spec := "rankHeavy", inPlace := ["math.Float64bits"], unfollowed := true, recurses := true, apart := false, narrowed := true }
def RankHeavyUptoSaid : Prop := rankHeavyUptoRow.holds Try.pinned (OpenSpec.upto rankHeavySpec)

/-- 'deadboltlaw12.RankScale', WHERE WHAT IT READS IS OF BULK AT MOST 1048576: true; the input reads as it did. -/
def rankScaleUptoRow : OpenClaim := { program := "ytdhklfbelplbcaa", sum := "e192b062b181e7791810706a399ec2c5c690dac75288fa3f2d9edd2fcc816831", func := "deadbolt/deadboltlaw12.RankScale", spec := "rankScale", inPlace := ["math.Float64bits"], unfollowed := true, recurses := true, apart := false, narrowed := true }
def RankScaleUptoSaid : Prop := rankScaleUptoRow.holds Try.pinned (OpenSpec.upto rankScaleSpec)

end Rows
end Go.Proofs.Ytdhklfbelplbcaa
