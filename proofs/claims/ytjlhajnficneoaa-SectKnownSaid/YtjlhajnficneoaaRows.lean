/-
  No cell of these rows narrows 'for every input' (looked for: loops, veiled, ifaces, maps, wideKeys, modest, calm, conditions, laid).
  DERIVED. THE GIVEN ROWS OF THIS SEAT. 9 by the template 'for every input the law returns true; each argument reads behind the call as it read before'; 0 by the template 'total and deterministic' (their statements: YtjlhajnficneoaaTotals.lean).
  GIVEN WITH THE SEED: the statements are not yours to turn. If you find one false, say at which input.
  Laid BY PROGRAM, IN A SANDBOX (cutbox-rows.mjs): the forced cells as the released guide's own fill.sh prints them over the translation 90e8c85b76756f48… (all of the seat's roots in one cut). By AI agents, Wed Nov 11 2026. No macro, syntax, notation, axiom, sorry.
-/
import Derived.Test.YtjlhajnficneoaaChecked
import GoSem.Claim
import GoSem.ClaimJoined
import GoSem.ClaimMapViews
import Derived.JoinedTies
import Derived.KernelRfl
namespace Go.Proofs.Ytjlhajnficneoaa
/- THE CELL 'sum', in the pinned program and in every row, IS THE sha256 OF THE DUMP (.gsa) THAT YtjlhajnficneoaaProg.lean LOADS. Nothing in Lean hashes anything: it is a label: what it is worth is what the hold of that sum in a sandbox is worth. -/
noncomputable def Try.pinned : Pinned := { name := "ytjlhajnficneoaa", sum := "90e8c85b76756f4869aa2a02fb287c5333a0fdb51c3d935d4aeac201a5dffdf2", checked := Try.checked }
namespace Rows
def none {H : Type} : Left H := { results := [], args := [] }

/-- 'deadboltlaw2.SectSums': WHATEVER THE INPUT: true; the input reads as it did. -/
def sectSumsSpec : ChangeSpec := { name := "sectSums", fn := fun _ => fun
  | [d] => { results := [.lit (.bool true)], args := [d] }
  | _ => none }
def sectSumsRow : OpenClaim := { program := "ytjlhajnficneoaa", sum := "90e8c85b76756f4869aa2a02fb287c5333a0fdb51c3d935d4aeac201a5dffdf2", func := "deadbolt/deadboltlaw2.SectSums", spec := "sectSums", apart := false }
def SectSumsSaid : Prop := sectSumsRow.holds Try.pinned (OpenSpec.ofChange sectSumsSpec)

/-- ITS FALSE NEIGHBOUR: 'it returns false'. Refute it at one input. -/
def sectSumsWrong : ChangeSpec := { name := "sectSums", fn := fun _ => fun
  | [d] => { results := [.lit (.bool false)], args := [d] }
  | _ => none }
def SectSumsWrongFalsely : Prop := sectSumsRow.holds Try.pinned (OpenSpec.ofChange sectSumsWrong)

/-- 'deadboltlaw2.SectBytes': WHATEVER THE INPUT: true; the input reads as it did. -/
def sectBytesSpec : ChangeSpec := { name := "sectBytes", fn := fun _ => fun
  | [d1, d2, d3, d4, d5, d6, d7] => { results := [.lit (.bool true)], args := [d1, d2, d3, d4, d5, d6, d7] }
  | _ => none }
def sectBytesRow : OpenClaim := { program := "ytjlhajnficneoaa", sum := "90e8c85b76756f4869aa2a02fb287c5333a0fdb51c3d935d4aeac201a5dffdf2", func := "deadbolt/deadboltlaw2.SectBytes", spec := "sectBytes", apart := false }
def SectBytesSaid : Prop := sectBytesRow.holds Try.pinned (OpenSpec.ofChange sectBytesSpec)

/-- ITS FALSE NEIGHBOUR: 'it returns false'. Refute it at one input. -/
def sectBytesWrong : ChangeSpec := { name := "sectBytes", fn := fun _ => fun
  | [d1, d2, d3, d4, d5, d6, d7] => { results := [.lit (.bool false)], args := [d1, d2, d3, d4, d5, d6, d7] }
  | _ => none }
def SectBytesWrongFalsely : Prop := sectBytesRow.holds Try.pinned (OpenSpec.ofChange sectBytesWrong)

/-- 'deadboltlaw2.SectReads': WHATEVER THE INPUT: true; the input reads as it did. -/
def sectReadsSpec : ChangeSpec := { name := "sectReads", fn := fun _ => fun
  | [d1, d2, d3, d4, d5, d6, d7, d8, d9] => { results := [.lit (.bool true)], args := [d1, d2, d3, d4, d5, d6, d7, d8, d9] }
  | _ => none }
def sectReadsRow : OpenClaim := { program := "ytjlhajnficneoaa", sum := "90e8c85b76756f4869aa2a02fb287c5333a0fdb51c3d935d4aeac201a5dffdf2", func := "deadbolt/deadboltlaw2.SectReads", spec := "sectReads", apart := false }
def SectReadsSaid : Prop := sectReadsRow.holds Try.pinned (OpenSpec.ofChange sectReadsSpec)

/-- ITS FALSE NEIGHBOUR: 'it returns false'. Refute it at one input. -/
def sectReadsWrong : ChangeSpec := { name := "sectReads", fn := fun _ => fun
  | [d1, d2, d3, d4, d5, d6, d7, d8, d9] => { results := [.lit (.bool false)], args := [d1, d2, d3, d4, d5, d6, d7, d8, d9] }
  | _ => none }
def SectReadsWrongFalsely : Prop := sectReadsRow.holds Try.pinned (OpenSpec.ofChange sectReadsWrong)

/-- 'deadboltlaw2.SectCuts': WHATEVER THE INPUT: true; the input reads as it did. -/
def sectCutsSpec : ChangeSpec := { name := "sectCuts", fn := fun _ => fun
  | [d1, d2, d3, d4, d5] => { results := [.lit (.bool true)], args := [d1, d2, d3, d4, d5] }
  | _ => none }
def sectCutsRow : OpenClaim := { program := "ytjlhajnficneoaa", sum := "90e8c85b76756f4869aa2a02fb287c5333a0fdb51c3d935d4aeac201a5dffdf2", func := "deadbolt/deadboltlaw2.SectCuts", spec := "sectCuts", apart := false }
def SectCutsSaid : Prop := sectCutsRow.holds Try.pinned (OpenSpec.ofChange sectCutsSpec)

/-- ITS FALSE NEIGHBOUR: 'it returns false'. Refute it at one input. -/
def sectCutsWrong : ChangeSpec := { name := "sectCuts", fn := fun _ => fun
  | [d1, d2, d3, d4, d5] => { results := [.lit (.bool false)], args := [d1, d2, d3, d4, d5] }
  | _ => none }
def SectCutsWrongFalsely : Prop := sectCutsRow.holds Try.pinned (OpenSpec.ofChange sectCutsWrong)

/-- 'deadboltlaw2.SectJoins': WHATEVER THE INPUT: true; the input reads as it did. -/
def sectJoinsSpec : ChangeSpec := { name := "sectJoins", fn := fun _ => fun
  | [d1, d2, d3, d4, d5, d6] => { results := [.lit (.bool true)], args := [d1, d2, d3, d4, d5, d6] }
  | _ => none }
def sectJoinsRow : OpenClaim := { program := "ytjlhajnficneoaa", sum := "90e8c85b76756f4869aa2a02fb287c5333a0fdb51c3d935d4aeac201a5dffdf2", func := "deadbolt/deadboltlaw2.SectJoins", spec := "sectJoins", apart := false }
def SectJoinsSaid : Prop := sectJoinsRow.holds Try.pinned (OpenSpec.ofChange sectJoinsSpec)

/-- ITS FALSE NEIGHBOUR: 'it returns false'. Refute it at one input. -/
def sectJoinsWrong : ChangeSpec := { name := "sectJoins", fn := fun _ => fun
  | [d1, d2, d3, d4, d5, d6] => { results := [.lit (.bool false)], args := [d1, d2, d3, d4, d5, d6] }
  | _ => none }
def SectJoinsWrongFalsely : Prop := sectJoinsRow.holds Try.pinned (OpenSpec.ofChange sectJoinsWrong)

/-- 'deadboltlaw2.SectTurn': WHATEVER THE INPUT: true; the input reads as it did. -/
def sectTurnSpec : ChangeSpec := { name := "sectTurn", fn := fun _ => fun
  | [d1, d2, d3, d4, d5, d6, d7] => { results := [.lit (.bool true)], args := [d1, d2, d3, d4, d5, d6, d7] }
  | _ => none }
def sectTurnRow : OpenClaim := { program := "ytjlhajnficneoaa", sum := "90e8c85b76756f4869aa2a02fb287c5333a0fdb51c3d935d4aeac201a5dffdf2", func := "deadbolt/deadboltlaw2.SectTurn", spec := "sectTurn", apart := false }
def SectTurnSaid : Prop := sectTurnRow.holds Try.pinned (OpenSpec.ofChange sectTurnSpec)

/-- ITS FALSE NEIGHBOUR: 'it returns false'. Refute it at one input. -/
def sectTurnWrong : ChangeSpec := { name := "sectTurn", fn := fun _ => fun
  | [d1, d2, d3, d4, d5, d6, d7] => { results := [.lit (.bool false)], args := [d1, d2, d3, d4, d5, d6, d7] }
  | _ => none }
def SectTurnWrongFalsely : Prop := sectTurnRow.holds Try.pinned (OpenSpec.ofChange sectTurnWrong)

/-- 'deadboltlaw2.SectLong': WHATEVER THE INPUT: true; the input reads as it did. -/
def sectLongSpec : ChangeSpec := { name := "sectLong", fn := fun _ => fun
  | [d1, d2] => { results := [.lit (.bool true)], args := [d1, d2] }
  | _ => none }
def sectLongRow : OpenClaim := { program := "ytjlhajnficneoaa", sum := "90e8c85b76756f4869aa2a02fb287c5333a0fdb51c3d935d4aeac201a5dffdf2", func := "deadbolt/deadboltlaw2.SectLong", spec := "sectLong", apart := false }
def SectLongSaid : Prop := sectLongRow.holds Try.pinned (OpenSpec.ofChange sectLongSpec)

/-- ITS FALSE NEIGHBOUR: 'it returns false'. Refute it at one input. -/
def sectLongWrong : ChangeSpec := { name := "sectLong", fn := fun _ => fun
  | [d1, d2] => { results := [.lit (.bool false)], args := [d1, d2] }
  | _ => none }
def SectLongWrongFalsely : Prop := sectLongRow.holds Try.pinned (OpenSpec.ofChange sectLongWrong)

/-- 'deadboltlaw2.SectOwn': WHATEVER THE INPUT: true; the input reads as it did. -/
def sectOwnSpec : ChangeSpec := { name := "sectOwn", fn := fun _ => fun
  | [d1, d2] => { results := [.lit (.bool true)], args := [d1, d2] }
  | _ => none }
def sectOwnRow : OpenClaim := { program := "ytjlhajnficneoaa", sum := "90e8c85b76756f4869aa2a02fb287c5333a0fdb51c3d935d4aeac201a5dffdf2", func := "deadbolt/deadboltlaw2.SectOwn", spec := "sectOwn", apart := false }
def SectOwnSaid : Prop := sectOwnRow.holds Try.pinned (OpenSpec.ofChange sectOwnSpec)

/-- ITS FALSE NEIGHBOUR: 'it returns false'. Refute it at one input. -/
def sectOwnWrong : ChangeSpec := { name := "sectOwn", fn := fun _ => fun
  | [d1, d2] => { results := [.lit (.bool false)], args := [d1, d2] }
  | _ => none }
def SectOwnWrongFalsely : Prop := sectOwnRow.holds Try.pinned (OpenSpec.ofChange sectOwnWrong)

/-- 'deadboltlaw2.SectKnown': WHATEVER THE INPUT: true; the input reads as it did. -/
def sectKnownSpec : ChangeSpec := { name := "sectKnown", fn := fun _ => fun
  | [d] => { results := [.lit (.bool true)], args := [d] }
  | _ => none }
def sectKnownRow : OpenClaim := { program := "ytjlhajnficneoaa", sum := "90e8c85b76756f4869aa2a02fb287c5333a0fdb51c3d935d4aeac201a5dffdf2", func := "deadbolt/deadboltlaw2.SectKnown", spec := "sectKnown", apart := false }
def SectKnownSaid : Prop := sectKnownRow.holds Try.pinned (OpenSpec.ofChange sectKnownSpec)

/-- ITS FALSE NEIGHBOUR: 'it returns false'. Refute it at one input. -/
def sectKnownWrong : ChangeSpec := { name := "sectKnown", fn := fun _ => fun
  | [d] => { results := [.lit (.bool false)], args := [d] }
  | _ => none }
def SectKnownWrongFalsely : Prop := sectKnownRow.holds Try.pinned (OpenSpec.ofChange sectKnownWrong)

/- THE SECOND FORM. 'bulk': how many values and letters a reading holds, each counted each time it is reached (what is shared counts as often as it is met; a slice's spare places count too). A statement '..UptoSaid' is the law's where the arguments, and the package variables that the reading takes, are together of bulk at most 1048576: NARROWER than '..Said'. Prove '..Said' where nothing that the law and all that it calls make is longer than what came in: it says more and counts as full. Else prove '..UptoSaid'. A law counts once. -/
mutual
def uptoBulk {H : Type} : DataW H → Nat
  | .lit (.string bytes) => bytes.length + 1
  | .lit _ => 1
  | .nil => 1
  | .ptr d => uptoBulk d + 1
  | .slice elems spare => uptoBulkAll elems + uptoBulkAll spare + 1
  | .agg parts => uptoBulkAll parts + 1
  | .iface _ d => uptoBulk d + 1
  | .map entries => uptoBulkEntries entries + 1
  | .held _ => 1
def uptoBulkAll {H : Type} : List (DataW H) → Nat
  | [] => 0
  | d :: r => uptoBulk d + uptoBulkAll r
def uptoBulkEntries {H : Type} : List (Lit × DataW H) → Nat
  | [] => 0
  | x :: r => uptoBulkEntry x + uptoBulkEntries r
def uptoBulkEntry {H : Type} : Lit × DataW H → Nat
  | (.string bytes, d) => bytes.length + uptoBulk d + 1
  | (_, d) => uptoBulk d + 1
 end
def uptoSmall : (H : Type) → List (DataW H) → Bool := fun _ ds => decide (uptoBulkAll ds ≤ 1048576)
def OpenSpec.upto (s : _root_.Go.ChangeSpec) : _root_.Go.OpenSpec := { _root_.Go.OpenSpec.ofChange s with cond := some uptoSmall }

/-- 'deadboltlaw2.SectSums', WHERE WHAT IT READS IS OF BULK AT MOST 1048576: true; the input reads as it did. -/
def sectSumsUptoRow : OpenClaim := { program := "ytjlhajnficneoaa", sum := "90e8c85b76756f4869aa2a02fb287c5333a0fdb51c3d935d4aeac201a5dffdf2", func := "deadbolt/deadboltlaw2.SectSums", spec := "sectSums", apart := false, narrowed := true }
def SectSumsUptoSaid : Prop := sectSumsUptoRow.holds Try.pinned (OpenSpec.upto sectSumsSpec)

/-- 'deadboltlaw2.SectBytes', WHERE WHAT IT READS IS OF BULK AT MOST 1048576: true; the input reads as it did. -/
def sectBytesUptoRow : OpenClaim := { program := "ytjlhajnficneoaa", sum := "90e8c85b76756f4869aa2a02fb287c5333a0fdb51c3d935d4aeac201a5dffdf2", func := "deadbolt/deadboltlaw2.SectBytes", spec := "sectBytes", apart := false, narrowed := true }
def SectBytesUptoSaid : Prop := sectBytesUptoRow.holds Try.pinned (OpenSpec.upto sectBytesSpec)

/-- 'deadboltlaw2.SectReads', WHERE WHAT IT READS IS OF BULK AT MOST 1048576: true; the input reads as it did. -/
def sectReadsUptoRow : OpenClaim := { program := "ytjlhajnficneoaa", sum := "90e8c85b76756f4869aa2a02fb287c5333a0fdb51c3d935d4aeac201a5dffdf2", func := "deadbolt/deadboltlaw2.SectReads", spec := "sectReads", apart := false, narrowed := true }
def SectReadsUptoSaid : Prop := sectReadsUptoRow.holds Try.pinned (OpenSpec.upto sectReadsSpec)

/-- 'deadboltlaw2.SectCuts', WHERE WHAT IT READS IS OF BULK AT MOST 1048576: true; the input reads as it did. -/
def sectCutsUptoRow : OpenClaim := { program := "ytjlhajnficneoaa", sum := "90e8c85b76756f4869aa2a02fb287c5333a0fdb51c3d935d4aeac201a5dffdf2", func := "deadbolt/deadboltlaw2.SectCuts", spec := "sectCuts", apart := false, narrowed := true }
def SectCutsUptoSaid : Prop := sectCutsUptoRow.holds Try.pinned (OpenSpec.upto sectCutsSpec)

/-- 'deadboltlaw2.SectJoins', WHERE WHAT IT READS IS OF BULK AT MOST 1048576: true; the input reads as it did. -/
def sectJoinsUptoRow : OpenClaim := { program := "ytjlhajnficneoaa", sum := "90e8c85b76756f4869aa2a02fb287c5333a0fdb51c3d935d4aeac201a5dffdf2", func := "deadbolt/deadboltlaw2.SectJoins", spec := "sectJoins", apart := false, narrowed := true }
def SectJoinsUptoSaid : Prop := sectJoinsUptoRow.holds Try.pinned (OpenSpec.upto sectJoinsSpec)

/-- 'deadboltlaw2.SectTurn', WHERE WHAT IT READS IS OF BULK AT MOST 1048576: true; the input reads as it did. -/
def sectTurnUptoRow : OpenClaim := { program := "ytjlhajnficneoaa", sum := "90e8c85b76756f4869aa2a02fb287c5333a0fdb51c3d935d4aeac201a5dffdf2", func := "deadbolt/deadboltlaw2.SectTurn", spec := "sectTurn", apart := false, narrowed := true }
def SectTurnUptoSaid : Prop := sectTurnUptoRow.holds Try.pinned (OpenSpec.upto sectTurnSpec)

/-- 'deadboltlaw2.SectLong', WHERE WHAT IT READS IS OF BULK AT MOST 1048576: true; the input reads as it did. -/
def sectLongUptoRow : OpenClaim := { program := "ytjlhajnficneoaa", sum := "90e8c85b76756f4869aa2a02fb287c5333a0fdb51c3d935d4aeac201a5dffdf2", func := "deadbolt/deadboltlaw2.SectLong", spec := "sectLong", apart := false, narrowed := true }
def SectLongUptoSaid : Prop := sectLongUptoRow.holds Try.pinned (OpenSpec.upto sectLongSpec)

/-- 'deadboltlaw2.SectOwn', WHERE WHAT IT READS IS OF BULK AT MOST 1048576: true; the input reads as it did. -/
def sectOwnUptoRow : OpenClaim := { program := "ytjlhajnficneoaa", sum := "90e8c85b76756f4869aa2a02fb287c5333a0fdb51c3d935d4aeac201a5dffdf2", func := "deadbolt/deadboltlaw2.SectOwn", spec := "sectOwn", apart := false, narrowed := true }
def SectOwnUptoSaid : Prop := sectOwnUptoRow.holds Try.pinned (OpenSpec.upto sectOwnSpec)

/-- 'deadboltlaw2.SectKnown', WHERE WHAT IT READS IS OF BULK AT MOST 1048576: true; the input reads as it did. -/
def sectKnownUptoRow : OpenClaim := { program := "ytjlhajnficneoaa", sum := "90e8c85b76756f4869aa2a02fb287c5333a0fdb51c3d935d4aeac201a5dffdf2", func := "deadbolt/deadboltlaw2.SectKnown", spec := "sectKnown", apart := false, narrowed := true }
def SectKnownUptoSaid : Prop := sectKnownUptoRow.holds Try.pinned (OpenSpec.upto sectKnownSpec)

end Rows
end Go.Proofs.Ytjlhajnficneoaa
