/-
  No cell of these rows narrows 'for every input' (looked for: loops, veiled, ifaces, maps, wideKeys, modest, calm, conditions, laid).
  DERIVED. THE GIVEN ROWS OF THIS SEAT. 7 by the template 'for every input the law returns true; each argument reads behind the call as it read before'; 0 by the template 'total and deterministic' (their statements: YtdabpeoaleopmaaTotals.lean).
  GIVEN WITH THE SEED: the statements are not yours to turn. If you find one false, say at which input.
  Laid BY PROGRAM, IN A SANDBOX (cutbox-rows.mjs): the forced cells as the released guide's own fill.sh prints them over the translation 255c62c158c4a17e… (all of the seat's roots in one cut). By AI agents, Wed Nov 11 2026. No macro, syntax, notation, axiom, sorry.
-/
import Derived.Test.YtdabpeoaleopmaaChecked
import GoSem.Claim
import GoSem.ClaimJoined
import GoSem.ClaimMapViews
import Derived.JoinedTies
import Derived.KernelRfl
namespace Go.Proofs.Ytdabpeoaleopmaa
/- THE CELL 'sum', in the pinned program and in every row, IS THE sha256 OF THE DUMP (.gsa) THAT YtdabpeoaleopmaaProg.lean LOADS. Nothing in Lean hashes anything: it is a label: what it is worth is what the hold of that sum in a sandbox is worth. -/
noncomputable def Try.pinned : Pinned := { name := "ytdabpeoaleopmaa", sum := "255c62c158c4a17ea90dfc7a10c0816c12a8ca6a1c0b24995bfc2df8a3c56268", checked := Try.checked }
namespace Rows
def none {H : Type} : Left H := { results := [], args := [] }

/-- 'deadboltlaw9.EffRules': WHATEVER THE INPUT: true; the input reads as it did. -/
def effRulesSpec : ChangeSpec := { name := "effRules", fn := fun _ => fun
  | [d1, d2, d3, d4] => { results := [.lit (.bool true)], args := [d1, d2, d3, d4] }
  | _ => none }
def effRulesRow : OpenClaim := { program := "ytdabpeoaleopmaa", sum := "255c62c158c4a17ea90dfc7a10c0816c12a8ca6a1c0b24995bfc2df8a3c56268", func := "deadbolt/deadboltlaw9.EffRules", spec := "effRules", inPlace := ["internal/abi.NoEscape", "internal/bytealg.MakeNoZero"], unfollowed := true, recurses := true, apart := false }
def EffRulesSaid : Prop := effRulesRow.holds Try.pinned (OpenSpec.ofChange effRulesSpec)

/-- ITS FALSE NEIGHBOUR: 'it returns false'. Refute it at one input. -/
def effRulesWrong : ChangeSpec := { name := "effRules", fn := fun _ => fun
  | [d1, d2, d3, d4] => { results := [.lit (.bool false)], args := [d1, d2, d3, d4] }
  | _ => none }
def EffRulesWrongFalsely : Prop := effRulesRow.holds Try.pinned (OpenSpec.ofChange effRulesWrong)

/-- 'deadboltlaw9.EffTwice': WHATEVER THE INPUT: true; the input reads as it did. -/
def effTwiceSpec : ChangeSpec := { name := "effTwice", fn := fun _ => fun
  | [d1, d2] => { results := [.lit (.bool true)], args := [d1, d2] }
  | _ => none }
def effTwiceRow : OpenClaim := { program := "ytdabpeoaleopmaa", sum := "255c62c158c4a17ea90dfc7a10c0816c12a8ca6a1c0b24995bfc2df8a3c56268", func := "deadbolt/deadboltlaw9.EffTwice", spec := "effTwice", inPlace := ["internal/abi.NoEscape", "internal/bytealg.MakeNoZero"], unfollowed := true, recurses := true, apart := false }
def EffTwiceSaid : Prop := effTwiceRow.holds Try.pinned (OpenSpec.ofChange effTwiceSpec)

/-- ITS FALSE NEIGHBOUR: 'it returns false'. Refute it at one input. -/
def effTwiceWrong : ChangeSpec := { name := "effTwice", fn := fun _ => fun
  | [d1, d2] => { results := [.lit (.bool false)], args := [d1, d2] }
  | _ => none }
def EffTwiceWrongFalsely : Prop := effTwiceRow.holds Try.pinned (OpenSpec.ofChange effTwiceWrong)

/-- 'deadboltlaw9.EffRises': WHATEVER THE INPUT: true; the input reads as it did. -/
def effRisesSpec : ChangeSpec := { name := "effRises", fn := fun _ => fun
  | [d1, d2, d3, d4] => { results := [.lit (.bool true)], args := [d1, d2, d3, d4] }
  | _ => none }
def effRisesRow : OpenClaim := { program := "ytdabpeoaleopmaa", sum := "255c62c158c4a17ea90dfc7a10c0816c12a8ca6a1c0b24995bfc2df8a3c56268", func := "deadbolt/deadboltlaw9.EffRises", spec := "effRises", inPlace := ["internal/abi.NoEscape", "internal/bytealg.MakeNoZero"], unfollowed := true, recurses := true, apart := false }
def EffRisesSaid : Prop := effRisesRow.holds Try.pinned (OpenSpec.ofChange effRisesSpec)

/-- ITS FALSE NEIGHBOUR: 'it returns false'. Refute it at one input. -/
def effRisesWrong : ChangeSpec := { name := "effRises", fn := fun _ => fun
  | [d1, d2, d3, d4] => { results := [.lit (.bool false)], args := [d1, d2, d3, d4] }
  | _ => none }
def EffRisesWrongFalsely : Prop := effRisesRow.holds Try.pinned (OpenSpec.ofChange effRisesWrong)

/-- 'deadboltlaw9.EffMeans': WHATEVER THE INPUT: true; the input reads as it did. -/
def effMeansSpec : ChangeSpec := { name := "effMeans", fn := fun _ => fun
  | [d1, d2, d3, d4] => { results := [.lit (.bool true)], args := [d1, d2, d3, d4] }
  | _ => none }
def effMeansRow : OpenClaim := { program := "ytdabpeoaleopmaa", sum := "255c62c158c4a17ea90dfc7a10c0816c12a8ca6a1c0b24995bfc2df8a3c56268", func := "deadbolt/deadboltlaw9.EffMeans", spec := "effMeans", inPlace := ["internal/abi.NoEscape", "internal/bytealg.MakeNoZero"], unfollowed := true, recurses := true, apart := false }
def EffMeansSaid : Prop := effMeansRow.holds Try.pinned (OpenSpec.ofChange effMeansSpec)

/-- ITS FALSE NEIGHBOUR: 'it returns false'. Refute it at one input. -/
def effMeansWrong : ChangeSpec := { name := "effMeans", fn := fun _ => fun
  | [d1, d2, d3, d4] => { results := [.lit (.bool false)], args := [d1, d2, d3, d4] }
  | _ => none }
def EffMeansWrongFalsely : Prop := effMeansRow.holds Try.pinned (OpenSpec.ofChange effMeansWrong)

/-- 'deadboltlaw9.EffPuts': WHATEVER THE INPUT: true; the input reads as it did. -/
def effPutsSpec : ChangeSpec := { name := "effPuts", fn := fun _ => fun
  | [d1, d2, d3, d4] => { results := [.lit (.bool true)], args := [d1, d2, d3, d4] }
  | _ => none }
def effPutsRow : OpenClaim := { program := "ytdabpeoaleopmaa", sum := "255c62c158c4a17ea90dfc7a10c0816c12a8ca6a1c0b24995bfc2df8a3c56268", func := "deadbolt/deadboltlaw9.EffPuts", spec := "effPuts", inPlace := ["internal/abi.NoEscape", "internal/bytealg.MakeNoZero"], unfollowed := true, recurses := true, apart := false }
def EffPutsSaid : Prop := effPutsRow.holds Try.pinned (OpenSpec.ofChange effPutsSpec)

/-- ITS FALSE NEIGHBOUR: 'it returns false'. Refute it at one input. -/
def effPutsWrong : ChangeSpec := { name := "effPuts", fn := fun _ => fun
  | [d1, d2, d3, d4] => { results := [.lit (.bool false)], args := [d1, d2, d3, d4] }
  | _ => none }
def EffPutsWrongFalsely : Prop := effPutsRow.holds Try.pinned (OpenSpec.ofChange effPutsWrong)

/-- 'deadboltlaw9.EffAll': WHATEVER THE INPUT: true; the input reads as it did. -/
def effAllSpec : ChangeSpec := { name := "effAll", fn := fun _ => fun
  | [d1, d2, d3, d4, d5] => { results := [.lit (.bool true)], args := [d1, d2, d3, d4, d5] }
  | _ => none }
def effAllRow : OpenClaim := { program := "ytdabpeoaleopmaa", sum := "255c62c158c4a17ea90dfc7a10c0816c12a8ca6a1c0b24995bfc2df8a3c56268", func := "deadbolt/deadboltlaw9.EffAll", spec := "effAll", inPlace := ["internal/abi.NoEscape", "internal/bytealg.MakeNoZero"], unfollowed := true, recurses := true, apart := false }
def EffAllSaid : Prop := effAllRow.holds Try.pinned (OpenSpec.ofChange effAllSpec)

/-- ITS FALSE NEIGHBOUR: 'it returns false'. Refute it at one input. -/
def effAllWrong : ChangeSpec := { name := "effAll", fn := fun _ => fun
  | [d1, d2, d3, d4, d5] => { results := [.lit (.bool false)], args := [d1, d2, d3, d4, d5] }
  | _ => none }
def EffAllWrongFalsely : Prop := effAllRow.holds Try.pinned (OpenSpec.ofChange effAllWrong)

/-- 'deadboltlaw9.EffKnown': WHATEVER THE INPUT: true; the input reads as it did. -/
def effKnownSpec : ChangeSpec := { name := "effKnown", fn := fun _ => fun
  | [d] => { results := [.lit (.bool true)], args := [d] }
  | _ => none }
def effKnownRow : OpenClaim := { program := "ytdabpeoaleopmaa", sum := "255c62c158c4a17ea90dfc7a10c0816c12a8ca6a1c0b24995bfc2df8a3c56268", func := "deadbolt/deadboltlaw9.EffKnown", spec := "effKnown", inPlace := ["internal/abi.NoEscape", "internal/bytealg.MakeNoZero"], unfollowed := true, recurses := true, apart := false }
def EffKnownSaid : Prop := effKnownRow.holds Try.pinned (OpenSpec.ofChange effKnownSpec)

/-- ITS FALSE NEIGHBOUR: 'it returns false'. Refute it at one input. -/
def effKnownWrong : ChangeSpec := { name := "effKnown", fn := fun _ => fun
  | [d] => { results := [.lit (.bool false)], args := [d] }
  | _ => none }
def EffKnownWrongFalsely : Prop := effKnownRow.holds Try.pinned (OpenSpec.ofChange effKnownWrong)

/- THE SECOND FORM. 'bulk': how many values and letters a reading holds, each counted each time it is reached (what is shared counts as often as it is met; a slice's spare places count too). A statement '..UptoSaid' is the law's where the arguments, and the package variables that the reading takes, are together of bulk at most 1048576: NARROWER than '..Said'. Prove '..Said' where nothing that the law and all that it calls make is longer than what came in: it says more and counts as full. Else prove '..UptoSaid'. A law counts once. -/
mutual
def uptoBulk {H : Type} : DataW H → Nat
  | .lit (.string bytes) => bytes.length + 1
  | .lit _ => 1
  | .nil => 1
  | .ptr d => uptoBulk d + 1
  | .slice elems spare => uptoBulkAll elems + uptoBulkAll spare + 1
  | .agg parts => uptoBulkAll parts + 1
  | .iface _ d => uptoBulk d + 1
  | .map entries => uptoBulkEntries entries + 1
  | .held _ => 1
def uptoBulkAll {H : Type} : List (DataW H) → Nat
  | [] => 0
  | d :: r => uptoBulk d + uptoBulkAll r
def uptoBulkEntries {H : Type} : List (Lit × DataW H) → Nat
  | [] => 0
  | x :: r => uptoBulkEntry x + uptoBulkEntries r
def uptoBulkEntry {H : Type} : Lit × DataW H → Nat
  | (.string bytes, d) => bytes.length + uptoBulk d + 1
  | (_, d) => uptoBulk d + 1
 end
def uptoSmall : (H : Type) → List (DataW H) → Bool := fun _ ds => decide (uptoBulkAll ds ≤ 1048576)
def OpenSpec.upto (s : _root_.Go.ChangeSpec) : _root_.Go.OpenSpec := { _root_.Go.OpenSpec.ofChange s with cond := some uptoSmall }

/-- 'deadboltlaw9.EffRules', WHERE WHAT IT READS IS OF BULK AT MOST 1048576: true; the input reads as it did. -/
def effRulesUptoRow : OpenClaim := { program := "ytdabpeoaleopmaa", sum := "255c62c158c4a17ea90dfc7a10c0816c12a8ca6a1c0b24995bfc2df8a3c56268", func := "deadbolt/deadboltlaw9.EffRules", spec := "effRules", inPlace := ["internal/abi.NoEscape", "internal/bytealg.MakeNoZero"], unfollowed := true, recurses := true, apart := false, narrowed := true }
def EffRulesUptoSaid : Prop := effRulesUptoRow.holds Try.pinned (OpenSpec.upto effRulesSpec)

/-- 'deadboltlaw9.EffTwice', WHERE WHAT IT READS IS OF BULK AT MOST 1048576: true; the input reads as it did. -/
def effTwiceUptoRow : OpenClaim := { program := "ytdabpeoaleopmaa", sum := "255c62c158c4a17ea90dfc7a10c0816c12a8ca6a1c0b24995bfc2df8a3c56268", func := "deadbolt/deadboltlaw9.EffTwice", spec := "effTwice", inPlace := ["internal/abi.NoEscape", "internal/bytealg.MakeNoZero"], unfollowed := true, recurses := true, apart := false, narrowed := true }
def EffTwiceUptoSaid : Prop := effTwiceUptoRow.holds Try.pinned (OpenSpec.upto effTwiceSpec)

/-- 'deadboltlaw9.EffRises', WHERE WHAT IT READS IS OF BULK AT MOST 1048576: true; the input reads as it did. -/
def effRisesUptoRow : OpenClaim := { program := "ytdabpeoaleopmaa", sum := "255c62c158c4a17ea90dfc7a10c0816c12a8ca6a1c0b24995bfc2df8a3c56268", func := "deadbolt/deadboltlaw9.EffRises", spec := "effRises", inPlace := ["internal/abi.NoEscape", "internal/bytealg.MakeNoZero"], unfollowed := true, recurses := true, apart := false, narrowed := true }
def EffRisesUptoSaid : Prop := effRisesUptoRow.holds Try.pinned (OpenSpec.upto effRisesSpec)

/-- 'deadboltlaw9.EffMeans', WHERE WHAT IT READS IS OF BULK AT MOST 1048576: true; the input reads as it did. -/
def effMeansUptoRow : OpenClaim := { program := "ytdabpeoaleopmaa", sum := "255c62c158c4a17ea90dfc7a10c0816c12a8ca6a1c0b24995bfc2df8a3c56268", func := "deadbolt/deadboltlaw9.EffMeans", spec := "effMeans", inPlace := ["internal/abi.NoEscape", "internal/bytealg.MakeNoZero"], unfollowed := true, recurses := true, apart := false, narrowed := true }
def EffMeansUptoSaid : Prop := effMeansUptoRow.holds Try.pinned (OpenSpec.upto effMeansSpec)

/-- 'deadboltlaw9.EffPuts', WHERE WHAT IT READS IS OF BULK AT MOST 1048576: true; the input reads as it did. -/
def effPutsUptoRow : OpenClaim := { program := "ytdabpeoaleopmaa", sum := "255c62c158c4a17ea90dfc7a10c0816c12a8ca6a1c0b24995bfc2df8a3c56268", func := "deadbolt/deadboltlaw9.EffPuts", spec := "effPuts", inPlace := ["internal/abi.NoEscape", "internal/bytealg.MakeNoZero"], unfollowed := true, recurses := true, apart := false, narrowed := true }
def EffPutsUptoSaid : Prop := effPutsUptoRow.holds Try.pinned (OpenSpec.upto effPutsSpec)

/-- 'deadboltlaw9.EffAll', WHERE WHAT IT READS IS OF BULK AT MOST 1048576: true; the input reads as it did. -/
def effAllUptoRow : OpenClaim := { program := "ytdabpeoaleopmaa", sum := "255c62c158c4a17ea90dfc7a10c0816c12a8ca6a1c0b24995bfc2df8a3c56268", func := "deadbolt/deadboltlaw9.EffAll", spec := "effAll", inPlace := ["internal/abi.NoEscape", "internal/bytealg.MakeNoZero"], unfollowed := true, recurses := true, apart := false, narrowed := true }
def EffAllUptoSaid : Prop := effAllUptoRow.holds Try.pinned (OpenSpec.upto effAllSpec)

/-- 'deadboltlaw9.EffKnown', WHERE WHAT IT READS IS OF BULK AT MOST 1048576: true; the input reads as it did. -/
def effKnownUptoRow : OpenClaim := { program := "ytdabpeoaleopmaa", sum := "255c62c158c4a17ea90dfc7a10c0816c12a8ca6a1c0b24995bfc2df8a3c56268", func := "deadbolt/deadboltlaw9.EffKnown", spec := "effKnown", inPlace := ["internal/abi.NoEscape", "internal/bytealg.MakeNoZero"], unfollowed := true, recurses := true, apart := false, narrowed := true }
def EffKnownUptoSaid : Prop := effKnownUptoRow.holds Try.pinned (OpenSpec.upto effKnownSpec)

end Rows
end Go.Proofs.Ytdabpeoaleopmaa
