/- SectJoins: the eight ways together. -/
import Derived.Test.YtjlhajnficneoaaTh0
import Derived.Test.YtjlhajnficneoaaTh1
import Derived.Test.YtjlhajnficneoaaTh2
import Derived.Test.YtjlhajnficneoaaTh3
import Derived.Test.YtjlhajnficneoaaTh4
import Derived.Test.YtjlhajnficneoaaTh5
import Derived.Test.YtjlhajnficneoaaTh6
import Derived.Test.YtjlhajnficneoaaTh7
import Derived.Sort.AtCall
namespace Go.Proofs.Ytjlhajnficneoaa
set_option linter.unusedVariables false
set_option linter.unusedSimpArgs false
open Go.RowKit

/-- the same, its parameters as the row has them -/
theorem sectJoins_any (w : World) (A0 : Option Addr) (c0 : Nat) (b : List Nat) (hr0 : Rd w A0 (bs b)) (h80 : Bytes8 b) (hn0 : b.length ≤ c0) (hc0 : c0 ≤ 9223372036854775807) (hA0 : A0 = none → b.length = 0 ∧ c0 = 0)
    (A1 : Option Addr) (c1 : Nat) (l : List Nat) (hr1 : Rd w A1 (bs l)) (h81 : Bytes8 l) (hn1 : l.length ≤ c1) (hc1 : c1 ≤ 9223372036854775807) (hA1 : A1 = none → l.length = 0 ∧ c1 = 0)
    (which : Int) (h2 : (Lit.int .i64 which).wf = true) (at_ : Int) (h3 : (Lit.int .i64 at_).wf = true) (bt : Int) (h4 : (Lit.int .u8 bt).wf = true) (gen : Int) (h5 : (Lit.int .i64 gen).wf = true) :
    Calls Try.prog 7 #[.slice A0 b.length c0, .slice A1 l.length c1, .int .i64 which, .int .i64 at_, .int .u8 bt, .int .i64 gen] w fun e w' => e = .returned (.bool true) ∧ Below w.heap.size w w' := by
  have hb : 0 ≤ bt ∧ bt < 256 := by
    have e1 : IntKind.u8.min = 0 := rfl
    have e2 : IntKind.u8.max = 255 := rfl
    simp [Lit.wf, e1, e2] at h4
    omega
  have h8 : which % 8 = 0 ∨ which % 8 = 1 ∨ which % 8 = 2 ∨ which % 8 = 3 ∨ which % 8 = 4 ∨ which % 8 = 5 ∨ which % 8 = 6 ∨ which % 8 = 7 := by omega
  rcases h8 with h | h | h | h | h | h | h | h
  · exact joins_walk0 w A0 c0 b hr0 h80 hn0 hc0 hA0 A1 c1 l hr1 h81 hn1 hc1 hA1 which at_ bt hb.1 hb.2 gen h
  · exact joins_walk1 w A0 c0 b hr0 h80 hn0 hc0 hA0 A1 c1 l hr1 h81 hn1 hc1 hA1 which at_ bt hb.1 hb.2 gen h
  · exact joins_walk2 w A0 c0 b hr0 h80 hn0 hc0 hA0 A1 c1 l hr1 h81 hn1 hc1 hA1 which at_ bt hb.1 hb.2 gen h
  · exact joins_walk3 w A0 c0 b hr0 h80 hn0 hc0 hA0 A1 c1 l hr1 h81 hn1 hc1 hA1 which at_ bt hb.1 hb.2 gen h
  · exact joins_walk4 w A0 c0 b hr0 h80 hn0 hc0 hA0 A1 c1 l hr1 h81 hn1 hc1 hA1 which at_ bt hb.1 hb.2 gen h
  · exact joins_walk5 w A0 c0 b hr0 h80 hn0 hc0 hA0 A1 c1 l hr1 h81 hn1 hc1 hA1 which at_ bt hb.1 hb.2 gen h
  · exact joins_walk6 w A0 c0 b hr0 h80 hn0 hc0 hA0 A1 c1 l hr1 h81 hn1 hc1 hA1 which at_ bt hb.1 hb.2 gen h
  · exact joins_walk7 w A0 c0 b hr0 h80 hn0 hc0 hA0 A1 c1 l hr1 h81 hn1 hc1 hA1 which at_ bt hb.1 hb.2 gen h
end Go.Proofs.Ytjlhajnficneoaa
