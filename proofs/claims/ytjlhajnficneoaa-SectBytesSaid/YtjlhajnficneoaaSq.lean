/- The walk of SectBytes, its parameters as the row has them. -/
import Derived.Test.YtjlhajnficneoaaSo
namespace Go.Proofs.Ytjlhajnficneoaa
set_option linter.unusedVariables false
open Go.RowKit
theorem sectBytes_any (w : World) (gen : Int) (h0 : (Lit.int .i64 gen).wf = true) (rc : Int) (h1 : (Lit.int .i64 rc).wf = true) (n : Int) (h2 : (Lit.int .i64 n).wf = true) (ofn : Int) (h3 : (Lit.int .i64 ofn).wf = true)
    (A : Option Addr) (c : Nat) (l : List Nat) (hr : Rd w A (bs l)) (h8 : Bytes8 l) (hn : l.length ≤ c) (hc : c ≤ 9223372036854775807) (hA : A = none → l.length = 0 ∧ c = 0)
    (which : Int) (h5 : (Lit.int .i64 which).wf = true) (raw : Int) (h6 : (Lit.int .i64 raw).wf = true) :
    Calls Try.prog 4 #[.int .i64 gen, .int .i64 rc, .int .i64 n, .int .i64 ofn, .slice A l.length c, .int .i64 which, .int .i64 raw] w fun e w' => e = .returned (.bool true) ∧ Below w.heap.size w w' :=
  bytes_walk w gen rc n ofn A c l which raw hr h8 hn hc hA
end Go.Proofs.Ytjlhajnficneoaa
