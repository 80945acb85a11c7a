-- Cut by pack.py, a program of this session; not trusted: Lean checks it.
import Derived.Test.YtlplaidcdocbmaaZCore12
import Derived.Test.YtlplaidcdocbmaaZV0
/- Sizes and costs of sets as plain numbers. -/
namespace Go.Proofs.Ytlplaidcdocbmaa.Core
open Go.RowKit Go.Proofs.YtlplaidcdocbmaaW.PrintWords Go.Proofs.YtlplaidcdocbmaaW.PrintMore
set_option linter.unusedVariables false
set_option linter.unusedSimpArgs false

def ones (cs : List Int) (s : Int) : List Nat := (List.range cs.length).filter fun i => s.toNat.testBit i
end Go.Proofs.Ytlplaidcdocbmaa.Core
