-- Cut by pack.py, a program of this session; not trusted: Lean checks it.
import Derived.Test.YtlplaidcdocbmaaZM0
/- The closure inside match.right. -/
namespace Go.Proofs.Ytlplaidcdocbmaa.Mat
open Go.RowKit Go.Proofs.YtlplaidcdocbmaaW.PrintWords Go.Proofs.YtlplaidcdocbmaaW.PrintLast Go.Proofs.YtlplaidcdocbmaaW.PrintMore
set_option linter.unusedVariables false
set_option linter.unusedSimpArgs false

def rdL (xs : List (List Int)) (i : Int) : List Int := xs.getD i.toNat []
def rowOk (cost : List (List Int)) (row : List Int) : Bool := decide (row.length = (rdL cost 0).length) && decide (row.length ≤ 12) && decide (cost.length ≤ row.length) && row.all okc

/-- What match.right tells. -/
def right (cost : List (List Int)) : Bool := decide (cost.length ≤ 12) && cost.all (rowOk cost)

end Go.Proofs.Ytlplaidcdocbmaa.Mat
