-- Cut by pack.py, a program of this session; not trusted: Lean checks it.
import Derived.Lib.QuietBelowIn
/- A region that draws its order, in a round of a range over a function: walked once, where it holds no defer statement and its callees end in Below. -/
namespace Go.Proofs.Ytlplaidcdocbmaa.Core
open Go Go.Sort Go.RowKit
variable {F : Fence} {n : Nat} {P : Program} {C : World → Prop} {ops : Array Oper} {md : Region.Mode}

end Go.Proofs.Ytlplaidcdocbmaa.Core
