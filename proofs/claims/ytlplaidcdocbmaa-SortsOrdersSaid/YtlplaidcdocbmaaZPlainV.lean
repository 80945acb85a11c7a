-- Cut by pack.py, a program of this session; not trusted: Lean checks it.
import Derived.Test.YtlplaidcdocbmaaZPlainU
/- How many of each level are scanned. -/
namespace Go.Proofs.Ytlplaidcdocbmaa.Srt
open Go Go.Proofs.Ytlplaidcdocbmaa.Core Go.Proofs.Ytlplaidcdocbmaa.Mat
set_option linter.unusedVariables false
set_option linter.unusedSimpArgs false
theorem lev_le : ∀ d : Nat, d < 5 → ∀ s : Nat, s < 2 ^ d → lev s ≤ d := by decide +kernel
end Go.Proofs.Ytlplaidcdocbmaa.Srt
