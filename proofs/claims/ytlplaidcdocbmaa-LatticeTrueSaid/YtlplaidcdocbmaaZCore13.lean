-- Cut by pack.py, a program of this session; not trusted: Lean checks it.
import Derived.Test.YtlplaidcdocbmaaZCore12
import Derived.Test.YtlplaidcdocbmaaZV0
/- Sizes and costs of sets as plain numbers. -/
namespace Go.Proofs.Ytlplaidcdocbmaa.Core
open Go.RowKit Go.Proofs.YtlplaidcdocbmaaW.PrintWords Go.Proofs.YtlplaidcdocbmaaW.PrintMore
set_option linter.unusedVariables false
set_option linter.unusedSimpArgs false

def ones (cs : List Int) (s : Int) : List Nat := (List.range cs.length).filter fun i => s.toNat.testBit i
theorem bit_fin : ∀ s : Nat, s < 16 → ∀ i : Nat, i < 4 → 0 ≤ IntKind.u64.wrap (i : Int) ∧ decide (Go.bits .and .i64 (shr .i64 (s : Int) (IntKind.u64.wrap (i : Int))) 1 = 1) = s.testBit i := by decide +kernel
theorem next_fin (i : Nat) (h : i ≤ 1000) : wrap64 ((i : Int) + 1) = ((i + 1 : Nat) : Int) := by unfold wrap64; omega
theorem rdn (xs : List Int) (k : Nat) : rd xs (k : Int) = xs.getD k 0 := by simp [rd]
theorem w64 (x : Int) (h0 : -9223372036854775808 ≤ x) (h : x ≤ 9223372036854775807) : wrap64 x = x := by unfold wrap64; omega
end Go.Proofs.Ytlplaidcdocbmaa.Core
