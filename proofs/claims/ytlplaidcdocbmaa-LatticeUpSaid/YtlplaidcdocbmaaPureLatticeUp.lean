/- LatticeUp: its plain side. -/
import Derived.Test.YtlplaidcdocbmaaCore13
import Derived.Test.YtlplaidcdocbmaaPLatticeUpx2
namespace Go.Proofs.Ytlplaidcdocbmaa.Pure
open Go.RowKit Go.Proofs.Ytlplaidcdocbmaa.PLatticeUp Go.Proofs.YtlplaidcdocbmaaW.PrintWords Go.Proofs.YtlplaidcdocbmaaW.PrintLast Go.Proofs.YtlplaidcdocbmaaW.PrintMore Go.Proofs.Ytlplaidcdocbmaa.Core
set_option linter.unusedVariables false
set_option linter.unusedSimpArgs false
namespace LatticeUpp
theorem within_f (a n : Int) (hn : 0 < n) (h2 : n ≤ 4611686018427387904) : ∃ z : Nat, hypercubelaw8_within.f a n = some (z : Int) ∧ (z : Int) < n := by
  have h1 := Int.tmod_lt_of_pos a hn
  have h3 := Int.tmod_lt_of_pos (-a) hn
  rw [Int.neg_tmod] at h3
  have key : ∃ z : Int, hypercubelaw8_within.f a n = some z ∧ 0 ≤ z ∧ z < n := by
    unfold hypercubelaw8_within.f
    rw [if_neg (by omega)]
    by_cases h : Int.tmod a n < 0
    · refine ⟨Int.tmod a n + n, ?_, by omega, by omega⟩
      rw [if_pos h]
      congr 1
      unfold wrap64
      omega
    · refine ⟨Int.tmod a n, ?_, by omega, by omega⟩
      rw [if_neg h]
  obtain ⟨z, h, h0, hz⟩ := key
  obtain ⟨m, rfl⟩ := Int.eq_ofNat_of_zero_le h0
  exact ⟨m, h, hz⟩

theorem known_f : hypercubelaw8_known.f = some true := by decide +kernel
def rest (k : Nat) (t126 : Int) : Option Bool := (if 0 ≤ (IntKind.u64.wrap (wrap64 (1 + t126))) then (if 0 ≤ (shl .i64 1 (IntKind.u64.wrap (wrap64 (1 + t126)))) then (if (shl .i64 1 (IntKind.u64.wrap (wrap64 (1 + t126))) : Int).toNat ≤ 35184372088832 then (hypercubelaw8_LatticeUp.l0 k (wrap64 (1 + t126)) (List.replicate (shl .i64 1 (IntKind.u64.wrap (wrap64 (1 + t126))) : Int).toNat 0) 0) else (none)) else (none)) else (none))
theorem unf (K : Nat) (a0 : Int) (z0 : Nat) (h0 : hypercubelaw8_within.f a0 4 = some (z0 : Int)) : hypercubelaw8_LatticeUp.f K a0 = rest K z0 := by
  unfold hypercubelaw8_LatticeUp.f
  rw [known_f, Option.bind_some, if_pos rfl, h0, Option.bind_some]
  unfold rest
  rfl
theorem key : ∀ z0 : Nat, z0 < 4 → rest 200 z0 = some true := by decide +kernel
end LatticeUpp
open LatticeUpp
theorem LatticeUp : hypercubelaw8_LatticeUp.Pure := by
  intro a0 _
  obtain ⟨z0, h0, u0⟩ := within_f a0 4 (by decide) (by decide)
  exact ⟨200, (unf 200 a0 z0 h0).trans (key z0 (by omega))⟩

end Go.Proofs.Ytlplaidcdocbmaa.Pure
