-- Cut by pack.py, a program of this session; not trusted: Lean checks it.
import Derived.Test.YtlplaidcdocbmaaZCore13
import Derived.Test.YtlplaidcdocbmaaZPLatticeSetsx2
/- LatticeSets: its plain side. -/
namespace Go.Proofs.Ytlplaidcdocbmaa.Pure
open Go.RowKit Go.Proofs.Ytlplaidcdocbmaa.PLatticeSets Go.Proofs.YtlplaidcdocbmaaW.PrintWords Go.Proofs.YtlplaidcdocbmaaW.PrintLast Go.Proofs.YtlplaidcdocbmaaW.PrintMore Go.Proofs.Ytlplaidcdocbmaa.Core
set_option linter.unusedVariables false
set_option linter.unusedSimpArgs false
set_option linter.unusedSectionVars false
namespace LatticeSetsp
theorem within_f (a n : Int) (hn : 0 < n) (h2 : n ≤ 4611686018427387904) : ∃ z : Nat, hypercubelaw8_within.f a n = some (z : Int) ∧ (z : Int) < n := by
  have h1 := Int.tmod_lt_of_pos a hn
  have h3 := Int.tmod_lt_of_pos (-a) hn
  rw [Int.neg_tmod] at h3
  have key : ∃ z : Int, hypercubelaw8_within.f a n = some z ∧ 0 ≤ z ∧ z < n := by
    unfold hypercubelaw8_within.f
    rw [if_neg (by omega)]
    by_cases h : Int.tmod a n < 0
    · refine ⟨Int.tmod a n + n, ?_, by omega, by omega⟩
      rw [if_pos h]
      congr 1
      unfold wrap64
      omega
    · refine ⟨Int.tmod a n, ?_, by omega, by omega⟩
      rw [if_neg h]
  obtain ⟨z, h, h0, hz⟩ := key
  obtain ⟨m, rfl⟩ := Int.eq_ofNat_of_zero_le h0
  exact ⟨m, h, hz⟩

theorem known_f : hypercubelaw8_known.f = some true := by decide +kernel
def tl (k : Nat) (t126 : Int) (t127 : List Int) : Option Bool := (if 0 ≤ (IntKind.u64.wrap (wrap64 (1 + t126))) then (if (t127.length : Int) = (shl .i64 1 (IntKind.u64.wrap (wrap64 (1 + t126)))) then (if 0 ≤ (t127.length : Int) then (if ((t127.length : Int) : Int).toNat ≤ 281474976710656 then (hypercubelaw8_LatticeSets.l0 k (wrap64 (1 + t126)) t127 (List.replicate ((t127.length : Int) : Int).toNat false) 0) else (none)) else (none)) else (some false)) else (none))
theorem small : ∀ z : Nat, z < 4 → ((lattice_Sets.f (wrap64 (1 + (z : Int)))).bind fun t127 => tl 120 (z : Int) t127) = some true := by decide +kernel
end LatticeSetsp
open LatticeSetsp
theorem LatticeSets : hypercubelaw8_LatticeSets.Pure := by
  intro a0 _
  obtain ⟨z, hz, hzl⟩ := LatticeSetsp.within_f a0 4 (by decide) (by decide)
  refine ⟨120, ?_⟩
  have h := LatticeSetsp.small z (by omega)
  unfold hypercubelaw8_LatticeSets.f
  rw [LatticeSetsp.known_f, Option.bind_some, if_pos rfl, hz, Option.bind_some]
  exact h

end Go.Proofs.Ytlplaidcdocbmaa.Pure
