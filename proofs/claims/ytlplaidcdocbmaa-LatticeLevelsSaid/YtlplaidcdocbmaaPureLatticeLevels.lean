/- LatticeLevels: its plain side. -/
import Derived.Test.YtlplaidcdocbmaaPLatticeLevelsx1
namespace Go.Proofs.Ytlplaidcdocbmaa.Pure
open Go.RowKit Go.Proofs.Ytlplaidcdocbmaa.PLatticeLevels Go.Proofs.YtlplaidcdocbmaaW.PrintWords Go.Proofs.YtlplaidcdocbmaaW.PrintLast Go.Proofs.YtlplaidcdocbmaaW.PrintMore
set_option linter.unusedVariables false
set_option linter.unusedSimpArgs false
namespace LatticeLevelsp
theorem within_f (a n : Int) (hn : 0 < n) (h2 : n ≤ 4611686018427387904) : ∃ z : Nat, hypercubelaw8_within.f a n = some (z : Int) ∧ (z : Int) < n := by
  have h1 := Int.tmod_lt_of_pos a hn
  have h3 := Int.tmod_lt_of_pos (-a) hn
  rw [Int.neg_tmod] at h3
  have key : ∃ z : Int, hypercubelaw8_within.f a n = some z ∧ 0 ≤ z ∧ z < n := by
    unfold hypercubelaw8_within.f
    rw [if_neg (by omega)]
    by_cases h : Int.tmod a n < 0
    · refine ⟨Int.tmod a n + n, ?_, by omega, by omega⟩
      rw [if_pos h]
      congr 1
      unfold wrap64
      omega
    · refine ⟨Int.tmod a n, ?_, by omega, by omega⟩
      rw [if_neg h]
  obtain ⟨z, h, h0, hz⟩ := key
  obtain ⟨m, rfl⟩ := Int.eq_ofNat_of_zero_le h0
  exact ⟨m, h, hz⟩
theorem known_f : hypercubelaw8_known.f = some true := by decide +kernel
def rest (k : Nat) (t126 t127 : Int) : Option Bool := ((lattice_Level.f t127).bind fun t128 => ((lattice_Level.f (wrap64 ((wrap64 ((shl .i64 1 (IntKind.u64.wrap (wrap64 (1 + t126)))) - 1)) - t127))).bind fun t129 => (if (wrap64 (t128 + t129)) = (wrap64 (1 + t126)) then (if 0 ≤ (wrap64 ((wrap64 (1 + t126)) + 1)) then (if (wrap64 ((wrap64 (1 + t126)) + 1) : Int).toNat ≤ 35184372088832 then ((lattice_Sets.f (wrap64 (1 + t126))).bind fun t133 => (hypercubelaw8_LatticeLevels.l0 k (wrap64 (1 + t126)) (List.replicate (wrap64 ((wrap64 (1 + t126)) + 1) : Int).toNat 0) t133 0)) else (none)) else (none)) else (some false))))
theorem unf (K : Nat) (a0 a1 : Int) (z0 z1 : Nat) (h0 : hypercubelaw8_within.f a0 4 = some (z0 : Int)) (h1 : hypercubelaw8_within.f a1 (shl .i64 1 (IntKind.u64.wrap (wrap64 (1 + (z0 : Int))))) = some (z1 : Int)) (hp : 0 ≤ IntKind.u64.wrap (wrap64 (1 + (z0 : Int)))) :
    hypercubelaw8_LatticeLevels.f K a0 a1 = rest K z0 z1 := by
  unfold hypercubelaw8_LatticeLevels.f
  rw [known_f, Option.bind_some, if_pos rfl, h0, Option.bind_some, if_pos hp, h1, Option.bind_some]
  unfold rest
  rfl
theorem pw (z0 : Nat) (h : z0 < 4) : shl .i64 1 (IntKind.u64.wrap (wrap64 (1 + (z0 : Int)))) = ((2 ^ (z0 + 1) : Nat) : Int) ∧ 0 ≤ IntKind.u64.wrap (wrap64 (1 + (z0 : Int))) := by
  revert h
  revert z0
  decide +kernel
theorem key : ∀ z0 : Nat, z0 < 4 → ∀ z1 : Nat, z1 < 2 ^ (z0 + 1) → rest 60 z0 z1 = some true := by decide +kernel
end LatticeLevelsp
open LatticeLevelsp
theorem LatticeLevels : hypercubelaw8_LatticeLevels.Pure := by
  intro a0 a1 _ _
  obtain ⟨z0, h0, u0⟩ := within_f a0 4 (by decide) (by decide)
  have hz : z0 < 4 := by omega
  obtain ⟨p1, p2⟩ := pw z0 hz
  have hp : 2 ^ (z0 + 1) ≤ 2 ^ 4 := Nat.pow_le_pow_right (by omega) (by omega)
  obtain ⟨z1, h1, u1⟩ := within_f a1 (shl .i64 1 (IntKind.u64.wrap (wrap64 (1 + (z0 : Int))))) (by rw [p1]; have := Nat.two_pow_pos (z0 + 1); omega) (by rw [p1]; omega)
  rw [p1] at u1
  exact ⟨60, (unf 60 a0 a1 z0 z1 h0 h1 p2).trans (key z0 hz z1 (by omega))⟩
end Go.Proofs.Ytlplaidcdocbmaa.Pure
