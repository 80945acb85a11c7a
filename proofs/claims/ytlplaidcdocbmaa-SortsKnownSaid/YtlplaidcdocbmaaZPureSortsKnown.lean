-- Cut by pack.py, a program of this session; not trusted: Lean checks it.
import Derived.Test.YtlplaidcdocbmaaZCore13
import Derived.Test.YtlplaidcdocbmaaZPSortsKnownx3
/- SortsKnown: its plain side. -/
namespace Go.Proofs.Ytlplaidcdocbmaa.Pure
open Go.RowKit Go.Proofs.Ytlplaidcdocbmaa.PSortsKnown Go.Proofs.YtlplaidcdocbmaaW.PrintWords Go.Proofs.YtlplaidcdocbmaaW.PrintLast Go.Proofs.YtlplaidcdocbmaaW.PrintMore Go.Proofs.Ytlplaidcdocbmaa.Core
set_option linter.unusedVariables false
set_option linter.unusedSimpArgs false
namespace SortsKnownp
theorem within_f (a n : Int) (hn : 0 < n) (h2 : n ≤ 4611686018427387904) : ∃ z : Nat, hypercubelaw10_within.f a n = some (z : Int) ∧ (z : Int) < n := by
  have h1 := Int.tmod_lt_of_pos a hn
  have h3 := Int.tmod_lt_of_pos (-a) hn
  rw [Int.neg_tmod] at h3
  have key : ∃ z : Int, hypercubelaw10_within.f a n = some z ∧ 0 ≤ z ∧ z < n := by
    unfold hypercubelaw10_within.f
    rw [if_neg (by omega)]
    by_cases h : Int.tmod a n < 0
    · refine ⟨Int.tmod a n + n, ?_, by omega, by omega⟩
      rw [if_pos h]
      congr 1
      unfold wrap64
      omega
    · refine ⟨Int.tmod a n, ?_, by omega, by omega⟩
      rw [if_neg h]
  obtain ⟨z, h, h0, hz⟩ := key
  obtain ⟨m, rfl⟩ := Int.eq_ofNat_of_zero_le h0
  exact ⟨m, h, hz⟩

theorem known_f : hypercubelaw10_known.f = some true := by decide +kernel
def rest (k : Nat) (y186 : List S33) (y189 : List Int) (t192 : Int) : Option Bool := (if 0 ≤ t192 then (if t192 < (y186.length : Int) then ((sorts_Plan.f ((rd_T33 y186 t192).f0) ((rd_T33 y186 t192).f1) 100).bind fun t194 => ((sorts_Cost.f ((rd_T33 y186 t192).f0) ((rd_T33 y186 t192).f1) 100 t194).bind fun t198 => (if t192 < (y189.length : Int) then (if t198 = (rd y189 t192) then ((sorts_Right.f t194 (((rd_T33 y186 t192).f0).length : Int)).bind fun t201 => (if t201 = true then ((hypercuberef10_Cost.f k ((rd_T33 y186 t192).f0) ((rd_T33 y186 t192).f1) 100 t194).bind fun t203 => (some (t203 == (rd y189 t192)))) else (some false))) else (some false)) else (none)))) else (none)) else (none))
theorem fin : ∀ z : Nat, z < 5 → rest 60 [⟨[1], 0⟩, ⟨[4], 0⟩, ⟨[2, 3], 0⟩, ⟨[3, 2], 0⟩, ⟨[1, 1], 0⟩] [1, 4, 32, 32, 4] (z : Int) = some true := by decide +kernel
end SortsKnownp
open SortsKnownp
theorem SortsKnown : hypercubelaw10_SortsKnown.Pure := by
  intro a0 _
  obtain ⟨z, hz, hzl⟩ := SortsKnownp.within_f a0 5 (by decide) (by decide)
  refine ⟨60, ?_⟩
  unfold hypercubelaw10_SortsKnown.f
  rw [SortsKnownp.known_f, Option.bind_some, if_pos rfl, Option.bind_some, Option.bind_some]
  show (hypercubelaw10_within.f a0 5).bind _ = _
  rw [hz, Option.bind_some]
  exact SortsKnownp.fin z (by omega)

end Go.Proofs.Ytlplaidcdocbmaa.Pure
