/- TreeFew: its plain side. -/
import Derived.Test.YtlplaidcdocbmaaCore14
import Derived.Test.YtlplaidcdocbmaaPTreeFewx1
namespace Go.Proofs.Ytlplaidcdocbmaa.Pure
open Go.RowKit Go.Proofs.Ytlplaidcdocbmaa.PTreeFew Go.Proofs.YtlplaidcdocbmaaW.PrintWords Go.Proofs.YtlplaidcdocbmaaW.PrintLast Go.Proofs.YtlplaidcdocbmaaW.PrintMore Go.Proofs.Ytlplaidcdocbmaa.Core
set_option linter.unusedVariables false
set_option linter.unusedSimpArgs false
namespace TreeFewp
theorem within_f (a n : Int) (hn : 0 < n) (h2 : n ≤ 4611686018427387904) : ∃ z : Nat, hypercubelaw11_within.f a n = some (z : Int) ∧ (z : Int) < n := by
  have h1 := Int.tmod_lt_of_pos a hn
  have h3 := Int.tmod_lt_of_pos (-a) hn
  rw [Int.neg_tmod] at h3
  have key : ∃ z : Int, hypercubelaw11_within.f a n = some z ∧ 0 ≤ z ∧ z < n := by
    unfold hypercubelaw11_within.f
    rw [if_neg (by omega)]
    by_cases h : Int.tmod a n < 0
    · refine ⟨Int.tmod a n + n, ?_, by omega, by omega⟩
      rw [if_pos h]
      congr 1
      unfold wrap64
      omega
    · refine ⟨Int.tmod a n, ?_, by omega, by omega⟩
      rw [if_neg h]
  obtain ⟨z, h, h0, hz⟩ := key
  obtain ⟨m, rfl⟩ := Int.eq_ofNat_of_zero_le h0
  exact ⟨m, h, hz⟩

theorem known_f : hypercubelaw11_known.f = some true := by decide +kernel
theorem few_eq : ∀ z : Nat, z < 4 → hypercubelaw11_TreeFew.l0 200 (wrap64 (1 + (z : Int))) 0 ([] : List Int) 0 = some true := by decide +kernel
end TreeFewp
open TreeFewp
theorem TreeFew : hypercubelaw11_TreeFew.Pure := by
  intro a0 _
  refine ⟨200, ?_⟩
  obtain ⟨z, hz, hzl⟩ := TreeFewp.within_f a0 4 (by decide) (by decide)
  unfold hypercubelaw11_TreeFew.f
  rw [TreeFewp.known_f, Option.bind_some, if_pos rfl, hz, Option.bind_some, TreeFewp.few_eq z (by omega)]

end Go.Proofs.Ytlplaidcdocbmaa.Pure
