/- TreeKnown: its plain side. -/
import Derived.Test.YtlplaidcdocbmaaCore14
import Derived.Test.YtlplaidcdocbmaaPTreeKnownx2
namespace Go.Proofs.Ytlplaidcdocbmaa.Pure
open Go.RowKit Go.Proofs.Ytlplaidcdocbmaa.PTreeKnown Go.Proofs.YtlplaidcdocbmaaW.PrintWords Go.Proofs.YtlplaidcdocbmaaW.PrintLast Go.Proofs.YtlplaidcdocbmaaW.PrintMore Go.Proofs.Ytlplaidcdocbmaa.Core
set_option linter.unusedVariables false
set_option linter.unusedSimpArgs false
namespace TreeKnownp
theorem within_f (a n : Int) (hn : 0 < n) (h2 : n ≤ 4611686018427387904) : ∃ z : Nat, hypercubelaw11_within.f a n = some (z : Int) ∧ (z : Int) < n := by
  have h1 := Int.tmod_lt_of_pos a hn
  have h3 := Int.tmod_lt_of_pos (-a) hn
  rw [Int.neg_tmod] at h3
  have key : ∃ z : Int, hypercubelaw11_within.f a n = some z ∧ 0 ≤ z ∧ z < n := by
    unfold hypercubelaw11_within.f
    rw [if_neg (by omega)]
    by_cases h : Int.tmod a n < 0
    · refine ⟨Int.tmod a n + n, ?_, by omega, by omega⟩
      rw [if_pos h]
      congr 1
      unfold wrap64
      omega
    · refine ⟨Int.tmod a n, ?_, by omega, by omega⟩
      rw [if_neg h]
  obtain ⟨z, h, h0, hz⟩ := key
  obtain ⟨m, rfl⟩ := Int.eq_ofNat_of_zero_le h0
  exact ⟨m, h, hz⟩

theorem known_f : hypercubelaw11_known.f = some true := by decide +kernel
deriving instance DecidableEq for S49
theorem plan_eq : ∀ z : Nat, z < 200 → planL S49.mk [4, 2, 5] ((100 + z : Nat) : Int) = (([(⟨7, (-1), false⟩ : S49), (⟨3, 7, false⟩ : S49), (⟨5, 7, false⟩ : S49), (⟨6, 7, false⟩ : S49), (⟨1, 3, false⟩ : S49), (⟨2, 3, false⟩ : S49), (⟨4, 6, false⟩ : S49), (⟨0, 2, false⟩ : S49)] : List (S49))) := by decide +kernel
theorem plan_f (z : Nat) (hz : z < 200) : tree_Plan.f [4, 2, 5] 0 ((100 + z : Nat) : Int) = some (([(⟨7, (-1), false⟩ : S49), (⟨3, 7, false⟩ : S49), (⟨5, 7, false⟩ : S49), (⟨6, 7, false⟩ : S49), (⟨1, 3, false⟩ : S49), (⟨2, 3, false⟩ : S49), (⟨4, 6, false⟩ : S49), (⟨0, 2, false⟩ : S49)] : List (S49))) := by
  unfold tree_Plan.f
  rw [if_pos ⟨by decide, by omega, by omega⟩, plan_eq z hz]
theorem same_f : hypercuberef10_Same.f 20 (([(⟨7, (-1), false⟩ : S49), (⟨3, 7, false⟩ : S49), (⟨5, 7, false⟩ : S49), (⟨6, 7, false⟩ : S49), (⟨1, 3, false⟩ : S49), (⟨2, 3, false⟩ : S49), (⟨4, 6, false⟩ : S49), (⟨0, 2, false⟩ : S49)] : List (S49))) (([(⟨7, (-1), false⟩ : S49), (⟨3, 7, false⟩ : S49), (⟨5, 7, false⟩ : S49), (⟨6, 7, false⟩ : S49), (⟨1, 3, false⟩ : S49), (⟨2, 3, false⟩ : S49), (⟨4, 6, false⟩ : S49), (⟨0, 2, false⟩ : S49)] : List (S49))) = some true := by decide +kernel
end TreeKnownp
open TreeKnownp
theorem TreeKnown : hypercubelaw11_TreeKnown.Pure := by
  intro a0 _
  refine ⟨20, ?_⟩
  obtain ⟨z, hz, hzl⟩ := TreeKnownp.within_f a0 200 (by decide) (by decide)
  unfold hypercubelaw11_TreeKnown.f
  rw [TreeKnownp.known_f, Option.bind_some, if_pos rfl, hz, Option.bind_some, show wrap64 (100 + (z : Int)) = ((100 + z : Nat) : Int) by unfold wrap64; omega, TreeKnownp.plan_f z (by omega), Option.bind_some, TreeKnownp.same_f, Option.bind_some]

end Go.Proofs.Ytlplaidcdocbmaa.Pure
