/- The pure statement under MatchOwn: costs that were handed in are not changed. -/
import Derived.Test.YtgnkpahnhhmceaaPMatchOwnx1
import Derived.Test.YtgnkpahnhhmceaaCore12
namespace Go.Proofs.Ytgnkpahnhhmceaa.Pure
open Go.RowKit Go.Proofs.Ytgnkpahnhhmceaa.PMatchOwn Go.Proofs.YtgnkpahnhhmceaaW.PrintWords Go.Proofs.YtgnkpahnhhmceaaW.PrintLast
open Go.Proofs.Ytgnkpahnhhmceaa.Core (RowC assign right pick pick_length costs costs_right costs_rows)
set_option linter.unusedVariables false
set_option linter.unusedSimpArgs false

section
variable {c : List (List Int)}
theorem mo_l1 (hc : c.length ≤ 5) (hr : ∀ r ∈ c, r.length ≤ 9) {x : List Int} (hx : x.length ≤ 5) {b : Int} : ∀ (d i : Nat), i + d = c.length → ∃ K, hypercubelaw9_MatchOwn.l1 K c c b x b x b (i : Int) = some true := by
  intro d
  induction d with
  | zero =>
    intro i hi
    refine ⟨1, ?_⟩
    simp only [hypercubelaw9_MatchOwn.l1]
    unfold PMatchOwn.hypercuberef1_Ints.f
    rw [if_neg (by omega), if_pos trivial, if_pos trivial, if_pos (by omega)]
    simp
  | succ d ih =>
    intro i hi
    have hi1 := Aside0.mk (show wrap64 ((i : Int) + 1) = ((i + 1 : Nat) : Int) by rw [Core.wrap_small _ (by omega) (by omega)]; omega)
    obtain ⟨K, h⟩ := ih (i + 1) (by omega)
    have hl : (rd_L1 c (i : Int)).length ≤ 9 := by
      have e : rd_L1 c (i : Int) = c[i]'(by omega) := by simp [rd_L1, show i < c.length by omega]
      rw [e]
      exact hr _ (List.getElem_mem _)
    refine ⟨K + 1, ?_⟩
    simp only [hypercubelaw9_MatchOwn.l1]
    unfold PMatchOwn.hypercuberef1_Ints.f
    rw [if_pos (by omega), if_pos (by omega), if_pos (by omega), if_pos (by omega)]
    simp only [Option.bind_some, decide_true, if_true]
    rw [hi1.out]
    exact h
theorem mo_l0 (hc : c.length ≤ 5) (hr : ∀ r ∈ c, r.length ≤ 9) (hx : (assign c).1.length ≤ 5) : ∀ (d i : Nat) (a : List Int), i + d = a.length → a.length ≤ 5 → ∃ K, hypercubelaw9_MatchOwn.l0 K c c a (assign c).2.1 (i : Int) = some true := by
  intro d
  induction d with
  | zero =>
    intro i a hi ha
    obtain ⟨K, h⟩ := mo_l1 hc hr hx (b := (assign c).2.1) c.length 0 (by omega)
    refine ⟨K + 1, ?_⟩
    simp only [hypercubelaw9_MatchOwn.l0]
    unfold PMatchOwn.match_Assign.f PMatchOwn.hypercuberef9_Assign.f
    rw [if_neg (by omega)]
    simp only [Option.bind_some]
    exact h
  | succ d ih =>
    intro i a hi ha
    have hi1 := Aside0.mk (show wrap64 ((i : Int) + 1) = ((i + 1 : Nat) : Int) by rw [Core.wrap_small _ (by omega) (by omega)]; omega)
    obtain ⟨K, h⟩ := ih (i + 1) (a.set i (-1)) (by simp; omega) (by simpa using ha)
    refine ⟨K + 1, ?_⟩
    simp only [hypercubelaw9_MatchOwn.l0]
    rw [if_pos (by omega), if_pos (by omega), hi1.out, Int.toNat_natCast]
    exact h
end
theorem MatchOwn : hypercubelaw9_MatchOwn.Pure := by
  intro a0 a1 l2 a3 _ _ _ _ _ _
  have hr := costs_right a0 a1 l2 a3
  obtain ⟨m, hm, hcm, h5, hrows⟩ := costs_rows a0 a1 l2 a3
  have key : ∃ K, hypercubelaw9_MatchOwn.l0 K (costs a0 a1 l2 a3) (costs a0 a1 l2 a3) (assign (costs a0 a1 l2 a3)).1 (assign (costs a0 a1 l2 a3)).2.1 0 = some true := by
    generalize costs a0 a1 l2 a3 = c at *
    have hl : (assign c).1.length ≤ 5 := by
      unfold assign
      rw [if_pos hr]
      have := pick_length c 0
      show (pick c 0).length ≤ _
      omega
    exact mo_l0 h5 (fun r h => by rw [(hrows r h).1]; exact hm) hl (assign c).1.length 0 _ (by omega) hl
  obtain ⟨K, h⟩ := key
  refine ⟨K, ?_⟩
  unfold hypercubelaw9_MatchOwn.f hypercubelaw9_known.f PMatchOwn.hypercubelaw9_Costs.f PMatchOwn.match_Assign.f
  simp only [Option.bind_some, if_true]
  exact h
end Go.Proofs.Ytgnkpahnhhmceaa.Pure
