/- The pure statement under MatchAll. -/
import Derived.Test.YtgnkpahnhhmceaaPMatchAllx1
import Derived.Test.YtgnkpahnhhmceaaCore12
namespace Go.Proofs.Ytgnkpahnhhmceaa.Pure
open Go.RowKit Go.Proofs.Ytgnkpahnhhmceaa.PMatchAll Go.Proofs.YtgnkpahnhhmceaaW.PrintWords Go.Proofs.YtgnkpahnhhmceaaW.PrintLast

theorem MatchAll : hypercubelaw9_MatchAll.Pure := by
  intro a0 a1 l2 a3 _ _ _ _ _ _
  unfold hypercubelaw9_MatchAll.f hypercubelaw9_known.f hypercubelaw9_Costs.f match_Assign.f hypercuberef9_Assign.f hypercuberef1_Ints.f
  have hr := Core.costs_right a0 a1 l2 a3
  obtain ⟨m, _, _, h5, _⟩ := Core.costs_rows a0 a1 l2 a3
  generalize Core.costs a0 a1 l2 a3 = c at *
  have hl : (Core.assign c).1.length < 9223372036854775807 := by
    unfold Core.assign
    rw [if_pos hr]
    have := Core.pick_length c 0
    show (Core.pick c 0).length < _
    omega
  simp only [Option.bind_some, if_true, beq_self_eq_true]
  rw [if_pos hl]
  simp

end Go.Proofs.Ytgnkpahnhhmceaa.Pure
