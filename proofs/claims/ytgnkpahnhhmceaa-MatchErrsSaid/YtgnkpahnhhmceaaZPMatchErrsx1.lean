-- Cut by pack.py, a program of this session; not trusted: Lean checks it.
import Derived.Test.YtgnkpahnhhmceaaZCore11
import Derived.Test.YtgnkpahnhhmceaaZPMatchErrsx0
namespace Go.Proofs.Ytgnkpahnhhmceaa.PMatchErrs
open Go.RowKit Go.Proofs.YtgnkpahnhhmceaaW.PrintWords Go.Proofs.YtgnkpahnhhmceaaW.PrintLast Go.Proofs.YtgnkpahnhhmceaaW.PrintMore
attribute [local go_sem] max2_int min2_int max_two min_two max_three min_three max_four min_four   -- for this text's walks alone
set_option linter.unusedVariables false
set_option linter.unusedSimpArgs false

-- NOT PRINTED: function 23 (match_each_int)

-- NOT PRINTED: function 20 (match_right)

/-! ### match_Assign: function 15 -/
def match_Assign.f (l0 : List (List Int)) : Option (List Int × Int × Bool) := some (Core.assign l0)
theorem match_Assign.calls (A0 : Option Addr) (c0 : Nat) (l0 : List (List Int)) (r1 : List Int) (r2 : Int) (r3 : Bool) (w : World) (hr0 : Kd.C (Kd.slice 3 (Kd.int .i64)) w A0 l0.length l0) (hc0 : l0.length ≤ c0) (h : match_Assign.f l0 = some (r1, r2, r3)) :
 Calls Try.prog 15 #[.slice A0 l0.length c0] w fun e w' => ∃ v0_ : Value, e = .returned (.tuple #[v0_, .int .i64 r2, .bool r3]) ∧ Kd.R (Kd.int .i64) 3 w' w.heap.size (fun _ => True) v0_ r1 ∧ Below w.heap.size w w' := by
 have e : Core.assign l0 = (r1, r2, r3) := Option.some.inj h
 have hc := Core.assign_calls A0 c0 l0 w hr0 hc0
 rw [e] at hc
 exact hc

/-! ### hypercubelaw9_known: function 13 -/
def hypercubelaw9_known.f : Option (Bool) := some true
theorem hypercubelaw9_known.calls (r : Bool) (w : World) (h : hypercubelaw9_known.f = some r) :
 Calls Try.prog 13 #[] w fun e w' => e = .returned (.bool r) ∧ Below w.heap.size w w' := by
 obtain rfl : true = r := Option.some.inj h
 exact Core.known_calls w

/-! ### hypercubelaw9_within: function 18 -/
def hypercubelaw9_within.f (a0 : Int) (a1 : Int) : Option (Int) := Core.hypercubelaw9_within.f a0 a1
theorem hypercubelaw9_within.calls (a0 : Int) (a1 : Int) (r : Int) (w : World) (h : hypercubelaw9_within.f a0 a1 = some r) :
 Calls Try.prog 18 #[.int .i64 a0, .int .i64 a1] w fun e w' => e = .returned (.int .i64 r) ∧ Below w.heap.size w w' := by
 refine (Core.hypercubelaw9_within.calls a0 a1 r w h).mono ?_
 rintro e w' ⟨he, hd⟩
 exact ⟨he, Core.below_drawn hd⟩

/-! ### hypercubelaw9_Costs: function 14 -/
noncomputable def hypercubelaw9_Costs.f (a0 : Int) (a1 : Int) (l2 : List Int) (a3 : Int) : Option ((List (List Int))) := some (Core.costs a0 a1 l2 a3)
theorem hypercubelaw9_Costs.calls (a0 : Int) (a1 : Int) (A2 : Option Addr) (c2 : Nat) (l2 : List Int) (a3 : Int) (r : List (List Int)) (w : World) (hr2 : Kd.C (Kd.int .i64) w A2 l2.length l2) (hc2 : l2.length ≤ c2) (h : hypercubelaw9_Costs.f a0 a1 l2 a3 = some r) :
 Calls Try.prog 14 #[.int .i64 a0, .int .i64 a1, .slice A2 l2.length c2, .int .i64 a3] w fun e w' => ∃ v0_ : Value, e = .returned (v0_) ∧ Kd.S (Kd.slice 3 (Kd.int .i64)) 22 w' w.heap.size (fun _ => True) v0_ r ∧ Below w.heap.size w w' := by
 obtain rfl : Core.costs a0 a1 l2 a3 = r := Option.some.inj h
 exact Core.costs_calls a0 a1 A2 c2 l2 a3 w hr2 hc2

/-! ### hypercuberef9_right: function 21 -/


/-! ### hypercuberef9_ahead: function 22 -/


/-! ### hypercuberef9_Assign: function 16 -/
def hypercuberef9_Assign.f (l0 : List (List Int)) : Option (List Int × Int × Bool) := some (Core.assign l0)
theorem hypercuberef9_Assign.calls (A0 : Option Addr) (c0 : Nat) (l0 : List (List Int)) (r1 : List Int) (r2 : Int) (r3 : Bool) (w : World) (hr0 : Kd.C (Kd.slice 3 (Kd.int .i64)) w A0 l0.length l0) (hc0 : l0.length ≤ c0) (h : hypercuberef9_Assign.f l0 = some (r1, r2, r3)) :
 Calls Try.prog 16 #[.slice A0 l0.length c0] w fun e w' => ∃ v0_ : Value, e = .returned (.tuple #[v0_, .int .i64 r2, .bool r3]) ∧ Kd.R (Kd.int .i64) 3 w' w.heap.size (fun _ => True) v0_ r1 ∧ Below w.heap.size w w' := by
 have e : Core.assign l0 = (r1, r2, r3) := Option.some.inj h
 have hc := Core.rassign_calls A0 c0 l0 w hr0 hc0
 rw [e] at hc
 exact hc

/-! ### hypercuberef1_Ints: function 17 -/
def hypercuberef1_Ints.f (l0 : List Int) (l1 : List Int) : Option (Bool) := if l0.length < 9223372036854775807 then some (decide (l0 = l1)) else none
theorem hypercuberef1_Ints.calls (A0 : Option Addr) (c0 : Nat) (l0 : List Int) (A1 : Option Addr) (c1 : Nat) (l1 : List Int) (r : Bool) (w : World) (hr0 : Kd.C (Kd.int .i64) w A0 l0.length l0) (hc0 : l0.length ≤ c0) (hr1 : Kd.C (Kd.int .i64) w A1 l1.length l1) (hc1 : l1.length ≤ c1) (h : hypercuberef1_Ints.f l0 l1 = some r) :
 Calls Try.prog 17 #[.slice A0 l0.length c0, .slice A1 l1.length c1] w fun e w' => e = .returned (.bool r) ∧ Below w.heap.size w w' := by
 unfold hypercuberef1_Ints.f at h
 by_cases hl : l0.length < 9223372036854775807
 rotate_left
 ·rw [if_neg hl] at h
  cases h
 rw [if_pos hl] at h
 obtain rfl := Option.some.inj h
 refine (Core.ints_calls A0 c0 l0 A1 c1 l1 w hr0 hc0 hr1 hc1 hl).mono ?_
 rintro e w' ⟨he, hd⟩
 exact ⟨he, Core.below_drawn hd⟩

end Go.Proofs.Ytgnkpahnhhmceaa.PMatchErrs
