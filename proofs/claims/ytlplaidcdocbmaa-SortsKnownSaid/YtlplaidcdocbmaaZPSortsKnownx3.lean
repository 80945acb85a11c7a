-- Cut by pack.py, a program of this session; not trusted: Lean checks it.
import Derived.Test.YtlplaidcdocbmaaZPSortsKnownx0
import Derived.Test.YtlplaidcdocbmaaZPSortsKnownx1
import Derived.Test.YtlplaidcdocbmaaZPSortsKnownx2
namespace Go.Proofs.Ytlplaidcdocbmaa.PSortsKnown
open Go.RowKit Go.Proofs.YtlplaidcdocbmaaW.PrintWords Go.Proofs.YtlplaidcdocbmaaW.PrintLast Go.Proofs.YtlplaidcdocbmaaW.PrintMore
private abbrev fl_ (a b : Nat) : Array Bool := (List.replicate a true ++ List.replicate b false).toArray
private abbrev Y : Bool := true
private abbrev Z : Bool := false
open List renaming setIfInBounds_toArray → sl0, set_cons_zero → sl1, set_cons_succ → sl2
private theorem od_ {p : Prop} [Decidable p] (h : decide p = true := by first | (with_reducible assumption) | assumption) : p := of_decide_eq_true h
attribute [local go_sem] max2_int min2_int max_two min_two max_three min_three max_four min_four   -- for this text's walks alone
set_option linter.unusedVariables false
set_option linter.unusedSimpArgs false

/-! ### hypercubelaw10_SortsKnown: function 23 -/
def hypercubelaw10_SortsKnown.f (k : Nat) (a0 : Int) : Option (Bool) := (hypercubelaw10_known.f).bind fun t170 => (if t170 = true then ((some (([(⟨(([1] : List Int)), 0⟩ : S33), (⟨(([4] : List Int)), 0⟩ : S33), (⟨(([2, 3] : List Int)), 0⟩ : S33), (⟨(([3, 2] : List Int)), 0⟩ : S33), (⟨(([1, 1] : List Int)), 0⟩ : S33)] : List (S33)) : List (S33))).bind fun y186 => ((some (([1, 4, 32, 32, 4] : List Int) : List Int)).bind fun y189 => ((hypercubelaw10_within.f a0 (y186.length : Int)).bind fun t192 => (if 0 ≤ t192 then (if t192 < (y186.length : Int) then ((sorts_Plan.f ((rd_T33 y186 t192).f0) ((rd_T33 y186 t192).f1) 100).bind fun t194 => ((sorts_Cost.f ((rd_T33 y186 t192).f0) ((rd_T33 y186 t192).f1) 100 t194).bind fun t198 => (if t192 < (y189.length : Int) then (if t198 = (rd y189 t192) then ((sorts_Right.f t194 (((rd_T33 y186 t192).f0).length : Int)).bind fun t201 => (if t201 = true then ((hypercuberef10_Cost.f k ((rd_T33 y186 t192).f0) ((rd_T33 y186 t192).f1) 100 t194).bind fun t203 => (some (t203 == (rd y189 t192)))) else (some false))) else (some false)) else (none)))) else (none)) else (none))))) else (some false))
def hypercubelaw10_SortsKnown.T7 : Bool × List (List Nat × List Nat) := (true, [([], []), ([], []), ([0, 1], [0, 1]), ([2], [2]), ([], []), ([3, 4], [3, 4]), ([], []), ([], []), ([6, 7], [6, 7]), ([8], [8]), ([5, 9], [5, 9]), ([10, 5], [10]), ([11], [11]), ([11], [11]), ([11], [11]), ([13, 14, 11], [11, 13, 14]), ([15, 11], [11, 15]), ([16, 11], [11, 16]), ([17, 11], [11, 17]), ([12, 18, 11, 11], [11, 12, 18]), ([11, 19], [11, 19]), ([20, 19], [20]), ([21], [21]), ([21], [21]), ([22, 23, 21], [21, 22, 23]), ([24, 21], [21, 24]), ([21], [21]), ([25, 26, 21, 21], [21, 25, 26]), ([21], [21]), ([21], [21]), ([28, 29, 21], [21, 28, 29]), ([30, 21], [21, 30]), ([27, 31, 21], [21, 27, 31]), ([21, 32], [21, 32]), ([33, 27, 0, 1, 2, 3, 4, 5, 6, 7, 8, 9, 10, 11, 12, 13, 14, 15, 16, 17, 18, 19, 20, 21, 22, 23, 24, 25, 26, 27, 28, 29, 30, 31, 32, 33], [33])])
def hypercubelaw10_SortsKnown.B7 : List Nat := [0, 0, 3, 7, 0, 31, 0, 0, 192, 448, 1023, 2047, 4095, 4095, 4095, 28671, 61439, 126975, 258047, 524287, 1048575, 2097151, 4194303, 4194303, 16777215, 33554431, 4194303, 134217727, 4194303, 4194303, 809500671, 1883242495, 4294967295, 8589934591, 17179869183]
theorem hypercubelaw10_SortsKnown.tab7 : rtab .any (opsOf Try.f23 7) = hypercubelaw10_SortsKnown.T7 := by kernel_rfl
theorem hypercubelaw10_SortsKnown.bits7 : waitsOk hypercubelaw10_SortsKnown.T7.2 hypercubelaw10_SortsKnown.B7 = true := by kernel_rfl
set_option maxHeartbeats 8000000 in
set_option maxRecDepth 100000 in
theorem hypercubelaw10_SortsKnown.calls (k : Nat) (a0 : Int) (r : Bool) (w : World) (h : hypercubelaw10_SortsKnown.f k a0 = some r) :
 Calls Try.prog 23 #[.int .i64 a0] w fun e w' => e = .returned (.bool r) ∧ Below w.heap.size w w' := by
 have hu33 := Try.underlying33
 have HB := Aside0.mk (Below.refl w.heap.size w)
 have H : ((hypercubelaw10_known.f).bind fun t170 => (if t170 = true then ((some (([(⟨(([1] : List Int)), 0⟩ : S33), (⟨(([4] : List Int)), 0⟩ : S33), (⟨(([2, 3] : List Int)), 0⟩ : S33), (⟨(([3, 2] : List Int)), 0⟩ : S33), (⟨(([1, 1] : List Int)), 0⟩ : S33)] : List (S33)) : List (S33))).bind fun y186 => ((some (([1, 4, 32, 32, 4] : List Int) : List Int)).bind fun y189 => ((hypercubelaw10_within.f a0 (y186.length : Int)).bind fun t192 => (if 0 ≤ t192 then (if t192 < (y186.length : Int) then ((sorts_Plan.f ((rd_T33 y186 t192).f0) ((rd_T33 y186 t192).f1) 100).bind fun t194 => ((sorts_Cost.f ((rd_T33 y186 t192).f0) ((rd_T33 y186 t192).f1) 100 t194).bind fun t198 => (if t192 < (y189.length : Int) then (if t198 = (rd y189 t192) then ((sorts_Right.f t194 (((rd_T33 y186 t192).f0).length : Int)).bind fun t201 => (if t201 = true then ((hypercuberef10_Cost.f k ((rd_T33 y186 t192).f0) ((rd_T33 y186 t192).f1) 100 t194).bind fun t203 => (some (t203 == (rd y189 t192)))) else (some false))) else (some false)) else (none)))) else (none)) else (none))))) else (some false))) = some r := h
 clear h
 replace H := Option.bind_eq_some_iff.mp H
 obtain ⟨t170, A20, H⟩ := H
 replace H : (if t170 = true then ((some (([(⟨(([1] : List Int)), 0⟩ : S33), (⟨(([4] : List Int)), 0⟩ : S33), (⟨(([2, 3] : List Int)), 0⟩ : S33), (⟨(([3, 2] : List Int)), 0⟩ : S33), (⟨(([1, 1] : List Int)), 0⟩ : S33)] : List (S33)) : List (S33))).bind fun y186 => ((some (([1, 4, 32, 32, 4] : List Int) : List Int)).bind fun y189 => ((hypercubelaw10_within.f a0 (y186.length : Int)).bind fun t192 => (if 0 ≤ t192 then (if t192 < (y186.length : Int) then ((sorts_Plan.f ((rd_T33 y186 t192).f0) ((rd_T33 y186 t192).f1) 100).bind fun t194 => ((sorts_Cost.f ((rd_T33 y186 t192).f0) ((rd_T33 y186 t192).f1) 100 t194).bind fun t198 => (if t192 < (y189.length : Int) then (if t198 = (rd y189 t192) then ((sorts_Right.f t194 (((rd_T33 y186 t192).f0).length : Int)).bind fun t201 => (if t201 = true then ((hypercuberef10_Cost.f k ((rd_T33 y186 t192).f0) ((rd_T33 y186 t192).f1) 100 t194).bind fun t203 => (some (t203 == (rd y189 t192)))) else (some false))) else (some false)) else (none)))) else (none)) else (none))))) else (some false)) = some r := H
 have A2 := Aside0.mk A20
 clear A20
 by_cases c3 : t170 = true
 rotate_left
 ·replace c3 := Bool.eq_false_iff.mpr c3
  subst c3
  have H1 : (some false) = some r := by rw [if_neg (show ¬ (false = true) by decide)] at H; exact H
  clear H
  have H := H1
  clear H1
  obtain rfl := Option.some.inj H
  go_enter Try.func23, Try.ntmps23
  go_wp2_with (first | ((with_reducible refine gate_callee (f := 51) rfl ?_); refine goesL_ (some 7) rfl rfl Try.func51 (by kernel_rfl) rfl #[] rfl (by (try simp only [List.map_toArray, List.map_cons, List.map_nil]); first | done | rfl | (simp only [List.length_drop, List.length_take]; rfl)) ?_; (with_reducible refine (hypercubelaw10_known.calls  false _ A2.out).mono ?_); rintro e w95 ⟨rfl, hb⟩; refine ⟨_, rfl, ?_⟩; have n0_ := Aside0.mk (below_step (by repeat (first | (with_reducible first | exact HB.out | apply below_alloc | apply pw_below_drewN | apply below_drew1) | exact HB.out)) hb); clear HB; have HB := n0_; clear n0_; (try clear hb); (try clear hb2); (try clear hk); (try clear hi)))
  go_ret
  exact ⟨by first | rfl | (simp [errW_none, errW_some] <;> rfl) | (simp [*, errW_none, errW_some] <;> rfl), by repeat (first | (with_reducible first | exact HB.out | apply below_alloc | apply pw_below_drewN | apply below_drew1) | exact HB.out)⟩
 subst c3
 have H1 : ((some (([(⟨(([1] : List Int)), 0⟩ : S33), (⟨(([4] : List Int)), 0⟩ : S33), (⟨(([2, 3] : List Int)), 0⟩ : S33), (⟨(([3, 2] : List Int)), 0⟩ : S33), (⟨(([1, 1] : List Int)), 0⟩ : S33)] : List (S33)) : List (S33))).bind fun y186 => ((some (([1, 4, 32, 32, 4] : List Int) : List Int)).bind fun y189 => ((hypercubelaw10_within.f a0 (y186.length : Int)).bind fun t192 => (if 0 ≤ t192 then (if t192 < (y186.length : Int) then ((sorts_Plan.f ((rd_T33 y186 t192).f0) ((rd_T33 y186 t192).f1) 100).bind fun t194 => ((sorts_Cost.f ((rd_T33 y186 t192).f0) ((rd_T33 y186 t192).f1) 100 t194).bind fun t198 => (if t192 < (y189.length : Int) then (if t198 = (rd y189 t192) then ((sorts_Right.f t194 (((rd_T33 y186 t192).f0).length : Int)).bind fun t201 => (if t201 = true then ((hypercuberef10_Cost.f k ((rd_T33 y186 t192).f0) ((rd_T33 y186 t192).f1) 100 t194).bind fun t203 => (some (t203 == (rd y189 t192)))) else (some false))) else (some false)) else (none)))) else (none)) else (none))))) = some r := by rw [if_pos rfl] at H; exact H
 clear H
 have H := H1
 clear H1
 obtain ⟨y171, hy171⟩ : ∃ y_ : List Int, y_ = (([1] : List Int)) := ⟨_, rfl⟩
 replace H : ((some (([(⟨y171, 0⟩ : S33), (⟨(([4] : List Int)), 0⟩ : S33), (⟨(([2, 3] : List Int)), 0⟩ : S33), (⟨(([3, 2] : List Int)), 0⟩ : S33), (⟨(([1, 1] : List Int)), 0⟩ : S33)] : List (S33)) : List (S33))).bind fun y186 => ((some (([1, 4, 32, 32, 4] : List Int) : List Int)).bind fun y189 => ((hypercubelaw10_within.f a0 (y186.length : Int)).bind fun t192 => (if 0 ≤ t192 then (if t192 < (y186.length : Int) then ((sorts_Plan.f ((rd_T33 y186 t192).f0) ((rd_T33 y186 t192).f1) 100).bind fun t194 => ((sorts_Cost.f ((rd_T33 y186 t192).f0) ((rd_T33 y186 t192).f1) 100 t194).bind fun t198 => (if t192 < (y189.length : Int) then (if t198 = (rd y189 t192) then ((sorts_Right.f t194 (((rd_T33 y186 t192).f0).length : Int)).bind fun t201 => (if t201 = true then ((hypercuberef10_Cost.f k ((rd_T33 y186 t192).f0) ((rd_T33 y186 t192).f1) 100 t194).bind fun t203 => (some (t203 == (rd y189 t192)))) else (some false))) else (some false)) else (none)))) else (none)) else (none))))) = some r := by first | (rw [hy171]; with_reducible exact H) | (have H2_ := (Option.bind_some _ _).symm.trans H; rw [hy171]; with_reducible exact H2_) | (have H2_ := (Option.bind_some _ _).symm.trans H; with_reducible exact H2_) | with_reducible exact H | (rw [hy171]; exact H) | exact H
 have Ny171 := Aside0.mk hy171
 clear hy171
 obtain ⟨y174, hy174⟩ : ∃ y_ : List Int, y_ = (([4] : List Int)) := ⟨_, rfl⟩
 replace H : ((some (([(⟨y171, 0⟩ : S33), (⟨y174, 0⟩ : S33), (⟨(([2, 3] : List Int)), 0⟩ : S33), (⟨(([3, 2] : List Int)), 0⟩ : S33), (⟨(([1, 1] : List Int)), 0⟩ : S33)] : List (S33)) : List (S33))).bind fun y186 => ((some (([1, 4, 32, 32, 4] : List Int) : List Int)).bind fun y189 => ((hypercubelaw10_within.f a0 (y186.length : Int)).bind fun t192 => (if 0 ≤ t192 then (if t192 < (y186.length : Int) then ((sorts_Plan.f ((rd_T33 y186 t192).f0) ((rd_T33 y186 t192).f1) 100).bind fun t194 => ((sorts_Cost.f ((rd_T33 y186 t192).f0) ((rd_T33 y186 t192).f1) 100 t194).bind fun t198 => (if t192 < (y189.length : Int) then (if t198 = (rd y189 t192) then ((sorts_Right.f t194 (((rd_T33 y186 t192).f0).length : Int)).bind fun t201 => (if t201 = true then ((hypercuberef10_Cost.f k ((rd_T33 y186 t192).f0) ((rd_T33 y186 t192).f1) 100 t194).bind fun t203 => (some (t203 == (rd y189 t192)))) else (some false))) else (some false)) else (none)))) else (none)) else (none))))) = some r := by first | (rw [hy174]; with_reducible exact H) | (have H2_ := (Option.bind_some _ _).symm.trans H; rw [hy174]; with_reducible exact H2_) | (have H2_ := (Option.bind_some _ _).symm.trans H; with_reducible exact H2_) | with_reducible exact H | (rw [hy174]; exact H) | exact H
 have Ny174 := Aside0.mk hy174
 clear hy174
 obtain ⟨y177, hy177⟩ : ∃ y_ : List Int, y_ = (([2, 3] : List Int)) := ⟨_, rfl⟩
 replace H : ((some (([(⟨y171, 0⟩ : S33), (⟨y174, 0⟩ : S33), (⟨y177, 0⟩ : S33), (⟨(([3, 2] : List Int)), 0⟩ : S33), (⟨(([1, 1] : List Int)), 0⟩ : S33)] : List (S33)) : List (S33))).bind fun y186 => ((some (([1, 4, 32, 32, 4] : List Int) : List Int)).bind fun y189 => ((hypercubelaw10_within.f a0 (y186.length : Int)).bind fun t192 => (if 0 ≤ t192 then (if t192 < (y186.length : Int) then ((sorts_Plan.f ((rd_T33 y186 t192).f0) ((rd_T33 y186 t192).f1) 100).bind fun t194 => ((sorts_Cost.f ((rd_T33 y186 t192).f0) ((rd_T33 y186 t192).f1) 100 t194).bind fun t198 => (if t192 < (y189.length : Int) then (if t198 = (rd y189 t192) then ((sorts_Right.f t194 (((rd_T33 y186 t192).f0).length : Int)).bind fun t201 => (if t201 = true then ((hypercuberef10_Cost.f k ((rd_T33 y186 t192).f0) ((rd_T33 y186 t192).f1) 100 t194).bind fun t203 => (some (t203 == (rd y189 t192)))) else (some false))) else (some false)) else (none)))) else (none)) else (none))))) = some r := by first | (rw [hy177]; with_reducible exact H) | (have H2_ := (Option.bind_some _ _).symm.trans H; rw [hy177]; with_reducible exact H2_) | (have H2_ := (Option.bind_some _ _).symm.trans H; with_reducible exact H2_) | with_reducible exact H | (rw [hy177]; exact H) | exact H
 have Ny177 := Aside0.mk hy177
 clear hy177
 obtain ⟨y180, hy180⟩ : ∃ y_ : List Int, y_ = (([3, 2] : List Int)) := ⟨_, rfl⟩
 replace H : ((some (([(⟨y171, 0⟩ : S33), (⟨y174, 0⟩ : S33), (⟨y177, 0⟩ : S33), (⟨y180, 0⟩ : S33), (⟨(([1, 1] : List Int)), 0⟩ : S33)] : List (S33)) : List (S33))).bind fun y186 => ((some (([1, 4, 32, 32, 4] : List Int) : List Int)).bind fun y189 => ((hypercubelaw10_within.f a0 (y186.length : Int)).bind fun t192 => (if 0 ≤ t192 then (if t192 < (y186.length : Int) then ((sorts_Plan.f ((rd_T33 y186 t192).f0) ((rd_T33 y186 t192).f1) 100).bind fun t194 => ((sorts_Cost.f ((rd_T33 y186 t192).f0) ((rd_T33 y186 t192).f1) 100 t194).bind fun t198 => (if t192 < (y189.length : Int) then (if t198 = (rd y189 t192) then ((sorts_Right.f t194 (((rd_T33 y186 t192).f0).length : Int)).bind fun t201 => (if t201 = true then ((hypercuberef10_Cost.f k ((rd_T33 y186 t192).f0) ((rd_T33 y186 t192).f1) 100 t194).bind fun t203 => (some (t203 == (rd y189 t192)))) else (some false))) else (some false)) else (none)))) else (none)) else (none))))) = some r := by first | (rw [hy180]; with_reducible exact H) | (have H2_ := (Option.bind_some _ _).symm.trans H; rw [hy180]; with_reducible exact H2_) | (have H2_ := (Option.bind_some _ _).symm.trans H; with_reducible exact H2_) | with_reducible exact H | (rw [hy180]; exact H) | exact H
 have Ny180 := Aside0.mk hy180
 clear hy180
 obtain ⟨y183, hy183⟩ : ∃ y_ : List Int, y_ = (([1, 1] : List Int)) := ⟨_, rfl⟩
 replace H : ((some (([(⟨y171, 0⟩ : S33), (⟨y174, 0⟩ : S33), (⟨y177, 0⟩ : S33), (⟨y180, 0⟩ : S33), (⟨y183, 0⟩ : S33)] : List (S33)) : List (S33))).bind fun y186 => ((some (([1, 4, 32, 32, 4] : List Int) : List Int)).bind fun y189 => ((hypercubelaw10_within.f a0 (y186.length : Int)).bind fun t192 => (if 0 ≤ t192 then (if t192 < (y186.length : Int) then ((sorts_Plan.f ((rd_T33 y186 t192).f0) ((rd_T33 y186 t192).f1) 100).bind fun t194 => ((sorts_Cost.f ((rd_T33 y186 t192).f0) ((rd_T33 y186 t192).f1) 100 t194).bind fun t198 => (if t192 < (y189.length : Int) then (if t198 = (rd y189 t192) then ((sorts_Right.f t194 (((rd_T33 y186 t192).f0).length : Int)).bind fun t201 => (if t201 = true then ((hypercuberef10_Cost.f k ((rd_T33 y186 t192).f0) ((rd_T33 y186 t192).f1) 100 t194).bind fun t203 => (some (t203 == (rd y189 t192)))) else (some false))) else (some false)) else (none)))) else (none)) else (none))))) = some r := by first | (rw [hy183]; with_reducible exact H) | (have H2_ := (Option.bind_some _ _).symm.trans H; rw [hy183]; with_reducible exact H2_) | (have H2_ := (Option.bind_some _ _).symm.trans H; with_reducible exact H2_) | with_reducible exact H | (rw [hy183]; exact H) | exact H
 have Ny183 := Aside0.mk hy183
 clear hy183
 obtain ⟨y186, hy186⟩ : ∃ y_ : List (S33), y_ = (([(⟨y171, 0⟩ : S33), (⟨y174, 0⟩ : S33), (⟨y177, 0⟩ : S33), (⟨y180, 0⟩ : S33), (⟨y183, 0⟩ : S33)] : List (S33))) := ⟨_, rfl⟩
 replace H : ((some (([1, 4, 32, 32, 4] : List Int) : List Int)).bind fun y189 => ((hypercubelaw10_within.f a0 (y186.length : Int)).bind fun t192 => (if 0 ≤ t192 then (if t192 < (y186.length : Int) then ((sorts_Plan.f ((rd_T33 y186 t192).f0) ((rd_T33 y186 t192).f1) 100).bind fun t194 => ((sorts_Cost.f ((rd_T33 y186 t192).f0) ((rd_T33 y186 t192).f1) 100 t194).bind fun t198 => (if t192 < (y189.length : Int) then (if t198 = (rd y189 t192) then ((sorts_Right.f t194 (((rd_T33 y186 t192).f0).length : Int)).bind fun t201 => (if t201 = true then ((hypercuberef10_Cost.f k ((rd_T33 y186 t192).f0) ((rd_T33 y186 t192).f1) 100 t194).bind fun t203 => (some (t203 == (rd y189 t192)))) else (some false))) else (some false)) else (none)))) else (none)) else (none)))) = some r := by first | (rw [hy186]; with_reducible exact H) | (have H2_ := (Option.bind_some _ _).symm.trans H; rw [hy186]; with_reducible exact H2_) | (have H2_ := (Option.bind_some _ _).symm.trans H; with_reducible exact H2_) | with_reducible exact H | (rw [hy186]; exact H) | exact H
 have Ny186 := Aside0.mk hy186
 clear hy186
 obtain ⟨y189, hy189⟩ : ∃ y_ : List Int, y_ = (([1, 4, 32, 32, 4] : List Int)) := ⟨_, rfl⟩
 replace H : ((hypercubelaw10_within.f a0 (y186.length : Int)).bind fun t192 => (if 0 ≤ t192 then (if t192 < (y186.length : Int) then ((sorts_Plan.f ((rd_T33 y186 t192).f0) ((rd_T33 y186 t192).f1) 100).bind fun t194 => ((sorts_Cost.f ((rd_T33 y186 t192).f0) ((rd_T33 y186 t192).f1) 100 t194).bind fun t198 => (if t192 < (y189.length : Int) then (if t198 = (rd y189 t192) then ((sorts_Right.f t194 (((rd_T33 y186 t192).f0).length : Int)).bind fun t201 => (if t201 = true then ((hypercuberef10_Cost.f k ((rd_T33 y186 t192).f0) ((rd_T33 y186 t192).f1) 100 t194).bind fun t203 => (some (t203 == (rd y189 t192)))) else (some false))) else (some false)) else (none)))) else (none)) else (none))) = some r := by first | (rw [hy189]; with_reducible exact H) | (have H2_ := (Option.bind_some _ _).symm.trans H; rw [hy189]; with_reducible exact H2_) | (have H2_ := (Option.bind_some _ _).symm.trans H; with_reducible exact H2_) | with_reducible exact H | (rw [hy189]; exact H) | exact H
 have Ny189 := Aside0.mk hy189
 clear hy189
 replace H := Option.bind_eq_some_iff.mp H
 obtain ⟨t192, A40, H⟩ := H
 replace H : (if 0 ≤ t192 then (if t192 < (y186.length : Int) then ((sorts_Plan.f ((rd_T33 y186 t192).f0) ((rd_T33 y186 t192).f1) 100).bind fun t194 => ((sorts_Cost.f ((rd_T33 y186 t192).f0) ((rd_T33 y186 t192).f1) 100 t194).bind fun t198 => (if t192 < (y189.length : Int) then (if t198 = (rd y189 t192) then ((sorts_Right.f t194 (((rd_T33 y186 t192).f0).length : Int)).bind fun t201 => (if t201 = true then ((hypercuberef10_Cost.f k ((rd_T33 y186 t192).f0) ((rd_T33 y186 t192).f1) 100 t194).bind fun t203 => (some (t203 == (rd y189 t192)))) else (some false))) else (some false)) else (none)))) else (none)) else (none)) = some r := H
 have A4 := Aside0.mk A40
 clear A40
 by_cases c5 : 0 ≤ t192
 rotate_left
 ·rw [if_neg c5] at H
  exact absurd H (by simp)
 rw [if_pos c5] at H
 have c5b0 : decide (0 ≤ t192) = true := decide_eq_true c5
 clear c5
 by_cases c6 : t192 < (y186.length : Int)
 rotate_left
 ·rw [if_neg c6] at H
  exact absurd H (by simp)
 rw [if_pos c6] at H
 have c6b0 : decide (t192 < (y186.length : Int)) = true := decide_eq_true c6
 clear c6
 replace H := Option.bind_eq_some_iff.mp H
 obtain ⟨t194, A70, H⟩ := H
 replace H : ((sorts_Cost.f ((rd_T33 y186 t192).f0) ((rd_T33 y186 t192).f1) 100 t194).bind fun t198 => (if t192 < (y189.length : Int) then (if t198 = (rd y189 t192) then ((sorts_Right.f t194 (((rd_T33 y186 t192).f0).length : Int)).bind fun t201 => (if t201 = true then ((hypercuberef10_Cost.f k ((rd_T33 y186 t192).f0) ((rd_T33 y186 t192).f1) 100 t194).bind fun t203 => (some (t203 == (rd y189 t192)))) else (some false))) else (some false)) else (none))) = some r := H
 have A7 := Aside0.mk A70
 clear A70
 replace H := Option.bind_eq_some_iff.mp H
 obtain ⟨t198, A80, H⟩ := H
 replace H : (if t192 < (y189.length : Int) then (if t198 = (rd y189 t192) then ((sorts_Right.f t194 (((rd_T33 y186 t192).f0).length : Int)).bind fun t201 => (if t201 = true then ((hypercuberef10_Cost.f k ((rd_T33 y186 t192).f0) ((rd_T33 y186 t192).f1) 100 t194).bind fun t203 => (some (t203 == (rd y189 t192)))) else (some false))) else (some false)) else (none)) = some r := H
 have A8 := Aside0.mk A80
 clear A80
 by_cases c9 : t192 < (y189.length : Int)
 rotate_left
 ·rw [if_neg c9] at H
  exact absurd H (by simp)
 rw [if_pos c9] at H
 have c9b0 : decide (t192 < (y189.length : Int)) = true := decide_eq_true c9
 clear c9
 by_cases c10 : t198 = (rd y189 t192)
 rotate_left
 ·rw [if_neg c10] at H
  have c10b0 : (t198 == (rd y189 t192)) = false := beq_eq_false_iff_ne.mpr c10
  have c10b1 : (t198 != (rd y189 t192)) = true := bne_iff_ne.mpr c10
  obtain rfl := Option.some.inj H
  go_enter Try.func23, Try.ntmps23
  try go_wp2_with (first | ((with_reducible refine gate_callee (f := 51) rfl ?_); refine goesL_ (some 7) rfl rfl Try.func51 (by kernel_rfl) rfl #[] rfl (by (try simp only [List.map_toArray, List.map_cons, List.map_nil]); first | done | rfl | (simp only [List.length_drop, List.length_take]; rfl)) ?_; (with_reducible refine (hypercubelaw10_known.calls  true _ A2.out).mono ?_); rintro e w69 ⟨rfl, hb⟩; refine ⟨_, rfl, ?_⟩; have n0_ := Aside0.mk (below_step (by repeat (first | (with_reducible first | exact HB.out | apply below_alloc | apply pw_below_drewN | apply below_drew1) | exact HB.out)) hb); clear HB; have HB := n0_; clear n0_; (try clear hb); (try clear hb2); (try clear hk); (try clear hi)) | ((with_reducible refine gate_dst (N := 9) rfl ?_); (try (refine gate_guard (by rfl) ?_; dsimp only)); refine Kd.R_lit (Kd.int .i64) _ 3 ?hg (N := 9) ?hd (xs := ([1] : List Int)) (inner := [.int .i64 1]) (ok := fun _ => True) (okp := fun _ => True) ?hr ?hp (fun _ hk => hk) trivial (Below.refl _ _) (Nat.le_refl _) (by simp) ?_; (case hd => rfl); (case hg => rfl); (case hr => first | (go_simp; done) | (go_simp; rfl)); (case hp => exact (Reps.one (show Kd.M (Kd.int .i64) _ _ _ 1 [.int .i64 1] from rfl) (Reps.none _ _))); intro v172 w70 ho71 hb hg_ hnew_; clear hg_ hnew_; (first | rw [← Ny171.out] at ho71 | (simp only [Int.reduceToNat] at ho71; rw [← Ny171.out] at ho71)); have n0_ := Aside0.mk (Kd.R_lower ho71 (below_size (by repeat (first | (with_reducible first | exact HB.out | apply below_alloc | apply pw_below_drewN | apply below_drew1) | exact HB.out)))); have n1_ := Aside0.mk (below_step (by repeat (first | (with_reducible first | exact HB.out | apply below_alloc | apply pw_below_drewN | apply below_drew1) | exact HB.out)) hb); clear HB; have HO173 := n0_; have HB := n1_; clear n0_ n1_; clear hb ho71; obtain ⟨Ao72, co72, eo72⟩ := Kd.R_slice HO173.out; subst eo72) | ((with_reducible refine gate_dst (N := 11) rfl ?_); (try (refine gate_guard (by rfl) ?_; dsimp only)); refine Kd.R_lit (Kd.int .i64) _ 3 ?hg (N := 11) ?hd (xs := ([4] : List Int)) (inner := [.int .i64 4]) (ok := fun _ => True) (okp := fun _ => True) ?hr ?hp (fun _ hk => hk) trivial (Below.refl _ _) (Nat.le_refl _) (by simp) ?_; (case hd => rfl); (case hg => rfl); (case hr => first | (go_simp; done) | (go_simp; rfl)); (case hp => exact (Reps.one (show Kd.M (Kd.int .i64) _ _ _ 4 [.int .i64 4] from rfl) (Reps.none _ _))); intro v175 w73 ho74 hb hg_ hnew_; clear hg_ hnew_; (first | rw [← Ny174.out] at ho74 | (simp only [Int.reduceToNat] at ho74; rw [← Ny174.out] at ho74)); have n0_ := Aside0.mk (Kd.R_elder' (by (with_reducible repeat (first | apply Kd.R_alloc | apply Kd.R_drewN | apply Kd.R_drew)); exact HO173.out) (Kd.R_base ho74) hb); have n1_ := Aside0.mk (Kd.R_lower (Kd.R_new' ho74 (Kd.R_lt (by (with_reducible repeat (first | apply Kd.R_alloc | apply Kd.R_drewN | apply Kd.R_drew)); exact HO173.out))) (below_size (by repeat (first | (with_reducible first | exact HB.out | apply below_alloc | apply pw_below_drewN | apply below_drew1) | exact HB.out)))); have n2_ := Aside0.mk (below_step (by repeat (first | (with_reducible first | exact HB.out | apply below_alloc | apply pw_below_drewN | apply below_drew1) | exact HB.out)) hb); clear HO173; clear HB; have HO173 := n0_; have HO176 := n1_; have HB := n2_; clear n0_ n1_ n2_; clear hb ho74; obtain ⟨Ao75, co75, eo75⟩ := Kd.R_slice HO176.out; subst eo75) | ((with_reducible refine gate_dst (N := 13) rfl ?_); (try (refine gate_guard (by rfl) ?_; dsimp only)); refine Kd.R_lit (Kd.int .i64) _ 3 ?hg (N := 13) ?hd (xs := ([2, 3] : List Int)) (inner := [.int .i64 2, .int .i64 3]) (ok := fun _ => True) (okp := fun _ => True) ?hr ?hp (fun _ hk => hk) trivial (Below.refl _ _) (Nat.le_refl _) (by simp) ?_; (case hd => rfl); (case hg => rfl); (case hr => first | (go_simp; done) | (go_simp; rfl)); (case hp => exact (Reps.one (show Kd.M (Kd.int .i64) _ _ _ 2 [.int .i64 2] from rfl) (Reps.one (show Kd.M (Kd.int .i64) _ _ _ 3 [.int .i64 3] from rfl) (Reps.none _ _)))); intro v178 w76 ho77 hb hg_ hnew_; clear hg_ hnew_; (first | rw [← Ny177.out] at ho77 | (simp only [Int.reduceToNat] at ho77; rw [← Ny177.out] at ho77)); have n0_ := Aside0.mk (Kd.R_elder' (by (with_reducible repeat (first | apply Kd.R_alloc | apply Kd.R_drewN | apply Kd.R_drew)); exact HO173.out) (Kd.R_base ho77) hb); have n1_ := Aside0.mk (Kd.R_elder' (by (with_reducible repeat (first | apply Kd.R_alloc | apply Kd.R_drewN | apply Kd.R_drew)); exact HO176.out) (Kd.R_base ho77) hb); have n2_ := Aside0.mk (Kd.R_lower (Kd.R_new' (Kd.R_new' ho77 (Kd.R_lt (by (with_reducible repeat (first | apply Kd.R_alloc | apply Kd.R_drewN | apply Kd.R_drew)); exact HO173.out))) (Kd.R_lt (by (with_reducible repeat (first | apply Kd.R_alloc | apply Kd.R_drewN | apply Kd.R_drew)); exact HO176.out))) (below_size (by repeat (first | (with_reducible first | exact HB.out | apply below_alloc | apply pw_below_drewN | apply below_drew1) | exact HB.out)))); have n3_ := Aside0.mk (below_step (by repeat (first | (with_reducible first | exact HB.out | apply below_alloc | apply pw_below_drewN | apply below_drew1) | exact HB.out)) hb); clear HO173; clear HO176; clear HB; have HO173 := n0_; have HO176 := n1_; have HO179 := n2_; have HB := n3_; clear n0_ n1_ n2_ n3_; clear hb ho77; obtain ⟨Ao78, co78, eo78⟩ := Kd.R_slice HO179.out; subst eo78) | ((with_reducible refine gate_dst (N := 15) rfl ?_); (try (refine gate_guard (by rfl) ?_; dsimp only)); refine Kd.R_lit (Kd.int .i64) _ 3 ?hg (N := 15) ?hd (xs := ([3, 2] : List Int)) (inner := [.int .i64 3, .int .i64 2]) (ok := fun _ => True) (okp := fun _ => True) ?hr ?hp (fun _ hk => hk) trivial (Below.refl _ _) (Nat.le_refl _) (by simp) ?_; (case hd => rfl); (case hg => rfl); (case hr => first | (go_simp; done) | (go_simp; rfl)); (case hp => exact (Reps.one (show Kd.M (Kd.int .i64) _ _ _ 3 [.int .i64 3] from rfl) (Reps.one (show Kd.M (Kd.int .i64) _ _ _ 2 [.int .i64 2] from rfl) (Reps.none _ _)))); intro v181 w79 ho80 hb hg_ hnew_; clear hg_ hnew_; (first | rw [← Ny180.out] at ho80 | (simp only [Int.reduceToNat] at ho80; rw [← Ny180.out] at ho80)); have n0_ := Aside0.mk (Kd.R_elder' (by (with_reducible repeat (first | apply Kd.R_alloc | apply Kd.R_drewN | apply Kd.R_drew)); exact HO173.out) (Kd.R_base ho80) hb); have n1_ := Aside0.mk (Kd.R_elder' (by (with_reducible repeat (first | apply Kd.R_alloc | apply Kd.R_drewN | apply Kd.R_drew)); exact HO176.out) (Kd.R_base ho80) hb); have n2_ := Aside0.mk (Kd.R_elder' (by (with_reducible repeat (first | apply Kd.R_alloc | apply Kd.R_drewN | apply Kd.R_drew)); exact HO179.out) (Kd.R_base ho80) hb); have n3_ := Aside0.mk (Kd.R_lower (Kd.R_new' (Kd.R_new' (Kd.R_new' ho80 (Kd.R_lt (by (with_reducible repeat (first | apply Kd.R_alloc | apply Kd.R_drewN | apply Kd.R_drew)); exact HO173.out))) (Kd.R_lt (by (with_reducible repeat (first | apply Kd.R_alloc | apply Kd.R_drewN | apply Kd.R_drew)); exact HO176.out))) (Kd.R_lt (by (with_reducible repeat (first | apply Kd.R_alloc | apply Kd.R_drewN | apply Kd.R_drew)); exact HO179.out))) (below_size (by repeat (first | (with_reducible first | exact HB.out | apply below_alloc | apply pw_below_drewN | apply below_drew1) | exact HB.out)))); have n4_ := Aside0.mk (below_step (by repeat (first | (with_reducible first | exact HB.out | apply below_alloc | apply pw_below_drewN | apply below_drew1) | exact HB.out)) hb); clear HO173; clear HO176; clear HO179; clear HB; have HO173 := n0_; have HO176 := n1_; have HO179 := n2_; have HO182 := n3_; have HB := n4_; clear n0_ n1_ n2_ n3_ n4_; clear hb ho80; obtain ⟨Ao81, co81, eo81⟩ := Kd.R_slice HO182.out; subst eo81) | ((with_reducible refine gate_dst (N := 17) rfl ?_); (try (refine gate_guard (by rfl) ?_; dsimp only)); refine Kd.R_lit (Kd.int .i64) _ 3 ?hg (N := 17) ?hd (xs := ([1, 1] : List Int)) (inner := [.int .i64 1, .int .i64 1]) (ok := fun _ => True) (okp := fun _ => True) ?hr ?hp (fun _ hk => hk) trivial (Below.refl _ _) (Nat.le_refl _) (by simp) ?_; (case hd => rfl); (case hg => rfl); (case hr => first | (go_simp; done) | (go_simp; rfl)); (case hp => exact (Reps.one (show Kd.M (Kd.int .i64) _ _ _ 1 [.int .i64 1] from rfl) (Reps.one (show Kd.M (Kd.int .i64) _ _ _ 1 [.int .i64 1] from rfl) (Reps.none _ _)))); intro v184 w82 ho83 hb hg_ hnew_; clear hg_ hnew_; (first | rw [← Ny183.out] at ho83 | (simp only [Int.reduceToNat] at ho83; rw [← Ny183.out] at ho83)); have n0_ := Aside0.mk (Kd.R_elder' (by (with_reducible repeat (first | apply Kd.R_alloc | apply Kd.R_drewN | apply Kd.R_drew)); exact HO173.out) (Kd.R_base ho83) hb); have n1_ := Aside0.mk (Kd.R_elder' (by (with_reducible repeat (first | apply Kd.R_alloc | apply Kd.R_drewN | apply Kd.R_drew)); exact HO176.out) (Kd.R_base ho83) hb); have n2_ := Aside0.mk (Kd.R_elder' (by (with_reducible repeat (first | apply Kd.R_alloc | apply Kd.R_drewN | apply Kd.R_drew)); exact HO179.out) (Kd.R_base ho83) hb); have n3_ := Aside0.mk (Kd.R_elder' (by (with_reducible repeat (first | apply Kd.R_alloc | apply Kd.R_drewN | apply Kd.R_drew)); exact HO182.out) (Kd.R_base ho83) hb); have n4_ := Aside0.mk (Kd.R_lower (Kd.R_new' (Kd.R_new' (Kd.R_new' (Kd.R_new' ho83 (Kd.R_lt (by (with_reducible repeat (first | apply Kd.R_alloc | apply Kd.R_drewN | apply Kd.R_drew)); exact HO173.out))) (Kd.R_lt (by (with_reducible repeat (first | apply Kd.R_alloc | apply Kd.R_drewN | apply Kd.R_drew)); exact HO176.out))) (Kd.R_lt (by (with_reducible repeat (first | apply Kd.R_alloc | apply Kd.R_drewN | apply Kd.R_drew)); exact HO179.out))) (Kd.R_lt (by (with_reducible repeat (first | apply Kd.R_alloc | apply Kd.R_drewN | apply Kd.R_drew)); exact HO182.out))) (below_size (by repeat (first | (with_reducible first | exact HB.out | apply below_alloc | apply pw_below_drewN | apply below_drew1) | exact HB.out)))); have n5_ := Aside0.mk (below_step (by repeat (first | (with_reducible first | exact HB.out | apply below_alloc | apply pw_below_drewN | apply below_drew1) | exact HB.out)) hb); clear HO173; clear HO176; clear HO179; clear HO182; clear HB; have HO173 := n0_; have HO176 := n1_; have HO179 := n2_; have HO182 := n3_; have HO185 := n4_; have HB := n5_; clear n0_ n1_ n2_ n3_ n4_ n5_; clear hb ho83; obtain ⟨Ao84, co84, eo84⟩ := Kd.R_slice HO185.out; subst eo84) | ((with_reducible refine gate_dst (N := 19) rfl ?_); (try (refine gate_guard (by rfl) ?_; dsimp only)); refine Kd.N_lit k33 _ 33 ?hg (N' := 19) ?hd (xs := ([(⟨y171, 0⟩ : S33), (⟨y174, 0⟩ : S33), (⟨y177, 0⟩ : S33), (⟨y180, 0⟩ : S33), (⟨y183, 0⟩ : S33)] : List (S33))) (inner := [.slice Ao72 y171.length co72, .int .i64 0, .slice Ao75 y174.length co75, .int .i64 0, .slice Ao78 y177.length co78, .int .i64 0, .slice Ao81 y180.length co81, .int .i64 0, .slice Ao84 y183.length co84, .int .i64 0]) (ok := (fun _ => True)) (okp := (fun _ => True)) ?hr ?hp (fun _ hk => hk) ((show ∀ k_, w82.heap.size ≤ k_ → (fun _ => True) k_ from fun k_ hk => trivial) _ (Nat.le_refl _)) (Below.refl _ _) (Nat.le_refl _) (by simp) ?_; (case hd => rfl); (case hg => rfl); (case hr => first | (go_simp; done) | (go_simp; rfl)); (case hp => exact (Reps.c2 (show Kd.FK k33 _ _ (⟨y171, 0⟩ : S33) [.slice Ao72 y171.length co72, .int .i64 0] from (k33_mkF _ _ (⟨y171, 0⟩ : S33) (Kd.R_reads' (Kd.R_mono (ok' := (fun _ => True)) (HO173.out) (fun k_ hk => trivial))).2.1 (Kd.R_F (Kd.R_mono (ok' := (fun _ => True)) (HO173.out) (fun k_ hk => trivial))))) (Reps.c2 (show Kd.FK k33 _ _ (⟨y174, 0⟩ : S33) [.slice Ao75 y174.length co75, .int .i64 0] from (k33_mkF _ _ (⟨y174, 0⟩ : S33) (Kd.R_reads' (Kd.R_mono (ok' := (fun _ => True)) (HO176.out) (fun k_ hk => trivial))).2.1 (Kd.R_F (Kd.R_mono (ok' := (fun _ => True)) (HO176.out) (fun k_ hk => trivial))))) (Reps.c2 (show Kd.FK k33 _ _ (⟨y177, 0⟩ : S33) [.slice Ao78 y177.length co78, .int .i64 0] from (k33_mkF _ _ (⟨y177, 0⟩ : S33) (Kd.R_reads' (Kd.R_mono (ok' := (fun _ => True)) (HO179.out) (fun k_ hk => trivial))).2.1 (Kd.R_F (Kd.R_mono (ok' := (fun _ => True)) (HO179.out) (fun k_ hk => trivial))))) (Reps.c2 (show Kd.FK k33 _ _ (⟨y180, 0⟩ : S33) [.slice Ao81 y180.length co81, .int .i64 0] from (k33_mkF _ _ (⟨y180, 0⟩ : S33) (Kd.R_reads' (Kd.R_mono (ok' := (fun _ => True)) (HO182.out) (fun k_ hk => trivial))).2.1 (Kd.R_F (Kd.R_mono (ok' := (fun _ => True)) (HO182.out) (fun k_ hk => trivial))))) (Reps.c2 (show Kd.FK k33 _ _ (⟨y183, 0⟩ : S33) [.slice Ao84 y183.length co84, .int .i64 0] from (k33_mkF _ _ (⟨y183, 0⟩ : S33) (Kd.R_reads' (Kd.R_mono (ok' := (fun _ => True)) (HO185.out) (fun k_ hk => trivial))).2.1 (Kd.R_F (Kd.R_mono (ok' := (fun _ => True)) (HO185.out) (fun k_ hk => trivial))))) (Reps.none _ _))))))); intro v187 w85 ho86 hb hg_ hnew_; clear hg_ hnew_; (first | rw [← Ny186.out] at ho86 | (simp only [Int.reduceToNat] at ho86; rw [← Ny186.out] at ho86)); have n0_ := Aside0.mk (Kd.N_lower ho86 (below_size (by repeat (first | (with_reducible first | exact HB.out | apply below_alloc | apply pw_below_drewN | apply below_drew1) | exact HB.out)))); have n1_ := Aside0.mk (below_step (by repeat (first | (with_reducible first | exact HB.out | apply below_alloc | apply pw_below_drewN | apply below_drew1) | exact HB.out)) hb); clear HB; clear HO173; clear HO176; clear HO179; clear HO182; clear HO185; have HO188 := n0_; have HB := n1_; clear n0_ n1_; clear hb ho86) | ((with_reducible refine gate_dst (N := 20) rfl ?_); (try (refine gate_guard (by rfl) ?_; dsimp only)); refine Kd.R_lit (Kd.int .i64) _ 3 ?hg (N := 20) ?hd (xs := ([1, 4, 32, 32, 4] : List Int)) (inner := [.int .i64 1, .int .i64 4, .int .i64 32, .int .i64 32, .int .i64 4]) (ok := fun _ => True) (okp := fun _ => True) ?hr ?hp (fun _ hk => hk) trivial (Below.refl _ _) (Nat.le_refl _) (by simp) ?_; (case hd => rfl); (case hg => rfl); (case hr => first | (go_simp; done) | (go_simp; rfl)); (case hp => exact (Reps.one (show Kd.M (Kd.int .i64) _ _ _ 1 [.int .i64 1] from rfl) (Reps.one (show Kd.M (Kd.int .i64) _ _ _ 4 [.int .i64 4] from rfl) (Reps.one (show Kd.M (Kd.int .i64) _ _ _ 32 [.int .i64 32] from rfl) (Reps.one (show Kd.M (Kd.int .i64) _ _ _ 32 [.int .i64 32] from rfl) (Reps.one (show Kd.M (Kd.int .i64) _ _ _ 4 [.int .i64 4] from rfl) (Reps.none _ _))))))); intro v190 w87 ho88 hb hg_ hnew_; clear hg_ hnew_; (first | rw [← Ny189.out] at ho88 | (simp only [Int.reduceToNat] at ho88; rw [← Ny189.out] at ho88)); have n0_ := Aside0.mk (Kd.N_elder' (by (with_reducible repeat (first | apply Kd.N_alloc | apply Kd.N_drewN | apply Kd.N_drew)); exact HO188.out) (Kd.R_base ho88) hb); have n1_ := Aside0.mk (Kd.R_lower ho88 (below_size (by repeat (first | (with_reducible first | exact HB.out | apply below_alloc | apply pw_below_drewN | apply below_drew1) | exact HB.out)))); have n2_ := Aside0.mk (below_step (by repeat (first | (with_reducible first | exact HB.out | apply below_alloc | apply pw_below_drewN | apply below_drew1) | exact HB.out)) hb); clear HO188; clear HB; have HO188 := n0_; have HO191 := n1_; have HB := n2_; clear n0_ n1_ n2_; clear hb ho88; obtain ⟨Ao89, co89, eo89⟩ := Kd.N_slice HO188.out; subst eo89) | ((with_reducible refine gate_callee (f := 52) rfl ?_); refine goesL_ (some 24) rfl rfl Try.func52 (by kernel_rfl) rfl #[.int .i64 a0, .int .i64 (y186.length : Int)] rfl (by (try simp only [List.map_toArray, List.map_cons, List.map_nil]); first | done | rfl | (simp only [List.length_drop, List.length_take]; rfl)) ?_; (with_reducible refine (hypercubelaw10_within.calls a0 (y186.length : Int) t192 _ A4.out).mono ?_); rintro e w' ⟨rfl, ⟨nd, rfl⟩⟩; refine ⟨_, rfl, ?_⟩; have p193 : 0 ≤ (t192 : Int) := of_decide_eq_true (by first | (with_reducible assumption) | assumption); have q193 : t192 < (y186.length : Int) := of_decide_eq_true (by first | (with_reducible assumption) | assumption); obtain ⟨ad193, A193_0, c193_0, e193, hx193_0, hx193_1, hl193_0, hi193_0⟩ := at_T33 (Kd.N_reads' HO188.out).2.2 t192 p193 q193; cases e193; obtain ⟨ce193, hce193, hMe193, hcc193⟩ := Kd.N_get HO188.out z33 t192 p193 (by first | exact q193 | exact of_decide_eq_true (by first | (with_reducible assumption) | assumption) | (have e_ := (Kd.N_reads' HO188.out).1; omega)); obtain ⟨ua193_0, uc193_0, rfl, ul193_0, ge193_0⟩ := k33_openF hMe193; have hv193_0 := hcc193 0 _ rfl; rw [Nat.add_zero] at hv193_0; replace hv193_0 := Option.some.inj (hv193_0.symm.trans hx193_0); injection hv193_0 with hva_ hvn_ hvc_; rw [hva_] at ge193_0; rw [hvc_] at ul193_0; have HL193_0 := Aside0.mk (show Kd.V (Kd.int .i64) 3 _ w.heap.size _ _ ((rd_T33 y186 t192).f0) from Kd.V_mk ul193_0 ge193_0); clear hva_ hvn_ hvc_ ge193_0 ul193_0; clear hcc193 hce193; have HR193_0 := Aside0.mk hi193_0; have HC193_0 := Aside0.mk hl193_0; clear hi193_0 hl193_0; replace p193 := eq_true p193; replace q193 := eq_true q193) | ((with_reducible refine gate_callee (f := 55) rfl ?_); refine goesL_ (some 29) rfl rfl Try.func55 (by kernel_rfl) rfl #[.agg #[.slice A193_0 ((rd_T33 y186 t192).f0).length c193_0, .int .i64 ((rd_T33 y186 t192).f1)], .int .i64 100] rfl (by (try simp only [List.map_toArray, List.map_cons, List.map_nil]); first | done | rfl | (simp only [List.length_drop, List.length_take]; rfl)) ?_; (with_reducible refine (sorts_Plan.calls _ _ ((rd_T33 y186 t192).f0) ((rd_T33 y186 t192).f1) 100 t194 _ ?side1 ?side2 A7.out).mono ?_); (case side1 => repeat (first | exact (by repeat (first | (with_reducible exact HR193_0.out) | (with_reducible refine Kd.C_alloc ?_ _) | (with_reducible refine Kd.C_drewN ?_ _) | (with_reducible refine Kd.C_drew ?_) | exact HR193_0.out)) | (with_reducible refine Kd.C_alloc ?_ _) | (with_reducible refine Kd.C_drewN ?_ _) | (with_reducible refine Kd.C_drew ?_))); (case side2 => exact HC193_0.out); rintro e w90 ⟨v195, rfl, ho0, hb⟩; refine ⟨_, rfl, ?_⟩; have n0_ := Aside0.mk (Kd.N_elder' (by (with_reducible repeat (first | apply Kd.N_alloc | apply Kd.N_drewN | apply Kd.N_drew)); exact HO188.out) (Kd.R_base ho0) hb); have n1_ := Aside0.mk (Kd.R_below (by (with_reducible repeat (first | apply Kd.R_alloc | apply Kd.R_drewN | apply Kd.R_drew)); exact HO191.out) hb); have n2_ := Aside0.mk (Kd.V_elder' (by (with_reducible repeat (first | apply Kd.V_alloc | apply Kd.V_drewN | apply Kd.V_drew)); exact HL193_0.out) (Kd.R_base ho0) hb); have n3_ := Aside0.mk (Kd.R_lower ho0 (below_size (by repeat (first | (with_reducible first | exact HB.out | apply below_alloc | apply pw_below_drewN | apply below_drew1) | exact HB.out)))); have n4_ := Aside0.mk (Kd.C_below (by repeat (first | (with_reducible exact HR193_0.out) | (with_reducible refine Kd.C_alloc ?_ _) | (with_reducible refine Kd.C_drewN ?_ _) | (with_reducible refine Kd.C_drew ?_) | exact HR193_0.out)) hb); have n5_ := Aside0.mk (below_step (by repeat (first | (with_reducible first | exact HB.out | apply below_alloc | apply pw_below_drewN | apply below_drew1) | exact HB.out)) hb); clear HO188; clear HO191; clear HL193_0; clear HR193_0; clear HB; have HO188 := n0_; have HO191 := n1_; have HL193_0 := n2_; have HO196 := n3_; have HR193_0 := n4_; have HB := n5_; clear n0_ n1_ n2_ n3_ n4_ n5_; (try clear hb); (try clear hb2); (try clear hk); (try clear hi); (try clear ho0)))
  have n0_ := Aside0.mk (Kd.N_drew HO188.out)
  have n1_ := Aside0.mk (Kd.R_drew HO191.out)
  have n2_ := Aside0.mk (Kd.V_drew HL193_0.out)
  have n3_ := Aside0.mk (Kd.R_drew HO196.out)
  have n4_ := Aside0.mk (Kd.C_drew HR193_0.out)
  have n5_ := Aside0.mk (below_drew1 HB.out)
  clear HO188
  clear HO191
  clear HL193_0
  clear HO196
  clear HR193_0
  clear HB
  have HO188 := n0_
  have HO191 := n1_
  have HL193_0 := n2_
  have HO196 := n3_
  have HR193_0 := n4_
  have HB := n5_
  clear n0_ n1_ n2_ n3_ n4_ n5_
  have p197 : 0 ≤ (t192 : Int) := od_
  have q197 : t192 < (y186.length : Int) := od_
  obtain ⟨ad197, A197_0, c197_0, e197, hx197_0, hx197_1, hl197_0, hi197_0⟩ := at_T33 (Kd.N_reads' HO188.out).2.2 t192 p197 q197
  obtain rfl : ad193 = ad197 := (by injection e197)
  obtain ⟨ce197, hce197, hMe197, hcc197⟩ := Kd.N_get HO188.out z33 t192 p197 (by first | exact q197 | exact of_decide_eq_true (by first | (with_reducible assumption) | assumption) | (have e_ := (Kd.N_reads' HO188.out).1; omega))
  obtain ⟨ua197_0, uc197_0, rfl, ul197_0, ge197_0⟩ := k33_openF hMe197
  have hv197_0 := hcc197 0 _ rfl
  rw [Nat.add_zero] at hv197_0
  replace hv197_0 := Option.some.inj (hv197_0.symm.trans hx197_0)
  injection hv197_0 with hva_ hvn_ hvc_
  rw [hva_] at ge197_0
  rw [hvc_] at ul197_0
  have HL197_0 := Aside0.mk (show Kd.V (Kd.int .i64) 3 _ w.heap.size _ _ ((rd_T33 y186 t192).f0) from Kd.V_mk ul197_0 ge197_0)
  clear hva_ hvn_ hvc_ ge197_0 ul197_0
  clear hcc197 hce197
  have HR197_0 := Aside0.mk hi197_0
  have HC197_0 := Aside0.mk hl197_0
  clear hi197_0 hl197_0
  replace p197 := eq_true p197
  replace q197 := eq_true q197
  obtain ⟨Ao92, co92, eo92⟩ := Kd.R_slice HO191.out
  (first | subst eo92 | (injection eo92 with f1_ f2_ f3_; have f4_ := f1_.symm; have f5_ := f3_.symm; clear f1_ f2_ f3_; subst f4_; subst f5_))
  have p199 : 0 ≤ (t192 : Int) := od_
  have q199 : t192 < (y189.length : Int) := od_
  obtain ⟨ad199, e199, hx199_0⟩ := Kd.at_int (Kd.R_reads' HO191.out).2.2 t192 p199 q199
  cases e199
  replace p199 := eq_true p199
  replace q199 := eq_true q199
  obtain ⟨Ao93, co93, eo93⟩ := Kd.R_slice HO196.out
  (first | subst eo93 | (injection eo93 with f1_ f2_ f3_; have f4_ := f1_.symm; have f5_ := f3_.symm; clear f1_ f2_ f3_; subst f4_; subst f5_))
  refine start_ (n := 35) (S := fun w' => w'.cell? (ad193.add ((t192).toNat * 2)) = some (.slice A197_0 ((rd_T33 y186 t192).f0).length c197_0) ∧ w'.cell? ⟨(ad193.add ((t192).toNat * 2)).block, (ad193.add ((t192).toNat * 2)).off + 1, none⟩ = some (.int .i64 ((rd_T33 y186 t192).f1)) ∧ w'.cell? (ad199.add (t192).toNat) = some (.int .i64 (rd y189 t192))) (ds := []) (fl_ 0 35) (by kernel_rfl) rfl rfl ⟨hx197_0, hx197_1, hx199_0⟩ (fun hHeld => ?_); refine with_tabW hypercubelaw10_SortsKnown.tab7 hypercubelaw10_SortsKnown.bits7 (fun HT_ HW_ => ?_)
  generalize w90.drew = w91 at HO188 HO191 HL193_0 HO196 HR193_0 HB HL197_0 HR197_0 hx197_0 hx197_1 hx199_0 hHeld ⊢
  refine pure_ (i := 0) (N := some 30) (v := ?_) (a' := ?_) (fl_ 1 34) rfl rfl (any_of HT_.out (by kernel_rfl)) (fun _ _ _ h => h) (Or.inl ⟨by rfl, ?_⟩) ?_ ?_
  rotate_left
  ·intro w'
   go_simp
   with_reducible rfl
  rotate_left
  ·simp only [Act.put, sl0, sl1, sl2, i64_w, i32_w]
   rfl
  refine pure_ (i := 1) (N := some 31) (v := ?_) (a' := ?_) (fl_ 2 33) rfl rfl (any_of HT_.out (by kernel_rfl)) (fun _ _ _ h => h) (Or.inl ⟨by rfl, ?_⟩) ?_ ?_
  rotate_left
  ·intro w'
   go_simp
   with_reducible rfl
  rotate_left
  ·simp only [Act.put, sl0, sl1, sl2, i64_w, i32_w]
   rfl
  refine pure_ (i := 2) (N := some 32) (v := ?_) (a' := ?_) (fl_ 3 32) rfl rfl (any_of HT_.out (by kernel_rfl)) (fun _ _ _ h => h) (Or.inl ⟨by rfl, ?_⟩) ?_ ?_
  rotate_left
  ·intro w'
   go_simp
   with_reducible rfl
  rotate_left
  ·simp only [Act.put, sl0, sl1, sl2, i64_w, i32_w]
   rfl
  refine pure_ (i := 4) (N := some 34) (v := ?_) (a' := ?_) #[Y,Y,Y,Z,Y,Z,Z,Z,Z,Z,Z,Z,Z,Z,Z,Z,Z,Z,Z,Z,Z,Z,Z,Z,Z,Z,Z,Z,Z,Z,Z,Z,Z,Z,Z] rfl rfl (any_of HT_.out (by kernel_rfl)) (fun _ _ _ h => h) (Or.inl ⟨by rfl, ?_⟩) ?_ ?_
  rotate_left
  ·intro w'
   go_simp
   with_reducible rfl
  rotate_left
  ·simp only [Act.put, sl0, sl1, sl2, i64_w, i32_w]
   rfl
  refine pure_ (i := 6) (N := some 36) (v := ?_) (a' := ?_) #[Y,Y,Y,Z,Y,Z,Y,Z,Z,Z,Z,Z,Z,Z,Z,Z,Z,Z,Z,Z,Z,Z,Z,Z,Z,Z,Z,Z,Z,Z,Z,Z,Z,Z,Z] rfl rfl (any_of HT_.out (by kernel_rfl)) (fun _ _ _ h => h) (Or.inl ⟨by rfl, ?_⟩) ?_ ?_
  rotate_left
  ·intro w'
   go_simp
   with_reducible rfl
  rotate_left
  ·simp only [Act.put, sl0, sl1, sl2, i64_w, i32_w]
   rfl
  refine pure_ (i := 7) (N := some 37) (v := ?_) (a' := ?_) #[Y,Y,Y,Z,Y,Z,Y,Y,Z,Z,Z,Z,Z,Z,Z,Z,Z,Z,Z,Z,Z,Z,Z,Z,Z,Z,Z,Z,Z,Z,Z,Z,Z,Z,Z] rfl rfl (any_of HT_.out (by kernel_rfl)) (fun _ _ _ h => h) (Or.inl ⟨by rfl, ?_⟩) ?_ ?_
  rotate_left
  ·intro w'
   go_simp
   with_reducible rfl
  rotate_left
  ·simp only [Act.put, sl0, sl1, sl2, i64_w, i32_w]
   rfl
  refine pure_ (i := 8) (N := some 38) (v := ?_) (a' := ?_) #[Y,Y,Y,Z,Y,Z,Y,Y,Y,Z,Z,Z,Z,Z,Z,Z,Z,Z,Z,Z,Z,Z,Z,Z,Z,Z,Z,Z,Z,Z,Z,Z,Z,Z,Z] rfl rfl (any_of HT_.out (by kernel_rfl)) (fun _ _ _ h => h) (Or.inl ⟨by rfl, ?_⟩) ?_ ?_
  rotate_left
  ·intro w'
   go_simp
   with_reducible rfl
  rotate_left
  ·simp only [Act.put, sl0, sl1, sl2, i64_w, i32_w]
   rfl
  refine take_ (i := 3) (N := some 33) (v := ?_) (a' := ?_) #[Y,Y,Y,Y,Y,Z,Y,Y,Y,Z,Z,Z,Z,Z,Z,Z,Z,Z,Z,Z,Z,Z,Z,Z,Z,Z,Z,Z,Z,Z,Z,Z,Z,Z,Z] rfl rfl (take_ofW HT_.out HW_.out (by kernel_rfl)) (fun _ _ _ h => h) (Or.inl ⟨by rfl, ?_⟩) hHeld ?_ ?_
  rotate_left
  ·rintro w' ⟨s0, s1, s2⟩
   go_simp
   with_reducible rfl
  rotate_left
  ·simp only [Act.put, sl0, sl1, sl2, i64_w, i32_w]
   rfl
  refine take_ (i := 9) (N := some 39) (v := ?_) (a' := ?_) #[Y,Y,Y,Y,Y,Z,Y,Y,Y,Y,Z,Z,Z,Z,Z,Z,Z,Z,Z,Z,Z,Z,Z,Z,Z,Z,Z,Z,Z,Z,Z,Z,Z,Z,Z] rfl rfl (take_ofW HT_.out HW_.out (by kernel_rfl)) (fun _ _ _ h => h) (Or.inl ⟨by rfl, ?_⟩) hHeld ?_ ?_
  rotate_left
  ·rintro w' ⟨s0, s1, s2⟩
   go_simp
   with_reducible rfl
  rotate_left
  ·simp only [Act.put, sl0, sl1, sl2, i64_w, i32_w]
   rfl
  refine one_ (i := 5) (N := some 35) (fl_ 10 25) rfl rfl (one_of HT_.out (by kernel_rfl)) (by decide) (fun K hK => ?_)
  refine goes_ Try.func56 (by kernel_rfl) rfl #[.agg #[.slice A197_0 ((rd_T33 y186 t192).f0).length c197_0, .int .i64 ((rd_T33 y186 t192).f1)], .int .i64 100, .slice Ao93 t194.length co93] (by rfl) rfl rfl (by (try simp only [List.map_toArray, List.map_cons, List.map_nil]); first | done | rfl | (simp only [List.length_drop, List.length_take]; rfl)) ?_
  with_reducible refine (sorts_Cost.calls _ _ ((rd_T33 y186 t192).f0) ((rd_T33 y186 t192).f1) 100 _ _ t194 t198 _ ?side1 ?side2 ?side3 ?side4 A8.out).mono ?_
  (case side1 => repeat (first | exact (by repeat (first | (with_reducible exact HR197_0.out) | (with_reducible refine Kd.C_alloc ?_ _) | (with_reducible refine Kd.C_drewN ?_ _) | (with_reducible refine Kd.C_drew ?_) | exact HR197_0.out)) | (with_reducible refine Kd.C_alloc ?_ _) | (with_reducible refine Kd.C_drewN ?_ _) | (with_reducible refine Kd.C_drew ?_)))
  (case side2 => exact HC197_0.out)
  (case side3 => repeat (first | exact (Kd.R_reads' HO196.out).2.2 | (with_reducible refine Kd.C_alloc ?_ _) | (with_reducible refine Kd.C_drewN ?_ _) | (with_reducible refine Kd.C_drew ?_)))
  (case side4 => exact (Kd.R_reads' HO196.out).2.1)
  rintro e w94 ⟨rfl, hb⟩
  have HS0_ := (hb.cell (World.block_lt_of_cell? _ _ (hHeld.1))).trans (hHeld.1)
  have HS1_ := (hb.cell (World.block_lt_of_cell? _ _ (hHeld.2.1))).trans (hHeld.2.1)
  have HS2_ := (hb.cell (World.block_lt_of_cell? _ _ (hHeld.2.2))).trans (hHeld.2.2)
  refine ⟨_, rfl, ?_⟩
  have n0_ := Aside0.mk (Kd.N_below (by (with_reducible repeat (first | apply Kd.N_alloc | apply Kd.N_drewN | apply Kd.N_drew)); exact HO188.out) hb)
  have n1_ := Aside0.mk (Kd.R_below (by (with_reducible repeat (first | apply Kd.R_alloc | apply Kd.R_drewN | apply Kd.R_drew)); exact HO191.out) hb)
  have n2_ := Aside0.mk (Kd.V_below (by (with_reducible repeat (first | apply Kd.V_alloc | apply Kd.V_drewN | apply Kd.V_drew)); exact HL193_0.out) hb)
  have n3_ := Aside0.mk (Kd.R_below (by (with_reducible repeat (first | apply Kd.R_alloc | apply Kd.R_drewN | apply Kd.R_drew)); exact HO196.out) hb)
  have n4_ := Aside0.mk (Kd.V_below (by (with_reducible repeat (first | apply Kd.V_alloc | apply Kd.V_drewN | apply Kd.V_drew)); exact HL197_0.out) hb)
  have n5_ := Aside0.mk (Kd.C_below (by repeat (first | (with_reducible exact HR193_0.out) | (with_reducible refine Kd.C_alloc ?_ _) | (with_reducible refine Kd.C_drewN ?_ _) | (with_reducible refine Kd.C_drew ?_) | exact HR193_0.out)) hb)
  have n6_ := Aside0.mk (Kd.C_below (by repeat (first | (with_reducible exact HR197_0.out) | (with_reducible refine Kd.C_alloc ?_ _) | (with_reducible refine Kd.C_drewN ?_ _) | (with_reducible refine Kd.C_drew ?_) | exact HR197_0.out)) hb)
  have n7_ := Aside0.mk (below_step (by repeat (first | (with_reducible first | exact HB.out | apply below_alloc | apply pw_below_drewN | apply below_drew1) | exact HB.out)) hb)
  clear HO188
  clear HO191
  clear HL193_0
  clear HO196
  clear HL197_0
  clear HR193_0
  clear HR197_0
  clear HB
  have HO188 := n0_
  have HO191 := n1_
  have HL193_0 := n2_
  have HO196 := n3_
  have HL197_0 := n4_
  have HR193_0 := n5_
  have HR197_0 := n6_
  (try have HL200_0 := HL197_0)
  (try have HR200_0 := HR197_0)
  (try have HL202_0 := HL197_0)
  (try have HR202_0 := HR197_0)
  have HB := n7_
  clear n0_ n1_ n2_ n3_ n4_ n5_ n6_ n7_
  (try clear hb)
  (try clear hb2)
  (try clear hk)
  (try clear hi)
  refine hK.out _ _ ⟨HS0_, HS1_, HS2_⟩ (fun hHeld => ?_)
  clear hK K
  refine norm_ (a' := ?_) ?_ ?_
  rotate_left
  ·show Act.put _ (some 35) _ = _
   simp only [Act.put, sl0, sl1, sl2, i64_w, i32_w]
   rfl
  refine pure_ (i := 10) (N := some 40) (v := ?_) (a' := ?_) (fl_ 11 24) rfl rfl (any_of HT_.out (by kernel_rfl)) (fun _ _ _ h => h) (Or.inl ⟨by rfl, ?_⟩) ?_ ?_
  rotate_left
  ·intro w'
   go_simp
   with_reducible rfl
  rotate_left
  ·simp only [Act.put, sl0, sl1, sl2, i64_w, i32_w]
   rfl
  refine pure_ (i := 11) (N := some 41) (v := ?_) (a' := ?_) (fl_ 12 23) rfl rfl (any_of HT_.out (by kernel_rfl)) (fun _ _ _ h => h) (Or.inl ⟨by rfl, ?_⟩) ?_ ?_
  rotate_left
  ·intro w'
   go_simp
   with_reducible rfl
  rotate_left
  ·simp only [Act.put, sl0, sl1, sl2, i64_w, i32_w]
   rfl
  refine pure_ (i := 12) (N := some 42) (v := undef) (a' := ?_) (fl_ 13 22) rfl rfl (any_of HT_.out (by kernel_rfl)) (fun _ _ _ h => h) (Or.inr ⟨by rfl, rfl⟩) ?_ ?_
  rotate_left
  ·simp only [Act.put, sl0, sl1, sl2, i64_w, i32_w]
   rfl
  refine pure_ (i := 13) (N := some 43) (v := undef) (a' := ?_) (fl_ 14 21) rfl rfl (any_of HT_.out (by kernel_rfl)) (fun _ _ _ h => h) (Or.inr ⟨by rfl, rfl⟩) ?_ ?_
  rotate_left
  ·simp only [Act.put, sl0, sl1, sl2, i64_w, i32_w]
   rfl
  refine pure_ (i := 14) (N := some 44) (v := undef) (a' := ?_) (fl_ 15 20) rfl rfl (any_of HT_.out (by kernel_rfl)) (fun _ _ _ h => h) (Or.inr ⟨by rfl, rfl⟩) ?_ ?_
  rotate_left
  ·simp only [Act.put, sl0, sl1, sl2, i64_w, i32_w]
   rfl
  refine pure_ (i := 15) (N := some 45) (v := undef) (a' := ?_) (fl_ 16 19) rfl rfl (any_of HT_.out (by kernel_rfl)) (fun _ _ _ h => h) (Or.inr ⟨by rfl, rfl⟩) ?_ ?_
  rotate_left
  ·simp only [Act.put, sl0, sl1, sl2, i64_w, i32_w]
   rfl
  refine pure_ (i := 16) (N := some 46) (v := undef) (a' := ?_) (fl_ 17 18) rfl rfl (any_of HT_.out (by kernel_rfl)) (fun _ _ _ h => h) (Or.inr ⟨by rfl, rfl⟩) ?_ ?_
  rotate_left
  ·simp only [Act.put, sl0, sl1, sl2, i64_w, i32_w]
   rfl
  refine pure_ (i := 17) (N := some 47) (v := undef) (a' := ?_) (fl_ 18 17) rfl rfl (any_of HT_.out (by kernel_rfl)) (fun _ _ _ h => h) (Or.inr ⟨by rfl, rfl⟩) ?_ ?_
  rotate_left
  ·simp only [Act.put, sl0, sl1, sl2, i64_w, i32_w]
   rfl
  refine pure_ (i := 18) (N := some 48) (v := undef) (a' := ?_) (fl_ 19 16) rfl rfl (any_of HT_.out (by kernel_rfl)) (fun _ _ _ h => h) (Or.inr ⟨by rfl, rfl⟩) ?_ ?_
  rotate_left
  ·simp only [Act.put, sl0, sl1, sl2, i64_w, i32_w]
   rfl
  refine pure_ (i := 19) (N := some 49) (v := undef) (a' := ?_) (fl_ 20 15) rfl rfl (any_of HT_.out (by kernel_rfl)) (fun _ _ _ h => h) (Or.inr ⟨by rfl, rfl⟩) ?_ ?_
  rotate_left
  ·simp only [Act.put, sl0, sl1, sl2, i64_w, i32_w]
   rfl
  refine pure_ (i := 20) (N := some 50) (v := ?_) (a' := ?_) (fl_ 21 14) rfl rfl (any_of HT_.out (by kernel_rfl)) (fun _ _ _ h => h) (Or.inl ⟨by rfl, ?_⟩) ?_ ?_
  rotate_left
  ·intro w'
   go_simp
   with_reducible rfl
  rotate_left
  ·simp only [Act.put, sl0, sl1, sl2, i64_w, i32_w]
   rfl
  refine pure_ (i := 21) (N := some 51) (v := ?_) (a' := ?_) (fl_ 22 13) rfl rfl (any_of HT_.out (by kernel_rfl)) (fun _ _ _ h => h) (Or.inl ⟨by rfl, ?_⟩) ?_ ?_
  rotate_left
  ·intro w'
   go_simp
   with_reducible rfl
  rotate_left
  ·simp only [Act.put, sl0, sl1, sl2, i64_w, i32_w]
   rfl
  refine pure_ (i := 22) (N := some 52) (v := undef) (a' := ?_) (fl_ 23 12) rfl rfl (any_of HT_.out (by kernel_rfl)) (fun _ _ _ h => h) (Or.inr ⟨by rfl, rfl⟩) ?_ ?_
  rotate_left
  ·simp only [Act.put, sl0, sl1, sl2, i64_w, i32_w]
   rfl
  refine pure_ (i := 23) (N := some 53) (v := undef) (a' := ?_) (fl_ 24 11) rfl rfl (any_of HT_.out (by kernel_rfl)) (fun _ _ _ h => h) (Or.inr ⟨by rfl, rfl⟩) ?_ ?_
  rotate_left
  ·simp only [Act.put, sl0, sl1, sl2, i64_w, i32_w]
   rfl
  refine pure_ (i := 24) (N := some 54) (v := undef) (a' := ?_) (fl_ 25 10) rfl rfl (any_of HT_.out (by kernel_rfl)) (fun _ _ _ h => h) (Or.inr ⟨by rfl, rfl⟩) ?_ ?_
  rotate_left
  ·simp only [Act.put, sl0, sl1, sl2, i64_w, i32_w]
   rfl
  refine pure_ (i := 25) (N := some 55) (v := undef) (a' := ?_) (fl_ 26 9) rfl rfl (any_of HT_.out (by kernel_rfl)) (fun _ _ _ h => h) (Or.inr ⟨by rfl, rfl⟩) ?_ ?_
  rotate_left
  ·simp only [Act.put, sl0, sl1, sl2, i64_w, i32_w]
   rfl
  refine pure_ (i := 26) (N := some 56) (v := undef) (a' := ?_) (fl_ 27 8) rfl rfl (any_of HT_.out (by kernel_rfl)) (fun _ _ _ h => h) (Or.inr ⟨by rfl, rfl⟩) ?_ ?_
  rotate_left
  ·simp only [Act.put, sl0, sl1, sl2, i64_w, i32_w]
   rfl
  refine pure_ (i := 27) (N := some 57) (v := undef) (a' := ?_) (fl_ 28 7) rfl rfl (any_of HT_.out (by kernel_rfl)) (fun _ _ _ h => h) (Or.inr ⟨by rfl, rfl⟩) ?_ ?_
  rotate_left
  ·simp only [Act.put, sl0, sl1, sl2, i64_w, i32_w]
   rfl
  refine pure_ (i := 28) (N := some 58) (v := undef) (a' := ?_) (fl_ 29 6) rfl rfl (any_of HT_.out (by kernel_rfl)) (fun _ _ _ h => h) (Or.inr ⟨by rfl, rfl⟩) ?_ ?_
  rotate_left
  ·simp only [Act.put, sl0, sl1, sl2, i64_w, i32_w]
   rfl
  refine pure_ (i := 29) (N := some 59) (v := undef) (a' := ?_) (fl_ 30 5) rfl rfl (any_of HT_.out (by kernel_rfl)) (fun _ _ _ h => h) (Or.inr ⟨by rfl, rfl⟩) ?_ ?_
  rotate_left
  ·simp only [Act.put, sl0, sl1, sl2, i64_w, i32_w]
   rfl
  refine pure_ (i := 30) (N := some 60) (v := undef) (a' := ?_) (fl_ 31 4) rfl rfl (any_of HT_.out (by kernel_rfl)) (fun _ _ _ h => h) (Or.inr ⟨by rfl, rfl⟩) ?_ ?_
  rotate_left
  ·simp only [Act.put, sl0, sl1, sl2, i64_w, i32_w]
   rfl
  refine pure_ (i := 31) (N := some 61) (v := undef) (a' := ?_) (fl_ 32 3) rfl rfl (any_of HT_.out (by kernel_rfl)) (fun _ _ _ h => h) (Or.inr ⟨by rfl, rfl⟩) ?_ ?_
  rotate_left
  ·simp only [Act.put, sl0, sl1, sl2, i64_w, i32_w]
   rfl
  refine pure_ (i := 32) (N := some 62) (v := undef) (a' := ?_) (fl_ 33 2) rfl rfl (any_of HT_.out (by kernel_rfl)) (fun _ _ _ h => h) (Or.inr ⟨by rfl, rfl⟩) ?_ ?_
  rotate_left
  ·simp only [Act.put, sl0, sl1, sl2, i64_w, i32_w]
   rfl
  refine pure_ (i := 33) (N := some 63) (v := ?_) (a' := ?_) (fl_ 34 1) rfl rfl (any_of HT_.out (by kernel_rfl)) (fun _ _ _ h => h) (Or.inl ⟨by rfl, ?_⟩) ?_ ?_
  rotate_left
  ·intro w'
   go_simp
   with_reducible rfl
  rotate_left
  ·simp only [Act.put, sl0, sl1, sl2, i64_w, i32_w]
   rfl
  refine pure_ (i := 34) (N := some 2) (v := ?_) (a' := ?_) (fl_ 35 0) rfl rfl (any_of HT_.out (by kernel_rfl)) (fun _ _ _ h => h) (Or.inl ⟨by rfl, ?_⟩) ?_ ?_
  rotate_left
  ·intro w'
   go_simp
   with_reducible rfl
  rotate_left
  ·simp only [Act.put, sl0, sl1, sl2, i64_w, i32_w]
   rfl
  refine done_ (done_of HT_.out (by kernel_rfl)) ?_
  try go_wp2
  go_ret
  exact ⟨by first | rfl | (simp [errW_none, errW_some] <;> rfl) | (simp [*, errW_none, errW_some] <;> rfl), by repeat (first | (with_reducible first | exact HB.out | apply below_alloc | apply pw_below_drewN | apply below_drew1) | exact HB.out)⟩
 rw [if_pos c10] at H
 have c10b0 : (t198 == (rd y189 t192)) = true := beq_iff_eq.mpr c10
 have c10b1 : (t198 != (rd y189 t192)) = false := bne_eq_false_iff_eq.mpr c10
 clear c10
 replace H := Option.bind_eq_some_iff.mp H
 obtain ⟨t201, A110, H⟩ := H
 replace H : (if t201 = true then ((hypercuberef10_Cost.f k ((rd_T33 y186 t192).f0) ((rd_T33 y186 t192).f1) 100 t194).bind fun t203 => (some (t203 == (rd y189 t192)))) else (some false)) = some r := H
 have A11 := Aside0.mk A110
 clear A110
 by_cases c12 : t201 = true
 rotate_left
 ·replace c12 := Bool.eq_false_iff.mpr c12
  subst c12
  have H1 : (some false) = some r := by rw [if_neg (show ¬ (false = true) by decide)] at H; exact H
  clear H
  have H := H1
  clear H1
  obtain rfl := Option.some.inj H
  go_enter Try.func23, Try.ntmps23
  try go_wp2_with (first | ((with_reducible refine gate_callee (f := 51) rfl ?_); refine goesL_ (some 7) rfl rfl Try.func51 (by kernel_rfl) rfl #[] rfl (by (try simp only [List.map_toArray, List.map_cons, List.map_nil]); first | done | rfl | (simp only [List.length_drop, List.length_take]; rfl)) ?_; (with_reducible refine (hypercubelaw10_known.calls  true _ A2.out).mono ?_); rintro e w42 ⟨rfl, hb⟩; refine ⟨_, rfl, ?_⟩; have n0_ := Aside0.mk (below_step (by repeat (first | (with_reducible first | exact HB.out | apply below_alloc | apply pw_below_drewN | apply below_drew1) | exact HB.out)) hb); clear HB; have HB := n0_; clear n0_; (try clear hb); (try clear hb2); (try clear hk); (try clear hi)) | ((with_reducible refine gate_dst (N := 9) rfl ?_); (try (refine gate_guard (by rfl) ?_; dsimp only)); refine Kd.R_lit (Kd.int .i64) _ 3 ?hg (N := 9) ?hd (xs := ([1] : List Int)) (inner := [.int .i64 1]) (ok := fun _ => True) (okp := fun _ => True) ?hr ?hp (fun _ hk => hk) trivial (Below.refl _ _) (Nat.le_refl _) (by simp) ?_; (case hd => rfl); (case hg => rfl); (case hr => first | (go_simp; done) | (go_simp; rfl)); (case hp => exact (Reps.one (show Kd.M (Kd.int .i64) _ _ _ 1 [.int .i64 1] from rfl) (Reps.none _ _))); intro v172 w43 ho44 hb hg_ hnew_; clear hg_ hnew_; (first | rw [← Ny171.out] at ho44 | (simp only [Int.reduceToNat] at ho44; rw [← Ny171.out] at ho44)); have n0_ := Aside0.mk (Kd.R_lower ho44 (below_size (by repeat (first | (with_reducible first | exact HB.out | apply below_alloc | apply pw_below_drewN | apply below_drew1) | exact HB.out)))); have n1_ := Aside0.mk (below_step (by repeat (first | (with_reducible first | exact HB.out | apply below_alloc | apply pw_below_drewN | apply below_drew1) | exact HB.out)) hb); clear HB; have HO173 := n0_; have HB := n1_; clear n0_ n1_; clear hb ho44; obtain ⟨Ao45, co45, eo45⟩ := Kd.R_slice HO173.out; subst eo45) | ((with_reducible refine gate_dst (N := 11) rfl ?_); (try (refine gate_guard (by rfl) ?_; dsimp only)); refine Kd.R_lit (Kd.int .i64) _ 3 ?hg (N := 11) ?hd (xs := ([4] : List Int)) (inner := [.int .i64 4]) (ok := fun _ => True) (okp := fun _ => True) ?hr ?hp (fun _ hk => hk) trivial (Below.refl _ _) (Nat.le_refl _) (by simp) ?_; (case hd => rfl); (case hg => rfl); (case hr => first | (go_simp; done) | (go_simp; rfl)); (case hp => exact (Reps.one (show Kd.M (Kd.int .i64) _ _ _ 4 [.int .i64 4] from rfl) (Reps.none _ _))); intro v175 w46 ho47 hb hg_ hnew_; clear hg_ hnew_; (first | rw [← Ny174.out] at ho47 | (simp only [Int.reduceToNat] at ho47; rw [← Ny174.out] at ho47)); have n0_ := Aside0.mk (Kd.R_elder' (by (with_reducible repeat (first | apply Kd.R_alloc | apply Kd.R_drewN | apply Kd.R_drew)); exact HO173.out) (Kd.R_base ho47) hb); have n1_ := Aside0.mk (Kd.R_lower (Kd.R_new' ho47 (Kd.R_lt (by (with_reducible repeat (first | apply Kd.R_alloc | apply Kd.R_drewN | apply Kd.R_drew)); exact HO173.out))) (below_size (by repeat (first | (with_reducible first | exact HB.out | apply below_alloc | apply pw_below_drewN | apply below_drew1) | exact HB.out)))); have n2_ := Aside0.mk (below_step (by repeat (first | (with_reducible first | exact HB.out | apply below_alloc | apply pw_below_drewN | apply below_drew1) | exact HB.out)) hb); clear HO173; clear HB; have HO173 := n0_; have HO176 := n1_; have HB := n2_; clear n0_ n1_ n2_; clear hb ho47; obtain ⟨Ao48, co48, eo48⟩ := Kd.R_slice HO176.out; subst eo48) | ((with_reducible refine gate_dst (N := 13) rfl ?_); (try (refine gate_guard (by rfl) ?_; dsimp only)); refine Kd.R_lit (Kd.int .i64) _ 3 ?hg (N := 13) ?hd (xs := ([2, 3] : List Int)) (inner := [.int .i64 2, .int .i64 3]) (ok := fun _ => True) (okp := fun _ => True) ?hr ?hp (fun _ hk => hk) trivial (Below.refl _ _) (Nat.le_refl _) (by simp) ?_; (case hd => rfl); (case hg => rfl); (case hr => first | (go_simp; done) | (go_simp; rfl)); (case hp => exact (Reps.one (show Kd.M (Kd.int .i64) _ _ _ 2 [.int .i64 2] from rfl) (Reps.one (show Kd.M (Kd.int .i64) _ _ _ 3 [.int .i64 3] from rfl) (Reps.none _ _)))); intro v178 w49 ho50 hb hg_ hnew_; clear hg_ hnew_; (first | rw [← Ny177.out] at ho50 | (simp only [Int.reduceToNat] at ho50; rw [← Ny177.out] at ho50)); have n0_ := Aside0.mk (Kd.R_elder' (by (with_reducible repeat (first | apply Kd.R_alloc | apply Kd.R_drewN | apply Kd.R_drew)); exact HO173.out) (Kd.R_base ho50) hb); have n1_ := Aside0.mk (Kd.R_elder' (by (with_reducible repeat (first | apply Kd.R_alloc | apply Kd.R_drewN | apply Kd.R_drew)); exact HO176.out) (Kd.R_base ho50) hb); have n2_ := Aside0.mk (Kd.R_lower (Kd.R_new' (Kd.R_new' ho50 (Kd.R_lt (by (with_reducible repeat (first | apply Kd.R_alloc | apply Kd.R_drewN | apply Kd.R_drew)); exact HO173.out))) (Kd.R_lt (by (with_reducible repeat (first | apply Kd.R_alloc | apply Kd.R_drewN | apply Kd.R_drew)); exact HO176.out))) (below_size (by repeat (first | (with_reducible first | exact HB.out | apply below_alloc | apply pw_below_drewN | apply below_drew1) | exact HB.out)))); have n3_ := Aside0.mk (below_step (by repeat (first | (with_reducible first | exact HB.out | apply below_alloc | apply pw_below_drewN | apply below_drew1) | exact HB.out)) hb); clear HO173; clear HO176; clear HB; have HO173 := n0_; have HO176 := n1_; have HO179 := n2_; have HB := n3_; clear n0_ n1_ n2_ n3_; clear hb ho50; obtain ⟨Ao51, co51, eo51⟩ := Kd.R_slice HO179.out; subst eo51) | ((with_reducible refine gate_dst (N := 15) rfl ?_); (try (refine gate_guard (by rfl) ?_; dsimp only)); refine Kd.R_lit (Kd.int .i64) _ 3 ?hg (N := 15) ?hd (xs := ([3, 2] : List Int)) (inner := [.int .i64 3, .int .i64 2]) (ok := fun _ => True) (okp := fun _ => True) ?hr ?hp (fun _ hk => hk) trivial (Below.refl _ _) (Nat.le_refl _) (by simp) ?_; (case hd => rfl); (case hg => rfl); (case hr => first | (go_simp; done) | (go_simp; rfl)); (case hp => exact (Reps.one (show Kd.M (Kd.int .i64) _ _ _ 3 [.int .i64 3] from rfl) (Reps.one (show Kd.M (Kd.int .i64) _ _ _ 2 [.int .i64 2] from rfl) (Reps.none _ _)))); intro v181 w52 ho53 hb hg_ hnew_; clear hg_ hnew_; (first | rw [← Ny180.out] at ho53 | (simp only [Int.reduceToNat] at ho53; rw [← Ny180.out] at ho53)); have n0_ := Aside0.mk (Kd.R_elder' (by (with_reducible repeat (first | apply Kd.R_alloc | apply Kd.R_drewN | apply Kd.R_drew)); exact HO173.out) (Kd.R_base ho53) hb); have n1_ := Aside0.mk (Kd.R_elder' (by (with_reducible repeat (first | apply Kd.R_alloc | apply Kd.R_drewN | apply Kd.R_drew)); exact HO176.out) (Kd.R_base ho53) hb); have n2_ := Aside0.mk (Kd.R_elder' (by (with_reducible repeat (first | apply Kd.R_alloc | apply Kd.R_drewN | apply Kd.R_drew)); exact HO179.out) (Kd.R_base ho53) hb); have n3_ := Aside0.mk (Kd.R_lower (Kd.R_new' (Kd.R_new' (Kd.R_new' ho53 (Kd.R_lt (by (with_reducible repeat (first | apply Kd.R_alloc | apply Kd.R_drewN | apply Kd.R_drew)); exact HO173.out))) (Kd.R_lt (by (with_reducible repeat (first | apply Kd.R_alloc | apply Kd.R_drewN | apply Kd.R_drew)); exact HO176.out))) (Kd.R_lt (by (with_reducible repeat (first | apply Kd.R_alloc | apply Kd.R_drewN | apply Kd.R_drew)); exact HO179.out))) (below_size (by repeat (first | (with_reducible first | exact HB.out | apply below_alloc | apply pw_below_drewN | apply below_drew1) | exact HB.out)))); have n4_ := Aside0.mk (below_step (by repeat (first | (with_reducible first | exact HB.out | apply below_alloc | apply pw_below_drewN | apply below_drew1) | exact HB.out)) hb); clear HO173; clear HO176; clear HO179; clear HB; have HO173 := n0_; have HO176 := n1_; have HO179 := n2_; have HO182 := n3_; have HB := n4_; clear n0_ n1_ n2_ n3_ n4_; clear hb ho53; obtain ⟨Ao54, co54, eo54⟩ := Kd.R_slice HO182.out; subst eo54) | ((with_reducible refine gate_dst (N := 17) rfl ?_); (try (refine gate_guard (by rfl) ?_; dsimp only)); refine Kd.R_lit (Kd.int .i64) _ 3 ?hg (N := 17) ?hd (xs := ([1, 1] : List Int)) (inner := [.int .i64 1, .int .i64 1]) (ok := fun _ => True) (okp := fun _ => True) ?hr ?hp (fun _ hk => hk) trivial (Below.refl _ _) (Nat.le_refl _) (by simp) ?_; (case hd => rfl); (case hg => rfl); (case hr => first | (go_simp; done) | (go_simp; rfl)); (case hp => exact (Reps.one (show Kd.M (Kd.int .i64) _ _ _ 1 [.int .i64 1] from rfl) (Reps.one (show Kd.M (Kd.int .i64) _ _ _ 1 [.int .i64 1] from rfl) (Reps.none _ _)))); intro v184 w55 ho56 hb hg_ hnew_; clear hg_ hnew_; (first | rw [← Ny183.out] at ho56 | (simp only [Int.reduceToNat] at ho56; rw [← Ny183.out] at ho56)); have n0_ := Aside0.mk (Kd.R_elder' (by (with_reducible repeat (first | apply Kd.R_alloc | apply Kd.R_drewN | apply Kd.R_drew)); exact HO173.out) (Kd.R_base ho56) hb); have n1_ := Aside0.mk (Kd.R_elder' (by (with_reducible repeat (first | apply Kd.R_alloc | apply Kd.R_drewN | apply Kd.R_drew)); exact HO176.out) (Kd.R_base ho56) hb); have n2_ := Aside0.mk (Kd.R_elder' (by (with_reducible repeat (first | apply Kd.R_alloc | apply Kd.R_drewN | apply Kd.R_drew)); exact HO179.out) (Kd.R_base ho56) hb); have n3_ := Aside0.mk (Kd.R_elder' (by (with_reducible repeat (first | apply Kd.R_alloc | apply Kd.R_drewN | apply Kd.R_drew)); exact HO182.out) (Kd.R_base ho56) hb); have n4_ := Aside0.mk (Kd.R_lower (Kd.R_new' (Kd.R_new' (Kd.R_new' (Kd.R_new' ho56 (Kd.R_lt (by (with_reducible repeat (first | apply Kd.R_alloc | apply Kd.R_drewN | apply Kd.R_drew)); exact HO173.out))) (Kd.R_lt (by (with_reducible repeat (first | apply Kd.R_alloc | apply Kd.R_drewN | apply Kd.R_drew)); exact HO176.out))) (Kd.R_lt (by (with_reducible repeat (first | apply Kd.R_alloc | apply Kd.R_drewN | apply Kd.R_drew)); exact HO179.out))) (Kd.R_lt (by (with_reducible repeat (first | apply Kd.R_alloc | apply Kd.R_drewN | apply Kd.R_drew)); exact HO182.out))) (below_size (by repeat (first | (with_reducible first | exact HB.out | apply below_alloc | apply pw_below_drewN | apply below_drew1) | exact HB.out)))); have n5_ := Aside0.mk (below_step (by repeat (first | (with_reducible first | exact HB.out | apply below_alloc | apply pw_below_drewN | apply below_drew1) | exact HB.out)) hb); clear HO173; clear HO176; clear HO179; clear HO182; clear HB; have HO173 := n0_; have HO176 := n1_; have HO179 := n2_; have HO182 := n3_; have HO185 := n4_; have HB := n5_; clear n0_ n1_ n2_ n3_ n4_ n5_; clear hb ho56; obtain ⟨Ao57, co57, eo57⟩ := Kd.R_slice HO185.out; subst eo57) | ((with_reducible refine gate_dst (N := 19) rfl ?_); (try (refine gate_guard (by rfl) ?_; dsimp only)); refine Kd.N_lit k33 _ 33 ?hg (N' := 19) ?hd (xs := ([(⟨y171, 0⟩ : S33), (⟨y174, 0⟩ : S33), (⟨y177, 0⟩ : S33), (⟨y180, 0⟩ : S33), (⟨y183, 0⟩ : S33)] : List (S33))) (inner := [.slice Ao45 y171.length co45, .int .i64 0, .slice Ao48 y174.length co48, .int .i64 0, .slice Ao51 y177.length co51, .int .i64 0, .slice Ao54 y180.length co54, .int .i64 0, .slice Ao57 y183.length co57, .int .i64 0]) (ok := (fun _ => True)) (okp := (fun _ => True)) ?hr ?hp (fun _ hk => hk) ((show ∀ k_, w55.heap.size ≤ k_ → (fun _ => True) k_ from fun k_ hk => trivial) _ (Nat.le_refl _)) (Below.refl _ _) (Nat.le_refl _) (by simp) ?_; (case hd => rfl); (case hg => rfl); (case hr => first | (go_simp; done) | (go_simp; rfl)); (case hp => exact (Reps.c2 (show Kd.FK k33 _ _ (⟨y171, 0⟩ : S33) [.slice Ao45 y171.length co45, .int .i64 0] from (k33_mkF _ _ (⟨y171, 0⟩ : S33) (Kd.R_reads' (Kd.R_mono (ok' := (fun _ => True)) (HO173.out) (fun k_ hk => trivial))).2.1 (Kd.R_F (Kd.R_mono (ok' := (fun _ => True)) (HO173.out) (fun k_ hk => trivial))))) (Reps.c2 (show Kd.FK k33 _ _ (⟨y174, 0⟩ : S33) [.slice Ao48 y174.length co48, .int .i64 0] from (k33_mkF _ _ (⟨y174, 0⟩ : S33) (Kd.R_reads' (Kd.R_mono (ok' := (fun _ => True)) (HO176.out) (fun k_ hk => trivial))).2.1 (Kd.R_F (Kd.R_mono (ok' := (fun _ => True)) (HO176.out) (fun k_ hk => trivial))))) (Reps.c2 (show Kd.FK k33 _ _ (⟨y177, 0⟩ : S33) [.slice Ao51 y177.length co51, .int .i64 0] from (k33_mkF _ _ (⟨y177, 0⟩ : S33) (Kd.R_reads' (Kd.R_mono (ok' := (fun _ => True)) (HO179.out) (fun k_ hk => trivial))).2.1 (Kd.R_F (Kd.R_mono (ok' := (fun _ => True)) (HO179.out) (fun k_ hk => trivial))))) (Reps.c2 (show Kd.FK k33 _ _ (⟨y180, 0⟩ : S33) [.slice Ao54 y180.length co54, .int .i64 0] from (k33_mkF _ _ (⟨y180, 0⟩ : S33) (Kd.R_reads' (Kd.R_mono (ok' := (fun _ => True)) (HO182.out) (fun k_ hk => trivial))).2.1 (Kd.R_F (Kd.R_mono (ok' := (fun _ => True)) (HO182.out) (fun k_ hk => trivial))))) (Reps.c2 (show Kd.FK k33 _ _ (⟨y183, 0⟩ : S33) [.slice Ao57 y183.length co57, .int .i64 0] from (k33_mkF _ _ (⟨y183, 0⟩ : S33) (Kd.R_reads' (Kd.R_mono (ok' := (fun _ => True)) (HO185.out) (fun k_ hk => trivial))).2.1 (Kd.R_F (Kd.R_mono (ok' := (fun _ => True)) (HO185.out) (fun k_ hk => trivial))))) (Reps.none _ _))))))); intro v187 w58 ho59 hb hg_ hnew_; clear hg_ hnew_; (first | rw [← Ny186.out] at ho59 | (simp only [Int.reduceToNat] at ho59; rw [← Ny186.out] at ho59)); have n0_ := Aside0.mk (Kd.N_lower ho59 (below_size (by repeat (first | (with_reducible first | exact HB.out | apply below_alloc | apply pw_below_drewN | apply below_drew1) | exact HB.out)))); have n1_ := Aside0.mk (below_step (by repeat (first | (with_reducible first | exact HB.out | apply below_alloc | apply pw_below_drewN | apply below_drew1) | exact HB.out)) hb); clear HB; clear HO173; clear HO176; clear HO179; clear HO182; clear HO185; have HO188 := n0_; have HB := n1_; clear n0_ n1_; clear hb ho59) | ((with_reducible refine gate_dst (N := 20) rfl ?_); (try (refine gate_guard (by rfl) ?_; dsimp only)); refine Kd.R_lit (Kd.int .i64) _ 3 ?hg (N := 20) ?hd (xs := ([1, 4, 32, 32, 4] : List Int)) (inner := [.int .i64 1, .int .i64 4, .int .i64 32, .int .i64 32, .int .i64 4]) (ok := fun _ => True) (okp := fun _ => True) ?hr ?hp (fun _ hk => hk) trivial (Below.refl _ _) (Nat.le_refl _) (by simp) ?_; (case hd => rfl); (case hg => rfl); (case hr => first | (go_simp; done) | (go_simp; rfl)); (case hp => exact (Reps.one (show Kd.M (Kd.int .i64) _ _ _ 1 [.int .i64 1] from rfl) (Reps.one (show Kd.M (Kd.int .i64) _ _ _ 4 [.int .i64 4] from rfl) (Reps.one (show Kd.M (Kd.int .i64) _ _ _ 32 [.int .i64 32] from rfl) (Reps.one (show Kd.M (Kd.int .i64) _ _ _ 32 [.int .i64 32] from rfl) (Reps.one (show Kd.M (Kd.int .i64) _ _ _ 4 [.int .i64 4] from rfl) (Reps.none _ _))))))); intro v190 w60 ho61 hb hg_ hnew_; clear hg_ hnew_; (first | rw [← Ny189.out] at ho61 | (simp only [Int.reduceToNat] at ho61; rw [← Ny189.out] at ho61)); have n0_ := Aside0.mk (Kd.N_elder' (by (with_reducible repeat (first | apply Kd.N_alloc | apply Kd.N_drewN | apply Kd.N_drew)); exact HO188.out) (Kd.R_base ho61) hb); have n1_ := Aside0.mk (Kd.R_lower ho61 (below_size (by repeat (first | (with_reducible first | exact HB.out | apply below_alloc | apply pw_below_drewN | apply below_drew1) | exact HB.out)))); have n2_ := Aside0.mk (below_step (by repeat (first | (with_reducible first | exact HB.out | apply below_alloc | apply pw_below_drewN | apply below_drew1) | exact HB.out)) hb); clear HO188; clear HB; have HO188 := n0_; have HO191 := n1_; have HB := n2_; clear n0_ n1_ n2_; clear hb ho61; obtain ⟨Ao62, co62, eo62⟩ := Kd.N_slice HO188.out; subst eo62) | ((with_reducible refine gate_callee (f := 52) rfl ?_); refine goesL_ (some 24) rfl rfl Try.func52 (by kernel_rfl) rfl #[.int .i64 a0, .int .i64 (y186.length : Int)] rfl (by (try simp only [List.map_toArray, List.map_cons, List.map_nil]); first | done | rfl | (simp only [List.length_drop, List.length_take]; rfl)) ?_; (with_reducible refine (hypercubelaw10_within.calls a0 (y186.length : Int) t192 _ A4.out).mono ?_); rintro e w' ⟨rfl, ⟨nd, rfl⟩⟩; refine ⟨_, rfl, ?_⟩; have p193 : 0 ≤ (t192 : Int) := of_decide_eq_true (by first | (with_reducible assumption) | assumption); have q193 : t192 < (y186.length : Int) := of_decide_eq_true (by first | (with_reducible assumption) | assumption); obtain ⟨ad193, A193_0, c193_0, e193, hx193_0, hx193_1, hl193_0, hi193_0⟩ := at_T33 (Kd.N_reads' HO188.out).2.2 t192 p193 q193; cases e193; obtain ⟨ce193, hce193, hMe193, hcc193⟩ := Kd.N_get HO188.out z33 t192 p193 (by first | exact q193 | exact of_decide_eq_true (by first | (with_reducible assumption) | assumption) | (have e_ := (Kd.N_reads' HO188.out).1; omega)); obtain ⟨ua193_0, uc193_0, rfl, ul193_0, ge193_0⟩ := k33_openF hMe193; have hv193_0 := hcc193 0 _ rfl; rw [Nat.add_zero] at hv193_0; replace hv193_0 := Option.some.inj (hv193_0.symm.trans hx193_0); injection hv193_0 with hva_ hvn_ hvc_; rw [hva_] at ge193_0; rw [hvc_] at ul193_0; have HL193_0 := Aside0.mk (show Kd.V (Kd.int .i64) 3 _ w.heap.size _ _ ((rd_T33 y186 t192).f0) from Kd.V_mk ul193_0 ge193_0); clear hva_ hvn_ hvc_ ge193_0 ul193_0; clear hcc193 hce193; have HR193_0 := Aside0.mk hi193_0; have HC193_0 := Aside0.mk hl193_0; clear hi193_0 hl193_0; replace p193 := eq_true p193; replace q193 := eq_true q193) | ((with_reducible refine gate_callee (f := 55) rfl ?_); refine goesL_ (some 29) rfl rfl Try.func55 (by kernel_rfl) rfl #[.agg #[.slice A193_0 ((rd_T33 y186 t192).f0).length c193_0, .int .i64 ((rd_T33 y186 t192).f1)], .int .i64 100] rfl (by (try simp only [List.map_toArray, List.map_cons, List.map_nil]); first | done | rfl | (simp only [List.length_drop, List.length_take]; rfl)) ?_; (with_reducible refine (sorts_Plan.calls _ _ ((rd_T33 y186 t192).f0) ((rd_T33 y186 t192).f1) 100 t194 _ ?side1 ?side2 A7.out).mono ?_); (case side1 => repeat (first | exact (by repeat (first | (with_reducible exact HR193_0.out) | (with_reducible refine Kd.C_alloc ?_ _) | (with_reducible refine Kd.C_drewN ?_ _) | (with_reducible refine Kd.C_drew ?_) | exact HR193_0.out)) | (with_reducible refine Kd.C_alloc ?_ _) | (with_reducible refine Kd.C_drewN ?_ _) | (with_reducible refine Kd.C_drew ?_))); (case side2 => exact HC193_0.out); rintro e w63 ⟨v195, rfl, ho0, hb⟩; refine ⟨_, rfl, ?_⟩; have n0_ := Aside0.mk (Kd.N_elder' (by (with_reducible repeat (first | apply Kd.N_alloc | apply Kd.N_drewN | apply Kd.N_drew)); exact HO188.out) (Kd.R_base ho0) hb); have n1_ := Aside0.mk (Kd.R_below (by (with_reducible repeat (first | apply Kd.R_alloc | apply Kd.R_drewN | apply Kd.R_drew)); exact HO191.out) hb); have n2_ := Aside0.mk (Kd.V_elder' (by (with_reducible repeat (first | apply Kd.V_alloc | apply Kd.V_drewN | apply Kd.V_drew)); exact HL193_0.out) (Kd.R_base ho0) hb); have n3_ := Aside0.mk (Kd.R_lower ho0 (below_size (by repeat (first | (with_reducible first | exact HB.out | apply below_alloc | apply pw_below_drewN | apply below_drew1) | exact HB.out)))); have n4_ := Aside0.mk (Kd.C_below (by repeat (first | (with_reducible exact HR193_0.out) | (with_reducible refine Kd.C_alloc ?_ _) | (with_reducible refine Kd.C_drewN ?_ _) | (with_reducible refine Kd.C_drew ?_) | exact HR193_0.out)) hb); have n5_ := Aside0.mk (below_step (by repeat (first | (with_reducible first | exact HB.out | apply below_alloc | apply pw_below_drewN | apply below_drew1) | exact HB.out)) hb); clear HO188; clear HO191; clear HL193_0; clear HR193_0; clear HB; have HO188 := n0_; have HO191 := n1_; have HL193_0 := n2_; have HO196 := n3_; have HR193_0 := n4_; have HB := n5_; clear n0_ n1_ n2_ n3_ n4_ n5_; (try clear hb); (try clear hb2); (try clear hk); (try clear hi); (try clear ho0)))
  have n0_ := Aside0.mk (Kd.N_drew HO188.out)
  have n1_ := Aside0.mk (Kd.R_drew HO191.out)
  have n2_ := Aside0.mk (Kd.V_drew HL193_0.out)
  have n3_ := Aside0.mk (Kd.R_drew HO196.out)
  have n4_ := Aside0.mk (Kd.C_drew HR193_0.out)
  have n5_ := Aside0.mk (below_drew1 HB.out)
  clear HO188
  clear HO191
  clear HL193_0
  clear HO196
  clear HR193_0
  clear HB
  have HO188 := n0_
  have HO191 := n1_
  have HL193_0 := n2_
  have HO196 := n3_
  have HR193_0 := n4_
  have HB := n5_
  clear n0_ n1_ n2_ n3_ n4_ n5_
  have p197 : 0 ≤ (t192 : Int) := od_
  have q197 : t192 < (y186.length : Int) := od_
  obtain ⟨ad197, A197_0, c197_0, e197, hx197_0, hx197_1, hl197_0, hi197_0⟩ := at_T33 (Kd.N_reads' HO188.out).2.2 t192 p197 q197
  obtain rfl : ad193 = ad197 := (by injection e197)
  obtain ⟨ce197, hce197, hMe197, hcc197⟩ := Kd.N_get HO188.out z33 t192 p197 (by first | exact q197 | exact of_decide_eq_true (by first | (with_reducible assumption) | assumption) | (have e_ := (Kd.N_reads' HO188.out).1; omega))
  obtain ⟨ua197_0, uc197_0, rfl, ul197_0, ge197_0⟩ := k33_openF hMe197
  have hv197_0 := hcc197 0 _ rfl
  rw [Nat.add_zero] at hv197_0
  replace hv197_0 := Option.some.inj (hv197_0.symm.trans hx197_0)
  injection hv197_0 with hva_ hvn_ hvc_
  rw [hva_] at ge197_0
  rw [hvc_] at ul197_0
  have HL197_0 := Aside0.mk (show Kd.V (Kd.int .i64) 3 _ w.heap.size _ _ ((rd_T33 y186 t192).f0) from Kd.V_mk ul197_0 ge197_0)
  clear hva_ hvn_ hvc_ ge197_0 ul197_0
  clear hcc197 hce197
  have HR197_0 := Aside0.mk hi197_0
  have HC197_0 := Aside0.mk hl197_0
  clear hi197_0 hl197_0
  replace p197 := eq_true p197
  replace q197 := eq_true q197
  obtain ⟨Ao65, co65, eo65⟩ := Kd.R_slice HO191.out
  (first | subst eo65 | (injection eo65 with f1_ f2_ f3_; have f4_ := f1_.symm; have f5_ := f3_.symm; clear f1_ f2_ f3_; subst f4_; subst f5_))
  have p199 : 0 ≤ (t192 : Int) := od_
  have q199 : t192 < (y189.length : Int) := od_
  obtain ⟨ad199, e199, hx199_0⟩ := Kd.at_int (Kd.R_reads' HO191.out).2.2 t192 p199 q199
  cases e199
  replace p199 := eq_true p199
  replace q199 := eq_true q199
  obtain ⟨Ao66, co66, eo66⟩ := Kd.R_slice HO196.out
  (first | subst eo66 | (injection eo66 with f1_ f2_ f3_; have f4_ := f1_.symm; have f5_ := f3_.symm; clear f1_ f2_ f3_; subst f4_; subst f5_))
  have p200 : 0 ≤ (t192 : Int) := od_
  have q200 : t192 < (y186.length : Int) := od_
  obtain ⟨ad200, A200_0, c200_0, e200, hx200_0, hx200_1, hl200_0, hi200_0⟩ := at_T33 (Kd.N_reads' HO188.out).2.2 t192 p200 q200
  obtain rfl : ad193 = ad200 := (by injection e200)
  obtain ⟨rfl, rfl⟩ : A197_0 = A200_0 ∧ c197_0 = c200_0 := by have e_ := Option.some.inj (hx197_0.symm.trans hx200_0); injection e_ with a_ b_ c_; exact ⟨a_, c_⟩
  obtain ⟨ce200, hce200, hMe200, hcc200⟩ := Kd.N_get HO188.out z33 t192 p200 (by first | exact q200 | exact of_decide_eq_true (by first | (with_reducible assumption) | assumption) | (have e_ := (Kd.N_reads' HO188.out).1; omega))
  obtain ⟨ua200_0, uc200_0, rfl, ul200_0, ge200_0⟩ := k33_openF hMe200
  have hv200_0 := hcc200 0 _ rfl
  rw [Nat.add_zero] at hv200_0
  replace hv200_0 := Option.some.inj (hv200_0.symm.trans hx200_0)
  injection hv200_0 with hva_ hvn_ hvc_
  rw [hva_] at ge200_0
  rw [hvc_] at ul200_0
  have HL200_0 := Aside0.mk (show Kd.V (Kd.int .i64) 3 _ w.heap.size _ _ ((rd_T33 y186 t192).f0) from Kd.V_mk ul200_0 ge200_0)
  clear hva_ hvn_ hvc_ ge200_0 ul200_0
  clear hcc200 hce200
  have HR200_0 := Aside0.mk hi200_0
  have HC200_0 := Aside0.mk hl200_0
  clear hi200_0 hl200_0
  replace p200 := eq_true p200
  replace q200 := eq_true q200
  refine start_ (n := 35) (S := fun w' => w'.cell? (ad193.add ((t192).toNat * 2)) = some (.slice A197_0 ((rd_T33 y186 t192).f0).length c197_0) ∧ w'.cell? ⟨(ad193.add ((t192).toNat * 2)).block, (ad193.add ((t192).toNat * 2)).off + 1, none⟩ = some (.int .i64 ((rd_T33 y186 t192).f1)) ∧ w'.cell? (ad199.add (t192).toNat) = some (.int .i64 (rd y189 t192)) ∧ w'.cell? (ad193.add ((t192).toNat * 2)) = some (.slice A197_0 ((rd_T33 y186 t192).f0).length c197_0) ∧ w'.cell? ⟨(ad193.add ((t192).toNat * 2)).block, (ad193.add ((t192).toNat * 2)).off + 1, none⟩ = some (.int .i64 ((rd_T33 y186 t192).f1))) (ds := []) (fl_ 0 35) (by kernel_rfl) rfl rfl ⟨hx197_0, hx197_1, hx199_0, hx200_0, hx200_1⟩ (fun hHeld => ?_); refine with_tabW hypercubelaw10_SortsKnown.tab7 hypercubelaw10_SortsKnown.bits7 (fun HT_ HW_ => ?_)
  generalize w63.drew = w64 at HO188 HO191 HL193_0 HO196 HR193_0 HB HL197_0 HL200_0 HR197_0 HR200_0 hx197_0 hx197_1 hx199_0 hx200_0 hx200_1 hHeld ⊢
  refine pure_ (i := 0) (N := some 30) (v := ?_) (a' := ?_) (fl_ 1 34) rfl rfl (any_of HT_.out (by kernel_rfl)) (fun _ _ _ h => h) (Or.inl ⟨by rfl, ?_⟩) ?_ ?_
  rotate_left
  ·intro w'
   go_simp
   with_reducible rfl
  rotate_left
  ·simp only [Act.put, sl0, sl1, sl2, i64_w, i32_w]
   rfl
  refine pure_ (i := 1) (N := some 31) (v := ?_) (a' := ?_) (fl_ 2 33) rfl rfl (any_of HT_.out (by kernel_rfl)) (fun _ _ _ h => h) (Or.inl ⟨by rfl, ?_⟩) ?_ ?_
  rotate_left
  ·intro w'
   go_simp
   with_reducible rfl
  rotate_left
  ·simp only [Act.put, sl0, sl1, sl2, i64_w, i32_w]
   rfl
  refine pure_ (i := 2) (N := some 32) (v := ?_) (a' := ?_) (fl_ 3 32) rfl rfl (any_of HT_.out (by kernel_rfl)) (fun _ _ _ h => h) (Or.inl ⟨by rfl, ?_⟩) ?_ ?_
  rotate_left
  ·intro w'
   go_simp
   with_reducible rfl
  rotate_left
  ·simp only [Act.put, sl0, sl1, sl2, i64_w, i32_w]
   rfl
  refine pure_ (i := 4) (N := some 34) (v := ?_) (a' := ?_) #[Y,Y,Y,Z,Y,Z,Z,Z,Z,Z,Z,Z,Z,Z,Z,Z,Z,Z,Z,Z,Z,Z,Z,Z,Z,Z,Z,Z,Z,Z,Z,Z,Z,Z,Z] rfl rfl (any_of HT_.out (by kernel_rfl)) (fun _ _ _ h => h) (Or.inl ⟨by rfl, ?_⟩) ?_ ?_
  rotate_left
  ·intro w'
   go_simp
   with_reducible rfl
  rotate_left
  ·simp only [Act.put, sl0, sl1, sl2, i64_w, i32_w]
   rfl
  refine pure_ (i := 6) (N := some 36) (v := ?_) (a' := ?_) #[Y,Y,Y,Z,Y,Z,Y,Z,Z,Z,Z,Z,Z,Z,Z,Z,Z,Z,Z,Z,Z,Z,Z,Z,Z,Z,Z,Z,Z,Z,Z,Z,Z,Z,Z] rfl rfl (any_of HT_.out (by kernel_rfl)) (fun _ _ _ h => h) (Or.inl ⟨by rfl, ?_⟩) ?_ ?_
  rotate_left
  ·intro w'
   go_simp
   with_reducible rfl
  rotate_left
  ·simp only [Act.put, sl0, sl1, sl2, i64_w, i32_w]
   rfl
  refine pure_ (i := 7) (N := some 37) (v := ?_) (a' := ?_) #[Y,Y,Y,Z,Y,Z,Y,Y,Z,Z,Z,Z,Z,Z,Z,Z,Z,Z,Z,Z,Z,Z,Z,Z,Z,Z,Z,Z,Z,Z,Z,Z,Z,Z,Z] rfl rfl (any_of HT_.out (by kernel_rfl)) (fun _ _ _ h => h) (Or.inl ⟨by rfl, ?_⟩) ?_ ?_
  rotate_left
  ·intro w'
   go_simp
   with_reducible rfl
  rotate_left
  ·simp only [Act.put, sl0, sl1, sl2, i64_w, i32_w]
   rfl
  refine pure_ (i := 8) (N := some 38) (v := ?_) (a' := ?_) #[Y,Y,Y,Z,Y,Z,Y,Y,Y,Z,Z,Z,Z,Z,Z,Z,Z,Z,Z,Z,Z,Z,Z,Z,Z,Z,Z,Z,Z,Z,Z,Z,Z,Z,Z] rfl rfl (any_of HT_.out (by kernel_rfl)) (fun _ _ _ h => h) (Or.inl ⟨by rfl, ?_⟩) ?_ ?_
  rotate_left
  ·intro w'
   go_simp
   with_reducible rfl
  rotate_left
  ·simp only [Act.put, sl0, sl1, sl2, i64_w, i32_w]
   rfl
  refine take_ (i := 3) (N := some 33) (v := ?_) (a' := ?_) #[Y,Y,Y,Y,Y,Z,Y,Y,Y,Z,Z,Z,Z,Z,Z,Z,Z,Z,Z,Z,Z,Z,Z,Z,Z,Z,Z,Z,Z,Z,Z,Z,Z,Z,Z] rfl rfl (take_ofW HT_.out HW_.out (by kernel_rfl)) (fun _ _ _ h => h) (Or.inl ⟨by rfl, ?_⟩) hHeld ?_ ?_
  rotate_left
  ·rintro w' ⟨s0, s1, s2, s3, s4⟩
   go_simp
   with_reducible rfl
  rotate_left
  ·simp only [Act.put, sl0, sl1, sl2, i64_w, i32_w]
   rfl
  refine take_ (i := 9) (N := some 39) (v := ?_) (a' := ?_) #[Y,Y,Y,Y,Y,Z,Y,Y,Y,Y,Z,Z,Z,Z,Z,Z,Z,Z,Z,Z,Z,Z,Z,Z,Z,Z,Z,Z,Z,Z,Z,Z,Z,Z,Z] rfl rfl (take_ofW HT_.out HW_.out (by kernel_rfl)) (fun _ _ _ h => h) (Or.inl ⟨by rfl, ?_⟩) hHeld ?_ ?_
  rotate_left
  ·rintro w' ⟨s0, s1, s2, s3, s4⟩
   go_simp
   with_reducible rfl
  rotate_left
  ·simp only [Act.put, sl0, sl1, sl2, i64_w, i32_w]
   rfl
  refine one_ (i := 5) (N := some 35) (fl_ 10 25) rfl rfl (one_of HT_.out (by kernel_rfl)) (by decide) (fun K hK => ?_)
  refine goes_ Try.func56 (by kernel_rfl) rfl #[.agg #[.slice A197_0 ((rd_T33 y186 t192).f0).length c197_0, .int .i64 ((rd_T33 y186 t192).f1)], .int .i64 100, .slice Ao66 t194.length co66] (by rfl) rfl rfl (by (try simp only [List.map_toArray, List.map_cons, List.map_nil]); first | done | rfl | (simp only [List.length_drop, List.length_take]; rfl)) ?_
  with_reducible refine (sorts_Cost.calls _ _ ((rd_T33 y186 t192).f0) ((rd_T33 y186 t192).f1) 100 _ _ t194 t198 _ ?side1 ?side2 ?side3 ?side4 A8.out).mono ?_
  (case side1 => repeat (first | exact (by repeat (first | (with_reducible exact HR197_0.out) | (with_reducible refine Kd.C_alloc ?_ _) | (with_reducible refine Kd.C_drewN ?_ _) | (with_reducible refine Kd.C_drew ?_) | exact HR197_0.out)) | (with_reducible refine Kd.C_alloc ?_ _) | (with_reducible refine Kd.C_drewN ?_ _) | (with_reducible refine Kd.C_drew ?_)))
  (case side2 => exact HC197_0.out)
  (case side3 => repeat (first | exact (Kd.R_reads' HO196.out).2.2 | (with_reducible refine Kd.C_alloc ?_ _) | (with_reducible refine Kd.C_drewN ?_ _) | (with_reducible refine Kd.C_drew ?_)))
  (case side4 => exact (Kd.R_reads' HO196.out).2.1)
  rintro e w67 ⟨rfl, hb⟩
  have HS0_ := (hb.cell (World.block_lt_of_cell? _ _ (hHeld.1))).trans (hHeld.1)
  have HS1_ := (hb.cell (World.block_lt_of_cell? _ _ (hHeld.2.1))).trans (hHeld.2.1)
  have HS2_ := (hb.cell (World.block_lt_of_cell? _ _ (hHeld.2.2.1))).trans (hHeld.2.2.1)
  have HS3_ := (hb.cell (World.block_lt_of_cell? _ _ (hHeld.2.2.2.1))).trans (hHeld.2.2.2.1)
  have HS4_ := (hb.cell (World.block_lt_of_cell? _ _ (hHeld.2.2.2.2))).trans (hHeld.2.2.2.2)
  refine ⟨_, rfl, ?_⟩
  have n0_ := Aside0.mk (Kd.N_below (by (with_reducible repeat (first | apply Kd.N_alloc | apply Kd.N_drewN | apply Kd.N_drew)); exact HO188.out) hb)
  have n1_ := Aside0.mk (Kd.R_below (by (with_reducible repeat (first | apply Kd.R_alloc | apply Kd.R_drewN | apply Kd.R_drew)); exact HO191.out) hb)
  have n2_ := Aside0.mk (Kd.V_below (by (with_reducible repeat (first | apply Kd.V_alloc | apply Kd.V_drewN | apply Kd.V_drew)); exact HL193_0.out) hb)
  have n3_ := Aside0.mk (Kd.R_below (by (with_reducible repeat (first | apply Kd.R_alloc | apply Kd.R_drewN | apply Kd.R_drew)); exact HO196.out) hb)
  have n4_ := Aside0.mk (Kd.V_below (by (with_reducible repeat (first | apply Kd.V_alloc | apply Kd.V_drewN | apply Kd.V_drew)); exact HL197_0.out) hb)
  have n5_ := Aside0.mk (Kd.C_below (by repeat (first | (with_reducible exact HR193_0.out) | (with_reducible refine Kd.C_alloc ?_ _) | (with_reducible refine Kd.C_drewN ?_ _) | (with_reducible refine Kd.C_drew ?_) | exact HR193_0.out)) hb)
  have n6_ := Aside0.mk (Kd.C_below (by repeat (first | (with_reducible exact HR197_0.out) | (with_reducible refine Kd.C_alloc ?_ _) | (with_reducible refine Kd.C_drewN ?_ _) | (with_reducible refine Kd.C_drew ?_) | exact HR197_0.out)) hb)
  have n7_ := Aside0.mk (below_step (by repeat (first | (with_reducible first | exact HB.out | apply below_alloc | apply pw_below_drewN | apply below_drew1) | exact HB.out)) hb)
  clear HO188
  clear HO191
  clear HL193_0
  clear HO196
  clear HL197_0
  clear HR193_0
  clear HR197_0
  clear HB
  have HO188 := n0_
  have HO191 := n1_
  have HL193_0 := n2_
  have HO196 := n3_
  have HL197_0 := n4_
  have HR193_0 := n5_
  have HR197_0 := n6_
  (try have HL200_0 := HL197_0)
  (try have HR200_0 := HR197_0)
  (try have HL202_0 := HL197_0)
  (try have HR202_0 := HR197_0)
  have HB := n7_
  clear n0_ n1_ n2_ n3_ n4_ n5_ n6_ n7_
  (try clear hb)
  (try clear hb2)
  (try clear hk)
  (try clear hi)
  refine hK.out _ _ ⟨HS0_, HS1_, HS2_, HS3_, HS4_⟩ (fun hHeld => ?_)
  clear hK K
  refine norm_ (a' := ?_) ?_ ?_
  rotate_left
  ·show Act.put _ (some 35) _ = _
   simp only [Act.put, sl0, sl1, sl2, i64_w, i32_w]
   rfl
  refine pure_ (i := 10) (N := some 40) (v := ?_) (a' := ?_) (fl_ 11 24) rfl rfl (any_of HT_.out (by kernel_rfl)) (fun _ _ _ h => h) (Or.inl ⟨by rfl, ?_⟩) ?_ ?_
  rotate_left
  ·intro w'
   go_simp
   with_reducible rfl
  rotate_left
  ·simp only [Act.put, sl0, sl1, sl2, i64_w, i32_w]
   rfl
  refine pure_ (i := 11) (N := some 41) (v := ?_) (a' := ?_) (fl_ 12 23) rfl rfl (any_of HT_.out (by kernel_rfl)) (fun _ _ _ h => h) (Or.inl ⟨by rfl, ?_⟩) ?_ ?_
  rotate_left
  ·intro w'
   go_simp
   with_reducible rfl
  rotate_left
  ·simp only [Act.put, sl0, sl1, sl2, i64_w, i32_w]
   rfl
  refine pure_ (i := 12) (N := some 42) (v := ?_) (a' := ?_) (fl_ 13 22) rfl rfl (any_of HT_.out (by kernel_rfl)) (fun _ _ _ h => h) (Or.inl ⟨by rfl, ?_⟩) ?_ ?_
  rotate_left
  ·intro w'
   go_simp
   with_reducible rfl
  rotate_left
  ·simp only [Act.put, sl0, sl1, sl2, i64_w, i32_w]
   rfl
  refine pure_ (i := 13) (N := some 43) (v := ?_) (a' := ?_) (fl_ 14 21) rfl rfl (any_of HT_.out (by kernel_rfl)) (fun _ _ _ h => h) (Or.inl ⟨by rfl, ?_⟩) ?_ ?_
  rotate_left
  ·intro w'
   go_simp
   with_reducible rfl
  rotate_left
  ·simp only [Act.put, sl0, sl1, sl2, i64_w, i32_w]
   rfl
  refine pure_ (i := 14) (N := some 44) (v := ?_) (a' := ?_) (fl_ 15 20) rfl rfl (any_of HT_.out (by kernel_rfl)) (fun _ _ _ h => h) (Or.inl ⟨by rfl, ?_⟩) ?_ ?_
  rotate_left
  ·intro w'
   go_simp
   with_reducible rfl
  rotate_left
  ·simp only [Act.put, sl0, sl1, sl2, i64_w, i32_w]
   rfl
  refine pure_ (i := 15) (N := some 45) (v := ?_) (a' := ?_) (fl_ 16 19) rfl rfl (any_of HT_.out (by kernel_rfl)) (fun _ _ _ h => h) (Or.inl ⟨by rfl, ?_⟩) ?_ ?_
  rotate_left
  ·intro w'
   go_simp
   with_reducible rfl
  rotate_left
  ·simp only [Act.put, sl0, sl1, sl2, i64_w, i32_w]
   rfl
  refine pure_ (i := 16) (N := some 46) (v := ?_) (a' := ?_) (fl_ 17 18) rfl rfl (any_of HT_.out (by kernel_rfl)) (fun _ _ _ h => h) (Or.inl ⟨by rfl, ?_⟩) ?_ ?_
  rotate_left
  ·intro w'
   go_simp
   with_reducible rfl
  rotate_left
  ·simp only [Act.put, sl0, sl1, sl2, i64_w, i32_w]
   rfl
  refine take_ (i := 17) (N := some 47) (v := ?_) (a' := ?_) (fl_ 18 17) rfl rfl (take_ofW HT_.out HW_.out (by kernel_rfl)) (fun _ _ _ h => h) (Or.inl ⟨by rfl, ?_⟩) hHeld ?_ ?_
  rotate_left
  ·rintro w' ⟨s0, s1, s2, s3, s4⟩
   go_simp
   with_reducible rfl
  rotate_left
  ·simp only [Act.put, sl0, sl1, sl2, i64_w, i32_w]
   rfl
  refine pure_ (i := 18) (N := some 48) (v := ?_) (a' := ?_) (fl_ 19 16) rfl rfl (any_of HT_.out (by kernel_rfl)) (fun _ _ _ h => h) (Or.inl ⟨by rfl, ?_⟩) ?_ ?_
  rotate_left
  ·intro w'
   go_simp
   with_reducible rfl
  rotate_left
  ·simp only [Act.put, sl0, sl1, sl2, i64_w, i32_w]
   rfl
  refine one_ (i := 19) (N := some 49) (fl_ 20 15) rfl rfl (one_of HT_.out (by kernel_rfl)) (by decide) (fun K hK => ?_)
  refine goes_ Try.func54 (by kernel_rfl) rfl #[.slice Ao66 t194.length co66, .int .i64 (((rd_T33 y186 t192).f0).length : Int)] (by rfl) rfl rfl (by (try simp only [List.map_toArray, List.map_cons, List.map_nil]); first | done | rfl | (simp only [List.length_drop, List.length_take]; rfl)) ?_
  with_reducible refine (sorts_Right.calls _ _ t194 (((rd_T33 y186 t192).f0).length : Int) false _ ?side1 ?side2 A11.out).mono ?_
  (case side1 => repeat (first | exact (Kd.R_reads' HO196.out).2.2 | (with_reducible refine Kd.C_alloc ?_ _) | (with_reducible refine Kd.C_drewN ?_ _) | (with_reducible refine Kd.C_drew ?_)))
  (case side2 => exact (Kd.R_reads' HO196.out).2.1)
  rintro e w68 ⟨rfl, hb⟩
  have HS0_ := (hb.cell (World.block_lt_of_cell? _ _ (hHeld.1))).trans (hHeld.1)
  have HS1_ := (hb.cell (World.block_lt_of_cell? _ _ (hHeld.2.1))).trans (hHeld.2.1)
  have HS2_ := (hb.cell (World.block_lt_of_cell? _ _ (hHeld.2.2.1))).trans (hHeld.2.2.1)
  have HS3_ := (hb.cell (World.block_lt_of_cell? _ _ (hHeld.2.2.2.1))).trans (hHeld.2.2.2.1)
  have HS4_ := (hb.cell (World.block_lt_of_cell? _ _ (hHeld.2.2.2.2))).trans (hHeld.2.2.2.2)
  refine ⟨_, rfl, ?_⟩
  have n0_ := Aside0.mk (Kd.N_below (by (with_reducible repeat (first | apply Kd.N_alloc | apply Kd.N_drewN | apply Kd.N_drew)); exact HO188.out) hb)
  have n1_ := Aside0.mk (Kd.R_below (by (with_reducible repeat (first | apply Kd.R_alloc | apply Kd.R_drewN | apply Kd.R_drew)); exact HO191.out) hb)
  have n2_ := Aside0.mk (Kd.V_below (by (with_reducible repeat (first | apply Kd.V_alloc | apply Kd.V_drewN | apply Kd.V_drew)); exact HL193_0.out) hb)
  have n3_ := Aside0.mk (Kd.R_below (by (with_reducible repeat (first | apply Kd.R_alloc | apply Kd.R_drewN | apply Kd.R_drew)); exact HO196.out) hb)
  have n4_ := Aside0.mk (Kd.V_below (by (with_reducible repeat (first | apply Kd.V_alloc | apply Kd.V_drewN | apply Kd.V_drew)); exact HL197_0.out) hb)
  have n5_ := Aside0.mk (Kd.V_below (by (with_reducible repeat (first | apply Kd.V_alloc | apply Kd.V_drewN | apply Kd.V_drew)); exact HL200_0.out) hb)
  have n6_ := Aside0.mk (Kd.C_below (by repeat (first | (with_reducible exact HR193_0.out) | (with_reducible refine Kd.C_alloc ?_ _) | (with_reducible refine Kd.C_drewN ?_ _) | (with_reducible refine Kd.C_drew ?_) | exact HR193_0.out)) hb)
  have n7_ := Aside0.mk (Kd.C_below (by repeat (first | (with_reducible exact HR197_0.out) | (with_reducible refine Kd.C_alloc ?_ _) | (with_reducible refine Kd.C_drewN ?_ _) | (with_reducible refine Kd.C_drew ?_) | exact HR197_0.out)) hb)
  have n8_ := Aside0.mk (Kd.C_below (by repeat (first | (with_reducible exact HR200_0.out) | (with_reducible refine Kd.C_alloc ?_ _) | (with_reducible refine Kd.C_drewN ?_ _) | (with_reducible refine Kd.C_drew ?_) | exact HR200_0.out)) hb)
  have n9_ := Aside0.mk (below_step (by repeat (first | (with_reducible first | exact HB.out | apply below_alloc | apply pw_below_drewN | apply below_drew1) | exact HB.out)) hb)
  clear HO188
  clear HO191
  clear HL193_0
  clear HO196
  clear HL197_0
  clear HL200_0
  clear HR193_0
  clear HR197_0
  clear HR200_0
  clear HB
  have HO188 := n0_
  have HO191 := n1_
  have HL193_0 := n2_
  have HO196 := n3_
  have HL197_0 := n4_
  have HL200_0 := n5_
  have HR193_0 := n6_
  have HR197_0 := n7_
  (try have HL200_0 := HL197_0)
  (try have HR200_0 := HR197_0)
  (try have HL202_0 := HL197_0)
  (try have HR202_0 := HR197_0)
  have HR200_0 := n8_
  have HB := n9_
  clear n0_ n1_ n2_ n3_ n4_ n5_ n6_ n7_ n8_ n9_
  (try clear hb)
  (try clear hb2)
  (try clear hk)
  (try clear hi)
  refine hK.out _ _ ⟨HS0_, HS1_, HS2_, HS3_, HS4_⟩ (fun hHeld => ?_)
  clear hK K
  refine norm_ (a' := ?_) ?_ ?_
  rotate_left
  ·show Act.put _ (some 49) _ = _
   simp only [Act.put, sl0, sl1, sl2, i64_w, i32_w]
   rfl
  refine pure_ (i := 20) (N := some 50) (v := ?_) (a' := ?_) (fl_ 21 14) rfl rfl (any_of HT_.out (by kernel_rfl)) (fun _ _ _ h => h) (Or.inl ⟨by rfl, ?_⟩) ?_ ?_
  rotate_left
  ·intro w'
   go_simp
   with_reducible rfl
  rotate_left
  ·simp only [Act.put, sl0, sl1, sl2, i64_w, i32_w]
   rfl
  refine pure_ (i := 21) (N := some 51) (v := ?_) (a' := ?_) (fl_ 22 13) rfl rfl (any_of HT_.out (by kernel_rfl)) (fun _ _ _ h => h) (Or.inl ⟨by rfl, ?_⟩) ?_ ?_
  rotate_left
  ·intro w'
   go_simp
   with_reducible rfl
  rotate_left
  ·simp only [Act.put, sl0, sl1, sl2, i64_w, i32_w]
   rfl
  refine pure_ (i := 22) (N := some 52) (v := undef) (a' := ?_) (fl_ 23 12) rfl rfl (any_of HT_.out (by kernel_rfl)) (fun _ _ _ h => h) (Or.inr ⟨by rfl, rfl⟩) ?_ ?_
  rotate_left
  ·simp only [Act.put, sl0, sl1, sl2, i64_w, i32_w]
   rfl
  refine pure_ (i := 23) (N := some 53) (v := undef) (a' := ?_) (fl_ 24 11) rfl rfl (any_of HT_.out (by kernel_rfl)) (fun _ _ _ h => h) (Or.inr ⟨by rfl, rfl⟩) ?_ ?_
  rotate_left
  ·simp only [Act.put, sl0, sl1, sl2, i64_w, i32_w]
   rfl
  refine pure_ (i := 24) (N := some 54) (v := undef) (a' := ?_) (fl_ 25 10) rfl rfl (any_of HT_.out (by kernel_rfl)) (fun _ _ _ h => h) (Or.inr ⟨by rfl, rfl⟩) ?_ ?_
  rotate_left
  ·simp only [Act.put, sl0, sl1, sl2, i64_w, i32_w]
   rfl
  refine pure_ (i := 25) (N := some 55) (v := undef) (a' := ?_) (fl_ 26 9) rfl rfl (any_of HT_.out (by kernel_rfl)) (fun _ _ _ h => h) (Or.inr ⟨by rfl, rfl⟩) ?_ ?_
  rotate_left
  ·simp only [Act.put, sl0, sl1, sl2, i64_w, i32_w]
   rfl
  refine pure_ (i := 26) (N := some 56) (v := undef) (a' := ?_) (fl_ 27 8) rfl rfl (any_of HT_.out (by kernel_rfl)) (fun _ _ _ h => h) (Or.inr ⟨by rfl, rfl⟩) ?_ ?_
  rotate_left
  ·simp only [Act.put, sl0, sl1, sl2, i64_w, i32_w]
   rfl
  refine pure_ (i := 27) (N := some 57) (v := undef) (a' := ?_) (fl_ 28 7) rfl rfl (any_of HT_.out (by kernel_rfl)) (fun _ _ _ h => h) (Or.inr ⟨by rfl, rfl⟩) ?_ ?_
  rotate_left
  ·simp only [Act.put, sl0, sl1, sl2, i64_w, i32_w]
   rfl
  refine pure_ (i := 28) (N := some 58) (v := undef) (a' := ?_) (fl_ 29 6) rfl rfl (any_of HT_.out (by kernel_rfl)) (fun _ _ _ h => h) (Or.inr ⟨by rfl, rfl⟩) ?_ ?_
  rotate_left
  ·simp only [Act.put, sl0, sl1, sl2, i64_w, i32_w]
   rfl
  refine pure_ (i := 29) (N := some 59) (v := undef) (a' := ?_) (fl_ 30 5) rfl rfl (any_of HT_.out (by kernel_rfl)) (fun _ _ _ h => h) (Or.inr ⟨by rfl, rfl⟩) ?_ ?_
  rotate_left
  ·simp only [Act.put, sl0, sl1, sl2, i64_w, i32_w]
   rfl
  refine pure_ (i := 30) (N := some 60) (v := undef) (a' := ?_) (fl_ 31 4) rfl rfl (any_of HT_.out (by kernel_rfl)) (fun _ _ _ h => h) (Or.inr ⟨by rfl, rfl⟩) ?_ ?_
  rotate_left
  ·simp only [Act.put, sl0, sl1, sl2, i64_w, i32_w]
   rfl
  refine pure_ (i := 31) (N := some 61) (v := undef) (a' := ?_) (fl_ 32 3) rfl rfl (any_of HT_.out (by kernel_rfl)) (fun _ _ _ h => h) (Or.inr ⟨by rfl, rfl⟩) ?_ ?_
  rotate_left
  ·simp only [Act.put, sl0, sl1, sl2, i64_w, i32_w]
   rfl
  refine pure_ (i := 32) (N := some 62) (v := undef) (a' := ?_) (fl_ 33 2) rfl rfl (any_of HT_.out (by kernel_rfl)) (fun _ _ _ h => h) (Or.inr ⟨by rfl, rfl⟩) ?_ ?_
  rotate_left
  ·simp only [Act.put, sl0, sl1, sl2, i64_w, i32_w]
   rfl
  refine pure_ (i := 33) (N := some 63) (v := ?_) (a' := ?_) (fl_ 34 1) rfl rfl (any_of HT_.out (by kernel_rfl)) (fun _ _ _ h => h) (Or.inl ⟨by rfl, ?_⟩) ?_ ?_
  rotate_left
  ·intro w'
   go_simp
   with_reducible rfl
  rotate_left
  ·simp only [Act.put, sl0, sl1, sl2, i64_w, i32_w]
   rfl
  refine pure_ (i := 34) (N := some 2) (v := ?_) (a' := ?_) (fl_ 35 0) rfl rfl (any_of HT_.out (by kernel_rfl)) (fun _ _ _ h => h) (Or.inl ⟨by rfl, ?_⟩) ?_ ?_
  rotate_left
  ·intro w'
   go_simp
   with_reducible rfl
  rotate_left
  ·simp only [Act.put, sl0, sl1, sl2, i64_w, i32_w]
   rfl
  refine done_ (done_of HT_.out (by kernel_rfl)) ?_
  try go_wp2
  go_ret
  exact ⟨by first | rfl | (simp [errW_none, errW_some] <;> rfl) | (simp [*, errW_none, errW_some] <;> rfl), by repeat (first | (with_reducible first | exact HB.out | apply below_alloc | apply pw_below_drewN | apply below_drew1) | exact HB.out)⟩
 subst c12
 have H1 : ((hypercuberef10_Cost.f k ((rd_T33 y186 t192).f0) ((rd_T33 y186 t192).f1) 100 t194).bind fun t203 => (some (t203 == (rd y189 t192)))) = some r := by rw [if_pos rfl] at H; exact H
 clear H
 have H := H1
 clear H1
 replace H := Option.bind_eq_some_iff.mp H
 obtain ⟨t203, A130, H⟩ := H
 replace H : (some (t203 == (rd y189 t192))) = some r := H
 have A13 := Aside0.mk A130
 clear A130
 obtain rfl := Option.some.inj H
 go_enter Try.func23, Try.ntmps23
 try go_wp2_with (first | ((with_reducible refine gate_callee (f := 51) rfl ?_); refine goesL_ (some 7) rfl rfl Try.func51 (by kernel_rfl) rfl #[] rfl (by (try simp only [List.map_toArray, List.map_cons, List.map_nil]); first | done | rfl | (simp only [List.length_drop, List.length_take]; rfl)) ?_; (with_reducible refine (hypercubelaw10_known.calls  true _ A2.out).mono ?_); rintro e w14 ⟨rfl, hb⟩; refine ⟨_, rfl, ?_⟩; have n0_ := Aside0.mk (below_step (by repeat (first | (with_reducible first | exact HB.out | apply below_alloc | apply pw_below_drewN | apply below_drew1) | exact HB.out)) hb); clear HB; have HB := n0_; clear n0_; (try clear hb); (try clear hb2); (try clear hk); (try clear hi)) | ((with_reducible refine gate_dst (N := 9) rfl ?_); (try (refine gate_guard (by rfl) ?_; dsimp only)); refine Kd.R_lit (Kd.int .i64) _ 3 ?hg (N := 9) ?hd (xs := ([1] : List Int)) (inner := [.int .i64 1]) (ok := fun _ => True) (okp := fun _ => True) ?hr ?hp (fun _ hk => hk) trivial (Below.refl _ _) (Nat.le_refl _) (by simp) ?_; (case hd => rfl); (case hg => rfl); (case hr => first | (go_simp; done) | (go_simp; rfl)); (case hp => exact (Reps.one (show Kd.M (Kd.int .i64) _ _ _ 1 [.int .i64 1] from rfl) (Reps.none _ _))); intro v172 w15 ho16 hb hg_ hnew_; clear hg_ hnew_; (first | rw [← Ny171.out] at ho16 | (simp only [Int.reduceToNat] at ho16; rw [← Ny171.out] at ho16)); have n0_ := Aside0.mk (Kd.R_lower ho16 (below_size (by repeat (first | (with_reducible first | exact HB.out | apply below_alloc | apply pw_below_drewN | apply below_drew1) | exact HB.out)))); have n1_ := Aside0.mk (below_step (by repeat (first | (with_reducible first | exact HB.out | apply below_alloc | apply pw_below_drewN | apply below_drew1) | exact HB.out)) hb); clear HB; have HO173 := n0_; have HB := n1_; clear n0_ n1_; clear hb ho16; obtain ⟨Ao17, co17, eo17⟩ := Kd.R_slice HO173.out; subst eo17) | ((with_reducible refine gate_dst (N := 11) rfl ?_); (try (refine gate_guard (by rfl) ?_; dsimp only)); refine Kd.R_lit (Kd.int .i64) _ 3 ?hg (N := 11) ?hd (xs := ([4] : List Int)) (inner := [.int .i64 4]) (ok := fun _ => True) (okp := fun _ => True) ?hr ?hp (fun _ hk => hk) trivial (Below.refl _ _) (Nat.le_refl _) (by simp) ?_; (case hd => rfl); (case hg => rfl); (case hr => first | (go_simp; done) | (go_simp; rfl)); (case hp => exact (Reps.one (show Kd.M (Kd.int .i64) _ _ _ 4 [.int .i64 4] from rfl) (Reps.none _ _))); intro v175 w18 ho19 hb hg_ hnew_; clear hg_ hnew_; (first | rw [← Ny174.out] at ho19 | (simp only [Int.reduceToNat] at ho19; rw [← Ny174.out] at ho19)); have n0_ := Aside0.mk (Kd.R_elder' (by (with_reducible repeat (first | apply Kd.R_alloc | apply Kd.R_drewN | apply Kd.R_drew)); exact HO173.out) (Kd.R_base ho19) hb); have n1_ := Aside0.mk (Kd.R_lower (Kd.R_new' ho19 (Kd.R_lt (by (with_reducible repeat (first | apply Kd.R_alloc | apply Kd.R_drewN | apply Kd.R_drew)); exact HO173.out))) (below_size (by repeat (first | (with_reducible first | exact HB.out | apply below_alloc | apply pw_below_drewN | apply below_drew1) | exact HB.out)))); have n2_ := Aside0.mk (below_step (by repeat (first | (with_reducible first | exact HB.out | apply below_alloc | apply pw_below_drewN | apply below_drew1) | exact HB.out)) hb); clear HO173; clear HB; have HO173 := n0_; have HO176 := n1_; have HB := n2_; clear n0_ n1_ n2_; clear hb ho19; obtain ⟨Ao20, co20, eo20⟩ := Kd.R_slice HO176.out; subst eo20) | ((with_reducible refine gate_dst (N := 13) rfl ?_); (try (refine gate_guard (by rfl) ?_; dsimp only)); refine Kd.R_lit (Kd.int .i64) _ 3 ?hg (N := 13) ?hd (xs := ([2, 3] : List Int)) (inner := [.int .i64 2, .int .i64 3]) (ok := fun _ => True) (okp := fun _ => True) ?hr ?hp (fun _ hk => hk) trivial (Below.refl _ _) (Nat.le_refl _) (by simp) ?_; (case hd => rfl); (case hg => rfl); (case hr => first | (go_simp; done) | (go_simp; rfl)); (case hp => exact (Reps.one (show Kd.M (Kd.int .i64) _ _ _ 2 [.int .i64 2] from rfl) (Reps.one (show Kd.M (Kd.int .i64) _ _ _ 3 [.int .i64 3] from rfl) (Reps.none _ _)))); intro v178 w21 ho22 hb hg_ hnew_; clear hg_ hnew_; (first | rw [← Ny177.out] at ho22 | (simp only [Int.reduceToNat] at ho22; rw [← Ny177.out] at ho22)); have n0_ := Aside0.mk (Kd.R_elder' (by (with_reducible repeat (first | apply Kd.R_alloc | apply Kd.R_drewN | apply Kd.R_drew)); exact HO173.out) (Kd.R_base ho22) hb); have n1_ := Aside0.mk (Kd.R_elder' (by (with_reducible repeat (first | apply Kd.R_alloc | apply Kd.R_drewN | apply Kd.R_drew)); exact HO176.out) (Kd.R_base ho22) hb); have n2_ := Aside0.mk (Kd.R_lower (Kd.R_new' (Kd.R_new' ho22 (Kd.R_lt (by (with_reducible repeat (first | apply Kd.R_alloc | apply Kd.R_drewN | apply Kd.R_drew)); exact HO173.out))) (Kd.R_lt (by (with_reducible repeat (first | apply Kd.R_alloc | apply Kd.R_drewN | apply Kd.R_drew)); exact HO176.out))) (below_size (by repeat (first | (with_reducible first | exact HB.out | apply below_alloc | apply pw_below_drewN | apply below_drew1) | exact HB.out)))); have n3_ := Aside0.mk (below_step (by repeat (first | (with_reducible first | exact HB.out | apply below_alloc | apply pw_below_drewN | apply below_drew1) | exact HB.out)) hb); clear HO173; clear HO176; clear HB; have HO173 := n0_; have HO176 := n1_; have HO179 := n2_; have HB := n3_; clear n0_ n1_ n2_ n3_; clear hb ho22; obtain ⟨Ao23, co23, eo23⟩ := Kd.R_slice HO179.out; subst eo23) | ((with_reducible refine gate_dst (N := 15) rfl ?_); (try (refine gate_guard (by rfl) ?_; dsimp only)); refine Kd.R_lit (Kd.int .i64) _ 3 ?hg (N := 15) ?hd (xs := ([3, 2] : List Int)) (inner := [.int .i64 3, .int .i64 2]) (ok := fun _ => True) (okp := fun _ => True) ?hr ?hp (fun _ hk => hk) trivial (Below.refl _ _) (Nat.le_refl _) (by simp) ?_; (case hd => rfl); (case hg => rfl); (case hr => first | (go_simp; done) | (go_simp; rfl)); (case hp => exact (Reps.one (show Kd.M (Kd.int .i64) _ _ _ 3 [.int .i64 3] from rfl) (Reps.one (show Kd.M (Kd.int .i64) _ _ _ 2 [.int .i64 2] from rfl) (Reps.none _ _)))); intro v181 w24 ho25 hb hg_ hnew_; clear hg_ hnew_; (first | rw [← Ny180.out] at ho25 | (simp only [Int.reduceToNat] at ho25; rw [← Ny180.out] at ho25)); have n0_ := Aside0.mk (Kd.R_elder' (by (with_reducible repeat (first | apply Kd.R_alloc | apply Kd.R_drewN | apply Kd.R_drew)); exact HO173.out) (Kd.R_base ho25) hb); have n1_ := Aside0.mk (Kd.R_elder' (by (with_reducible repeat (first | apply Kd.R_alloc | apply Kd.R_drewN | apply Kd.R_drew)); exact HO176.out) (Kd.R_base ho25) hb); have n2_ := Aside0.mk (Kd.R_elder' (by (with_reducible repeat (first | apply Kd.R_alloc | apply Kd.R_drewN | apply Kd.R_drew)); exact HO179.out) (Kd.R_base ho25) hb); have n3_ := Aside0.mk (Kd.R_lower (Kd.R_new' (Kd.R_new' (Kd.R_new' ho25 (Kd.R_lt (by (with_reducible repeat (first | apply Kd.R_alloc | apply Kd.R_drewN | apply Kd.R_drew)); exact HO173.out))) (Kd.R_lt (by (with_reducible repeat (first | apply Kd.R_alloc | apply Kd.R_drewN | apply Kd.R_drew)); exact HO176.out))) (Kd.R_lt (by (with_reducible repeat (first | apply Kd.R_alloc | apply Kd.R_drewN | apply Kd.R_drew)); exact HO179.out))) (below_size (by repeat (first | (with_reducible first | exact HB.out | apply below_alloc | apply pw_below_drewN | apply below_drew1) | exact HB.out)))); have n4_ := Aside0.mk (below_step (by repeat (first | (with_reducible first | exact HB.out | apply below_alloc | apply pw_below_drewN | apply below_drew1) | exact HB.out)) hb); clear HO173; clear HO176; clear HO179; clear HB; have HO173 := n0_; have HO176 := n1_; have HO179 := n2_; have HO182 := n3_; have HB := n4_; clear n0_ n1_ n2_ n3_ n4_; clear hb ho25; obtain ⟨Ao26, co26, eo26⟩ := Kd.R_slice HO182.out; subst eo26) | ((with_reducible refine gate_dst (N := 17) rfl ?_); (try (refine gate_guard (by rfl) ?_; dsimp only)); refine Kd.R_lit (Kd.int .i64) _ 3 ?hg (N := 17) ?hd (xs := ([1, 1] : List Int)) (inner := [.int .i64 1, .int .i64 1]) (ok := fun _ => True) (okp := fun _ => True) ?hr ?hp (fun _ hk => hk) trivial (Below.refl _ _) (Nat.le_refl _) (by simp) ?_; (case hd => rfl); (case hg => rfl); (case hr => first | (go_simp; done) | (go_simp; rfl)); (case hp => exact (Reps.one (show Kd.M (Kd.int .i64) _ _ _ 1 [.int .i64 1] from rfl) (Reps.one (show Kd.M (Kd.int .i64) _ _ _ 1 [.int .i64 1] from rfl) (Reps.none _ _)))); intro v184 w27 ho28 hb hg_ hnew_; clear hg_ hnew_; (first | rw [← Ny183.out] at ho28 | (simp only [Int.reduceToNat] at ho28; rw [← Ny183.out] at ho28)); have n0_ := Aside0.mk (Kd.R_elder' (by (with_reducible repeat (first | apply Kd.R_alloc | apply Kd.R_drewN | apply Kd.R_drew)); exact HO173.out) (Kd.R_base ho28) hb); have n1_ := Aside0.mk (Kd.R_elder' (by (with_reducible repeat (first | apply Kd.R_alloc | apply Kd.R_drewN | apply Kd.R_drew)); exact HO176.out) (Kd.R_base ho28) hb); have n2_ := Aside0.mk (Kd.R_elder' (by (with_reducible repeat (first | apply Kd.R_alloc | apply Kd.R_drewN | apply Kd.R_drew)); exact HO179.out) (Kd.R_base ho28) hb); have n3_ := Aside0.mk (Kd.R_elder' (by (with_reducible repeat (first | apply Kd.R_alloc | apply Kd.R_drewN | apply Kd.R_drew)); exact HO182.out) (Kd.R_base ho28) hb); have n4_ := Aside0.mk (Kd.R_lower (Kd.R_new' (Kd.R_new' (Kd.R_new' (Kd.R_new' ho28 (Kd.R_lt (by (with_reducible repeat (first | apply Kd.R_alloc | apply Kd.R_drewN | apply Kd.R_drew)); exact HO173.out))) (Kd.R_lt (by (with_reducible repeat (first | apply Kd.R_alloc | apply Kd.R_drewN | apply Kd.R_drew)); exact HO176.out))) (Kd.R_lt (by (with_reducible repeat (first | apply Kd.R_alloc | apply Kd.R_drewN | apply Kd.R_drew)); exact HO179.out))) (Kd.R_lt (by (with_reducible repeat (first | apply Kd.R_alloc | apply Kd.R_drewN | apply Kd.R_drew)); exact HO182.out))) (below_size (by repeat (first | (with_reducible first | exact HB.out | apply below_alloc | apply pw_below_drewN | apply below_drew1) | exact HB.out)))); have n5_ := Aside0.mk (below_step (by repeat (first | (with_reducible first | exact HB.out | apply below_alloc | apply pw_below_drewN | apply below_drew1) | exact HB.out)) hb); clear HO173; clear HO176; clear HO179; clear HO182; clear HB; have HO173 := n0_; have HO176 := n1_; have HO179 := n2_; have HO182 := n3_; have HO185 := n4_; have HB := n5_; clear n0_ n1_ n2_ n3_ n4_ n5_; clear hb ho28; obtain ⟨Ao29, co29, eo29⟩ := Kd.R_slice HO185.out; subst eo29) | ((with_reducible refine gate_dst (N := 19) rfl ?_); (try (refine gate_guard (by rfl) ?_; dsimp only)); refine Kd.N_lit k33 _ 33 ?hg (N' := 19) ?hd (xs := ([(⟨y171, 0⟩ : S33), (⟨y174, 0⟩ : S33), (⟨y177, 0⟩ : S33), (⟨y180, 0⟩ : S33), (⟨y183, 0⟩ : S33)] : List (S33))) (inner := [.slice Ao17 y171.length co17, .int .i64 0, .slice Ao20 y174.length co20, .int .i64 0, .slice Ao23 y177.length co23, .int .i64 0, .slice Ao26 y180.length co26, .int .i64 0, .slice Ao29 y183.length co29, .int .i64 0]) (ok := (fun _ => True)) (okp := (fun _ => True)) ?hr ?hp (fun _ hk => hk) ((show ∀ k_, w27.heap.size ≤ k_ → (fun _ => True) k_ from fun k_ hk => trivial) _ (Nat.le_refl _)) (Below.refl _ _) (Nat.le_refl _) (by simp) ?_; (case hd => rfl); (case hg => rfl); (case hr => first | (go_simp; done) | (go_simp; rfl)); (case hp => exact (Reps.c2 (show Kd.FK k33 _ _ (⟨y171, 0⟩ : S33) [.slice Ao17 y171.length co17, .int .i64 0] from (k33_mkF _ _ (⟨y171, 0⟩ : S33) (Kd.R_reads' (Kd.R_mono (ok' := (fun _ => True)) (HO173.out) (fun k_ hk => trivial))).2.1 (Kd.R_F (Kd.R_mono (ok' := (fun _ => True)) (HO173.out) (fun k_ hk => trivial))))) (Reps.c2 (show Kd.FK k33 _ _ (⟨y174, 0⟩ : S33) [.slice Ao20 y174.length co20, .int .i64 0] from (k33_mkF _ _ (⟨y174, 0⟩ : S33) (Kd.R_reads' (Kd.R_mono (ok' := (fun _ => True)) (HO176.out) (fun k_ hk => trivial))).2.1 (Kd.R_F (Kd.R_mono (ok' := (fun _ => True)) (HO176.out) (fun k_ hk => trivial))))) (Reps.c2 (show Kd.FK k33 _ _ (⟨y177, 0⟩ : S33) [.slice Ao23 y177.length co23, .int .i64 0] from (k33_mkF _ _ (⟨y177, 0⟩ : S33) (Kd.R_reads' (Kd.R_mono (ok' := (fun _ => True)) (HO179.out) (fun k_ hk => trivial))).2.1 (Kd.R_F (Kd.R_mono (ok' := (fun _ => True)) (HO179.out) (fun k_ hk => trivial))))) (Reps.c2 (show Kd.FK k33 _ _ (⟨y180, 0⟩ : S33) [.slice Ao26 y180.length co26, .int .i64 0] from (k33_mkF _ _ (⟨y180, 0⟩ : S33) (Kd.R_reads' (Kd.R_mono (ok' := (fun _ => True)) (HO182.out) (fun k_ hk => trivial))).2.1 (Kd.R_F (Kd.R_mono (ok' := (fun _ => True)) (HO182.out) (fun k_ hk => trivial))))) (Reps.c2 (show Kd.FK k33 _ _ (⟨y183, 0⟩ : S33) [.slice Ao29 y183.length co29, .int .i64 0] from (k33_mkF _ _ (⟨y183, 0⟩ : S33) (Kd.R_reads' (Kd.R_mono (ok' := (fun _ => True)) (HO185.out) (fun k_ hk => trivial))).2.1 (Kd.R_F (Kd.R_mono (ok' := (fun _ => True)) (HO185.out) (fun k_ hk => trivial))))) (Reps.none _ _))))))); intro v187 w30 ho31 hb hg_ hnew_; clear hg_ hnew_; (first | rw [← Ny186.out] at ho31 | (simp only [Int.reduceToNat] at ho31; rw [← Ny186.out] at ho31)); have n0_ := Aside0.mk (Kd.N_lower ho31 (below_size (by repeat (first | (with_reducible first | exact HB.out | apply below_alloc | apply pw_below_drewN | apply below_drew1) | exact HB.out)))); have n1_ := Aside0.mk (below_step (by repeat (first | (with_reducible first | exact HB.out | apply below_alloc | apply pw_below_drewN | apply below_drew1) | exact HB.out)) hb); clear HB; clear HO173; clear HO176; clear HO179; clear HO182; clear HO185; have HO188 := n0_; have HB := n1_; clear n0_ n1_; clear hb ho31) | ((with_reducible refine gate_dst (N := 20) rfl ?_); (try (refine gate_guard (by rfl) ?_; dsimp only)); refine Kd.R_lit (Kd.int .i64) _ 3 ?hg (N := 20) ?hd (xs := ([1, 4, 32, 32, 4] : List Int)) (inner := [.int .i64 1, .int .i64 4, .int .i64 32, .int .i64 32, .int .i64 4]) (ok := fun _ => True) (okp := fun _ => True) ?hr ?hp (fun _ hk => hk) trivial (Below.refl _ _) (Nat.le_refl _) (by simp) ?_; (case hd => rfl); (case hg => rfl); (case hr => first | (go_simp; done) | (go_simp; rfl)); (case hp => exact (Reps.one (show Kd.M (Kd.int .i64) _ _ _ 1 [.int .i64 1] from rfl) (Reps.one (show Kd.M (Kd.int .i64) _ _ _ 4 [.int .i64 4] from rfl) (Reps.one (show Kd.M (Kd.int .i64) _ _ _ 32 [.int .i64 32] from rfl) (Reps.one (show Kd.M (Kd.int .i64) _ _ _ 32 [.int .i64 32] from rfl) (Reps.one (show Kd.M (Kd.int .i64) _ _ _ 4 [.int .i64 4] from rfl) (Reps.none _ _))))))); intro v190 w32 ho33 hb hg_ hnew_; clear hg_ hnew_; (first | rw [← Ny189.out] at ho33 | (simp only [Int.reduceToNat] at ho33; rw [← Ny189.out] at ho33)); have n0_ := Aside0.mk (Kd.N_elder' (by (with_reducible repeat (first | apply Kd.N_alloc | apply Kd.N_drewN | apply Kd.N_drew)); exact HO188.out) (Kd.R_base ho33) hb); have n1_ := Aside0.mk (Kd.R_lower ho33 (below_size (by repeat (first | (with_reducible first | exact HB.out | apply below_alloc | apply pw_below_drewN | apply below_drew1) | exact HB.out)))); have n2_ := Aside0.mk (below_step (by repeat (first | (with_reducible first | exact HB.out | apply below_alloc | apply pw_below_drewN | apply below_drew1) | exact HB.out)) hb); clear HO188; clear HB; have HO188 := n0_; have HO191 := n1_; have HB := n2_; clear n0_ n1_ n2_; clear hb ho33; obtain ⟨Ao34, co34, eo34⟩ := Kd.N_slice HO188.out; subst eo34) | ((with_reducible refine gate_callee (f := 52) rfl ?_); refine goesL_ (some 24) rfl rfl Try.func52 (by kernel_rfl) rfl #[.int .i64 a0, .int .i64 (y186.length : Int)] rfl (by (try simp only [List.map_toArray, List.map_cons, List.map_nil]); first | done | rfl | (simp only [List.length_drop, List.length_take]; rfl)) ?_; (with_reducible refine (hypercubelaw10_within.calls a0 (y186.length : Int) t192 _ A4.out).mono ?_); rintro e w' ⟨rfl, ⟨nd, rfl⟩⟩; refine ⟨_, rfl, ?_⟩; have p193 : 0 ≤ (t192 : Int) := of_decide_eq_true (by first | (with_reducible assumption) | assumption); have q193 : t192 < (y186.length : Int) := of_decide_eq_true (by first | (with_reducible assumption) | assumption); obtain ⟨ad193, A193_0, c193_0, e193, hx193_0, hx193_1, hl193_0, hi193_0⟩ := at_T33 (Kd.N_reads' HO188.out).2.2 t192 p193 q193; cases e193; obtain ⟨ce193, hce193, hMe193, hcc193⟩ := Kd.N_get HO188.out z33 t192 p193 (by first | exact q193 | exact of_decide_eq_true (by first | (with_reducible assumption) | assumption) | (have e_ := (Kd.N_reads' HO188.out).1; omega)); obtain ⟨ua193_0, uc193_0, rfl, ul193_0, ge193_0⟩ := k33_openF hMe193; have hv193_0 := hcc193 0 _ rfl; rw [Nat.add_zero] at hv193_0; replace hv193_0 := Option.some.inj (hv193_0.symm.trans hx193_0); injection hv193_0 with hva_ hvn_ hvc_; rw [hva_] at ge193_0; rw [hvc_] at ul193_0; have HL193_0 := Aside0.mk (show Kd.V (Kd.int .i64) 3 _ w.heap.size _ _ ((rd_T33 y186 t192).f0) from Kd.V_mk ul193_0 ge193_0); clear hva_ hvn_ hvc_ ge193_0 ul193_0; clear hcc193 hce193; have HR193_0 := Aside0.mk hi193_0; have HC193_0 := Aside0.mk hl193_0; clear hi193_0 hl193_0; replace p193 := eq_true p193; replace q193 := eq_true q193) | ((with_reducible refine gate_callee (f := 55) rfl ?_); refine goesL_ (some 29) rfl rfl Try.func55 (by kernel_rfl) rfl #[.agg #[.slice A193_0 ((rd_T33 y186 t192).f0).length c193_0, .int .i64 ((rd_T33 y186 t192).f1)], .int .i64 100] rfl (by (try simp only [List.map_toArray, List.map_cons, List.map_nil]); first | done | rfl | (simp only [List.length_drop, List.length_take]; rfl)) ?_; (with_reducible refine (sorts_Plan.calls _ _ ((rd_T33 y186 t192).f0) ((rd_T33 y186 t192).f1) 100 t194 _ ?side1 ?side2 A7.out).mono ?_); (case side1 => repeat (first | exact (by repeat (first | (with_reducible exact HR193_0.out) | (with_reducible refine Kd.C_alloc ?_ _) | (with_reducible refine Kd.C_drewN ?_ _) | (with_reducible refine Kd.C_drew ?_) | exact HR193_0.out)) | (with_reducible refine Kd.C_alloc ?_ _) | (with_reducible refine Kd.C_drewN ?_ _) | (with_reducible refine Kd.C_drew ?_))); (case side2 => exact HC193_0.out); rintro e w35 ⟨v195, rfl, ho0, hb⟩; refine ⟨_, rfl, ?_⟩; have n0_ := Aside0.mk (Kd.N_elder' (by (with_reducible repeat (first | apply Kd.N_alloc | apply Kd.N_drewN | apply Kd.N_drew)); exact HO188.out) (Kd.R_base ho0) hb); have n1_ := Aside0.mk (Kd.R_below (by (with_reducible repeat (first | apply Kd.R_alloc | apply Kd.R_drewN | apply Kd.R_drew)); exact HO191.out) hb); have n2_ := Aside0.mk (Kd.V_elder' (by (with_reducible repeat (first | apply Kd.V_alloc | apply Kd.V_drewN | apply Kd.V_drew)); exact HL193_0.out) (Kd.R_base ho0) hb); have n3_ := Aside0.mk (Kd.R_lower ho0 (below_size (by repeat (first | (with_reducible first | exact HB.out | apply below_alloc | apply pw_below_drewN | apply below_drew1) | exact HB.out)))); have n4_ := Aside0.mk (Kd.C_below (by repeat (first | (with_reducible exact HR193_0.out) | (with_reducible refine Kd.C_alloc ?_ _) | (with_reducible refine Kd.C_drewN ?_ _) | (with_reducible refine Kd.C_drew ?_) | exact HR193_0.out)) hb); have n5_ := Aside0.mk (below_step (by repeat (first | (with_reducible first | exact HB.out | apply below_alloc | apply pw_below_drewN | apply below_drew1) | exact HB.out)) hb); clear HO188; clear HO191; clear HL193_0; clear HR193_0; clear HB; have HO188 := n0_; have HO191 := n1_; have HL193_0 := n2_; have HO196 := n3_; have HR193_0 := n4_; have HB := n5_; clear n0_ n1_ n2_ n3_ n4_ n5_; (try clear hb); (try clear hb2); (try clear hk); (try clear hi); (try clear ho0)))
 have n0_ := Aside0.mk (Kd.N_drew HO188.out)
 have n1_ := Aside0.mk (Kd.R_drew HO191.out)
 have n2_ := Aside0.mk (Kd.V_drew HL193_0.out)
 have n3_ := Aside0.mk (Kd.R_drew HO196.out)
 have n4_ := Aside0.mk (Kd.C_drew HR193_0.out)
 have n5_ := Aside0.mk (below_drew1 HB.out)
 clear HO188
 clear HO191
 clear HL193_0
 clear HO196
 clear HR193_0
 clear HB
 have HO188 := n0_
 have HO191 := n1_
 have HL193_0 := n2_
 have HO196 := n3_
 have HR193_0 := n4_
 have HB := n5_
 clear n0_ n1_ n2_ n3_ n4_ n5_
 have p197 : 0 ≤ (t192 : Int) := od_
 have q197 : t192 < (y186.length : Int) := od_
 obtain ⟨ad197, A197_0, c197_0, e197, hx197_0, hx197_1, hl197_0, hi197_0⟩ := at_T33 (Kd.N_reads' HO188.out).2.2 t192 p197 q197
 obtain rfl : ad193 = ad197 := (by injection e197)
 obtain ⟨ce197, hce197, hMe197, hcc197⟩ := Kd.N_get HO188.out z33 t192 p197 (by first | exact q197 | exact of_decide_eq_true (by first | (with_reducible assumption) | assumption) | (have e_ := (Kd.N_reads' HO188.out).1; omega))
 obtain ⟨ua197_0, uc197_0, rfl, ul197_0, ge197_0⟩ := k33_openF hMe197
 have hv197_0 := hcc197 0 _ rfl
 rw [Nat.add_zero] at hv197_0
 replace hv197_0 := Option.some.inj (hv197_0.symm.trans hx197_0)
 injection hv197_0 with hva_ hvn_ hvc_
 rw [hva_] at ge197_0
 rw [hvc_] at ul197_0
 have HL197_0 := Aside0.mk (show Kd.V (Kd.int .i64) 3 _ w.heap.size _ _ ((rd_T33 y186 t192).f0) from Kd.V_mk ul197_0 ge197_0)
 clear hva_ hvn_ hvc_ ge197_0 ul197_0
 clear hcc197 hce197
 have HR197_0 := Aside0.mk hi197_0
 have HC197_0 := Aside0.mk hl197_0
 clear hi197_0 hl197_0
 replace p197 := eq_true p197
 replace q197 := eq_true q197
 obtain ⟨Ao37, co37, eo37⟩ := Kd.R_slice HO191.out
 (first | subst eo37 | (injection eo37 with f1_ f2_ f3_; have f4_ := f1_.symm; have f5_ := f3_.symm; clear f1_ f2_ f3_; subst f4_; subst f5_))
 have p199 : 0 ≤ (t192 : Int) := od_
 have q199 : t192 < (y189.length : Int) := od_
 obtain ⟨ad199, e199, hx199_0⟩ := Kd.at_int (Kd.R_reads' HO191.out).2.2 t192 p199 q199
 cases e199
 replace p199 := eq_true p199
 replace q199 := eq_true q199
 obtain ⟨Ao38, co38, eo38⟩ := Kd.R_slice HO196.out
 (first | subst eo38 | (injection eo38 with f1_ f2_ f3_; have f4_ := f1_.symm; have f5_ := f3_.symm; clear f1_ f2_ f3_; subst f4_; subst f5_))
 have p200 : 0 ≤ (t192 : Int) := od_
 have q200 : t192 < (y186.length : Int) := od_
 obtain ⟨ad200, A200_0, c200_0, e200, hx200_0, hx200_1, hl200_0, hi200_0⟩ := at_T33 (Kd.N_reads' HO188.out).2.2 t192 p200 q200
 obtain rfl : ad193 = ad200 := (by injection e200)
 obtain ⟨rfl, rfl⟩ : A197_0 = A200_0 ∧ c197_0 = c200_0 := by have e_ := Option.some.inj (hx197_0.symm.trans hx200_0); injection e_ with a_ b_ c_; exact ⟨a_, c_⟩
 obtain ⟨ce200, hce200, hMe200, hcc200⟩ := Kd.N_get HO188.out z33 t192 p200 (by first | exact q200 | exact of_decide_eq_true (by first | (with_reducible assumption) | assumption) | (have e_ := (Kd.N_reads' HO188.out).1; omega))
 obtain ⟨ua200_0, uc200_0, rfl, ul200_0, ge200_0⟩ := k33_openF hMe200
 have hv200_0 := hcc200 0 _ rfl
 rw [Nat.add_zero] at hv200_0
 replace hv200_0 := Option.some.inj (hv200_0.symm.trans hx200_0)
 injection hv200_0 with hva_ hvn_ hvc_
 rw [hva_] at ge200_0
 rw [hvc_] at ul200_0
 have HL200_0 := Aside0.mk (show Kd.V (Kd.int .i64) 3 _ w.heap.size _ _ ((rd_T33 y186 t192).f0) from Kd.V_mk ul200_0 ge200_0)
 clear hva_ hvn_ hvc_ ge200_0 ul200_0
 clear hcc200 hce200
 have HR200_0 := Aside0.mk hi200_0
 have HC200_0 := Aside0.mk hl200_0
 clear hi200_0 hl200_0
 replace p200 := eq_true p200
 replace q200 := eq_true q200
 have p202 : 0 ≤ (t192 : Int) := od_
 have q202 : t192 < (y186.length : Int) := od_
 obtain ⟨ad202, A202_0, c202_0, e202, hx202_0, hx202_1, hl202_0, hi202_0⟩ := at_T33 (Kd.N_reads' HO188.out).2.2 t192 p202 q202
 obtain rfl : ad193 = ad202 := (by injection e202)
 obtain ⟨rfl, rfl⟩ : A197_0 = A202_0 ∧ c197_0 = c202_0 := by have e_ := Option.some.inj (hx197_0.symm.trans hx202_0); injection e_ with a_ b_ c_; exact ⟨a_, c_⟩
 obtain ⟨ce202, hce202, hMe202, hcc202⟩ := Kd.N_get HO188.out z33 t192 p202 (by first | exact q202 | exact of_decide_eq_true (by first | (with_reducible assumption) | assumption) | (have e_ := (Kd.N_reads' HO188.out).1; omega))
 obtain ⟨ua202_0, uc202_0, rfl, ul202_0, ge202_0⟩ := k33_openF hMe202
 have hv202_0 := hcc202 0 _ rfl
 rw [Nat.add_zero] at hv202_0
 replace hv202_0 := Option.some.inj (hv202_0.symm.trans hx202_0)
 injection hv202_0 with hva_ hvn_ hvc_
 rw [hva_] at ge202_0
 rw [hvc_] at ul202_0
 have HL202_0 := Aside0.mk (show Kd.V (Kd.int .i64) 3 _ w.heap.size _ _ ((rd_T33 y186 t192).f0) from Kd.V_mk ul202_0 ge202_0)
 clear hva_ hvn_ hvc_ ge202_0 ul202_0
 clear hcc202 hce202
 have HR202_0 := Aside0.mk hi202_0
 have HC202_0 := Aside0.mk hl202_0
 clear hi202_0 hl202_0
 replace p202 := eq_true p202
 replace q202 := eq_true q202
 have p204 : 0 ≤ (t192 : Int) := od_
 have q204 : t192 < (y189.length : Int) := od_
 obtain ⟨ad204, e204, hx204_0⟩ := Kd.at_int (Kd.R_reads' HO191.out).2.2 t192 p204 q204
 obtain rfl : ad199 = ad204 := (by injection e204)
 replace p204 := eq_true p204
 replace q204 := eq_true q204
 refine start_ (n := 35) (S := fun w' => w'.cell? (ad193.add ((t192).toNat * 2)) = some (.slice A197_0 ((rd_T33 y186 t192).f0).length c197_0) ∧ w'.cell? ⟨(ad193.add ((t192).toNat * 2)).block, (ad193.add ((t192).toNat * 2)).off + 1, none⟩ = some (.int .i64 ((rd_T33 y186 t192).f1)) ∧ w'.cell? (ad199.add (t192).toNat) = some (.int .i64 (rd y189 t192)) ∧ w'.cell? (ad193.add ((t192).toNat * 2)) = some (.slice A197_0 ((rd_T33 y186 t192).f0).length c197_0) ∧ w'.cell? ⟨(ad193.add ((t192).toNat * 2)).block, (ad193.add ((t192).toNat * 2)).off + 1, none⟩ = some (.int .i64 ((rd_T33 y186 t192).f1)) ∧ w'.cell? (ad193.add ((t192).toNat * 2)) = some (.slice A197_0 ((rd_T33 y186 t192).f0).length c197_0) ∧ w'.cell? ⟨(ad193.add ((t192).toNat * 2)).block, (ad193.add ((t192).toNat * 2)).off + 1, none⟩ = some (.int .i64 ((rd_T33 y186 t192).f1)) ∧ w'.cell? (ad199.add (t192).toNat) = some (.int .i64 (rd y189 t192))) (ds := []) (fl_ 0 35) (by kernel_rfl) rfl rfl ⟨hx197_0, hx197_1, hx199_0, hx200_0, hx200_1, hx202_0, hx202_1, hx204_0⟩ (fun hHeld => ?_); refine with_tabW hypercubelaw10_SortsKnown.tab7 hypercubelaw10_SortsKnown.bits7 (fun HT_ HW_ => ?_)
 generalize w35.drew = w36 at HO188 HO191 HL193_0 HO196 HR193_0 HB HL197_0 HL200_0 HL202_0 HR197_0 HR200_0 HR202_0 hx197_0 hx197_1 hx199_0 hx200_0 hx200_1 hx202_0 hx202_1 hx204_0 hHeld ⊢
 refine pure_ (i := 0) (N := some 30) (v := ?_) (a' := ?_) (fl_ 1 34) rfl rfl (any_of HT_.out (by kernel_rfl)) (fun _ _ _ h => h) (Or.inl ⟨by rfl, ?_⟩) ?_ ?_
 rotate_left
 ·intro w'
  go_simp
  with_reducible rfl
 rotate_left
 ·simp only [Act.put, sl0, sl1, sl2, i64_w, i32_w]
  rfl
 refine pure_ (i := 1) (N := some 31) (v := ?_) (a' := ?_) (fl_ 2 33) rfl rfl (any_of HT_.out (by kernel_rfl)) (fun _ _ _ h => h) (Or.inl ⟨by rfl, ?_⟩) ?_ ?_
 rotate_left
 ·intro w'
  go_simp
  with_reducible rfl
 rotate_left
 ·simp only [Act.put, sl0, sl1, sl2, i64_w, i32_w]
  rfl
 refine pure_ (i := 2) (N := some 32) (v := ?_) (a' := ?_) (fl_ 3 32) rfl rfl (any_of HT_.out (by kernel_rfl)) (fun _ _ _ h => h) (Or.inl ⟨by rfl, ?_⟩) ?_ ?_
 rotate_left
 ·intro w'
  go_simp
  with_reducible rfl
 rotate_left
 ·simp only [Act.put, sl0, sl1, sl2, i64_w, i32_w]
  rfl
 refine pure_ (i := 4) (N := some 34) (v := ?_) (a' := ?_) #[Y,Y,Y,Z,Y,Z,Z,Z,Z,Z,Z,Z,Z,Z,Z,Z,Z,Z,Z,Z,Z,Z,Z,Z,Z,Z,Z,Z,Z,Z,Z,Z,Z,Z,Z] rfl rfl (any_of HT_.out (by kernel_rfl)) (fun _ _ _ h => h) (Or.inl ⟨by rfl, ?_⟩) ?_ ?_
 rotate_left
 ·intro w'
  go_simp
  with_reducible rfl
 rotate_left
 ·simp only [Act.put, sl0, sl1, sl2, i64_w, i32_w]
  rfl
 refine pure_ (i := 6) (N := some 36) (v := ?_) (a' := ?_) #[Y,Y,Y,Z,Y,Z,Y,Z,Z,Z,Z,Z,Z,Z,Z,Z,Z,Z,Z,Z,Z,Z,Z,Z,Z,Z,Z,Z,Z,Z,Z,Z,Z,Z,Z] rfl rfl (any_of HT_.out (by kernel_rfl)) (fun _ _ _ h => h) (Or.inl ⟨by rfl, ?_⟩) ?_ ?_
 rotate_left
 ·intro w'
  go_simp
  with_reducible rfl
 rotate_left
 ·simp only [Act.put, sl0, sl1, sl2, i64_w, i32_w]
  rfl
 refine pure_ (i := 7) (N := some 37) (v := ?_) (a' := ?_) #[Y,Y,Y,Z,Y,Z,Y,Y,Z,Z,Z,Z,Z,Z,Z,Z,Z,Z,Z,Z,Z,Z,Z,Z,Z,Z,Z,Z,Z,Z,Z,Z,Z,Z,Z] rfl rfl (any_of HT_.out (by kernel_rfl)) (fun _ _ _ h => h) (Or.inl ⟨by rfl, ?_⟩) ?_ ?_
 rotate_left
 ·intro w'
  go_simp
  with_reducible rfl
 rotate_left
 ·simp only [Act.put, sl0, sl1, sl2, i64_w, i32_w]
  rfl
 refine pure_ (i := 8) (N := some 38) (v := ?_) (a' := ?_) #[Y,Y,Y,Z,Y,Z,Y,Y,Y,Z,Z,Z,Z,Z,Z,Z,Z,Z,Z,Z,Z,Z,Z,Z,Z,Z,Z,Z,Z,Z,Z,Z,Z,Z,Z] rfl rfl (any_of HT_.out (by kernel_rfl)) (fun _ _ _ h => h) (Or.inl ⟨by rfl, ?_⟩) ?_ ?_
 rotate_left
 ·intro w'
  go_simp
  with_reducible rfl
 rotate_left
 ·simp only [Act.put, sl0, sl1, sl2, i64_w, i32_w]
  rfl
 refine take_ (i := 3) (N := some 33) (v := ?_) (a' := ?_) #[Y,Y,Y,Y,Y,Z,Y,Y,Y,Z,Z,Z,Z,Z,Z,Z,Z,Z,Z,Z,Z,Z,Z,Z,Z,Z,Z,Z,Z,Z,Z,Z,Z,Z,Z] rfl rfl (take_ofW HT_.out HW_.out (by kernel_rfl)) (fun _ _ _ h => h) (Or.inl ⟨by rfl, ?_⟩) hHeld ?_ ?_
 rotate_left
 ·rintro w' ⟨s0, s1, s2, s3, s4, s5, s6, s7⟩
  go_simp
  with_reducible rfl
 rotate_left
 ·simp only [Act.put, sl0, sl1, sl2, i64_w, i32_w]
  rfl
 refine take_ (i := 9) (N := some 39) (v := ?_) (a' := ?_) #[Y,Y,Y,Y,Y,Z,Y,Y,Y,Y,Z,Z,Z,Z,Z,Z,Z,Z,Z,Z,Z,Z,Z,Z,Z,Z,Z,Z,Z,Z,Z,Z,Z,Z,Z] rfl rfl (take_ofW HT_.out HW_.out (by kernel_rfl)) (fun _ _ _ h => h) (Or.inl ⟨by rfl, ?_⟩) hHeld ?_ ?_
 rotate_left
 ·rintro w' ⟨s0, s1, s2, s3, s4, s5, s6, s7⟩
  go_simp
  with_reducible rfl
 rotate_left
 ·simp only [Act.put, sl0, sl1, sl2, i64_w, i32_w]
  rfl
 refine one_ (i := 5) (N := some 35) (fl_ 10 25) rfl rfl (one_of HT_.out (by kernel_rfl)) (by decide) (fun K hK => ?_)
 refine goes_ Try.func56 (by kernel_rfl) rfl #[.agg #[.slice A197_0 ((rd_T33 y186 t192).f0).length c197_0, .int .i64 ((rd_T33 y186 t192).f1)], .int .i64 100, .slice Ao38 t194.length co38] (by rfl) rfl rfl (by (try simp only [List.map_toArray, List.map_cons, List.map_nil]); first | done | rfl | (simp only [List.length_drop, List.length_take]; rfl)) ?_
 with_reducible refine (sorts_Cost.calls _ _ ((rd_T33 y186 t192).f0) ((rd_T33 y186 t192).f1) 100 _ _ t194 t198 _ ?side1 ?side2 ?side3 ?side4 A8.out).mono ?_
 (case side1 => repeat (first | exact (by repeat (first | (with_reducible exact HR197_0.out) | (with_reducible refine Kd.C_alloc ?_ _) | (with_reducible refine Kd.C_drewN ?_ _) | (with_reducible refine Kd.C_drew ?_) | exact HR197_0.out)) | (with_reducible refine Kd.C_alloc ?_ _) | (with_reducible refine Kd.C_drewN ?_ _) | (with_reducible refine Kd.C_drew ?_)))
 (case side2 => exact HC197_0.out)
 (case side3 => repeat (first | exact (Kd.R_reads' HO196.out).2.2 | (with_reducible refine Kd.C_alloc ?_ _) | (with_reducible refine Kd.C_drewN ?_ _) | (with_reducible refine Kd.C_drew ?_)))
 (case side4 => exact (Kd.R_reads' HO196.out).2.1)
 rintro e w39 ⟨rfl, hb⟩
 have HS0_ := (hb.cell (World.block_lt_of_cell? _ _ (hHeld.1))).trans (hHeld.1)
 have HS1_ := (hb.cell (World.block_lt_of_cell? _ _ (hHeld.2.1))).trans (hHeld.2.1)
 have HS2_ := (hb.cell (World.block_lt_of_cell? _ _ (hHeld.2.2.1))).trans (hHeld.2.2.1)
 have HS3_ := (hb.cell (World.block_lt_of_cell? _ _ (hHeld.2.2.2.1))).trans (hHeld.2.2.2.1)
 have HS4_ := (hb.cell (World.block_lt_of_cell? _ _ (hHeld.2.2.2.2.1))).trans (hHeld.2.2.2.2.1)
 have HS5_ := (hb.cell (World.block_lt_of_cell? _ _ (hHeld.2.2.2.2.2.1))).trans (hHeld.2.2.2.2.2.1)
 have HS6_ := (hb.cell (World.block_lt_of_cell? _ _ (hHeld.2.2.2.2.2.2.1))).trans (hHeld.2.2.2.2.2.2.1)
 have HS7_ := (hb.cell (World.block_lt_of_cell? _ _ (hHeld.2.2.2.2.2.2.2))).trans (hHeld.2.2.2.2.2.2.2)
 refine ⟨_, rfl, ?_⟩
 have n0_ := Aside0.mk (Kd.N_below (by (with_reducible repeat (first | apply Kd.N_alloc | apply Kd.N_drewN | apply Kd.N_drew)); exact HO188.out) hb)
 have n1_ := Aside0.mk (Kd.R_below (by (with_reducible repeat (first | apply Kd.R_alloc | apply Kd.R_drewN | apply Kd.R_drew)); exact HO191.out) hb)
 have n2_ := Aside0.mk (Kd.V_below (by (with_reducible repeat (first | apply Kd.V_alloc | apply Kd.V_drewN | apply Kd.V_drew)); exact HL193_0.out) hb)
 have n3_ := Aside0.mk (Kd.R_below (by (with_reducible repeat (first | apply Kd.R_alloc | apply Kd.R_drewN | apply Kd.R_drew)); exact HO196.out) hb)
 have n4_ := Aside0.mk (Kd.V_below (by (with_reducible repeat (first | apply Kd.V_alloc | apply Kd.V_drewN | apply Kd.V_drew)); exact HL197_0.out) hb)
 have n5_ := Aside0.mk (Kd.C_below (by repeat (first | (with_reducible exact HR193_0.out) | (with_reducible refine Kd.C_alloc ?_ _) | (with_reducible refine Kd.C_drewN ?_ _) | (with_reducible refine Kd.C_drew ?_) | exact HR193_0.out)) hb)
 have n6_ := Aside0.mk (Kd.C_below (by repeat (first | (with_reducible exact HR197_0.out) | (with_reducible refine Kd.C_alloc ?_ _) | (with_reducible refine Kd.C_drewN ?_ _) | (with_reducible refine Kd.C_drew ?_) | exact HR197_0.out)) hb)
 have n7_ := Aside0.mk (below_step (by repeat (first | (with_reducible first | exact HB.out | apply below_alloc | apply pw_below_drewN | apply below_drew1) | exact HB.out)) hb)
 clear HO188
 clear HO191
 clear HL193_0
 clear HO196
 clear HL197_0
 clear HR193_0
 clear HR197_0
 clear HB
 have HO188 := n0_
 have HO191 := n1_
 have HL193_0 := n2_
 have HO196 := n3_
 have HL197_0 := n4_
 have HR193_0 := n5_
 have HR197_0 := n6_
 (try have HL200_0 := HL197_0)
 (try have HR200_0 := HR197_0)
 (try have HL202_0 := HL197_0)
 (try have HR202_0 := HR197_0)
 have HB := n7_
 clear n0_ n1_ n2_ n3_ n4_ n5_ n6_ n7_
 (try clear hb)
 (try clear hb2)
 (try clear hk)
 (try clear hi)
 refine hK.out _ _ ⟨HS0_, HS1_, HS2_, HS3_, HS4_, HS5_, HS6_, HS7_⟩ (fun hHeld => ?_)
 clear hK K
 refine norm_ (a' := ?_) ?_ ?_
 rotate_left
 ·show Act.put _ (some 35) _ = _
  simp only [Act.put, sl0, sl1, sl2, i64_w, i32_w]
  rfl
 refine pure_ (i := 10) (N := some 40) (v := ?_) (a' := ?_) (fl_ 11 24) rfl rfl (any_of HT_.out (by kernel_rfl)) (fun _ _ _ h => h) (Or.inl ⟨by rfl, ?_⟩) ?_ ?_
 rotate_left
 ·intro w'
  go_simp
  with_reducible rfl
 rotate_left
 ·simp only [Act.put, sl0, sl1, sl2, i64_w, i32_w]
  rfl
 refine pure_ (i := 11) (N := some 41) (v := ?_) (a' := ?_) (fl_ 12 23) rfl rfl (any_of HT_.out (by kernel_rfl)) (fun _ _ _ h => h) (Or.inl ⟨by rfl, ?_⟩) ?_ ?_
 rotate_left
 ·intro w'
  go_simp
  with_reducible rfl
 rotate_left
 ·simp only [Act.put, sl0, sl1, sl2, i64_w, i32_w]
  rfl
 refine pure_ (i := 12) (N := some 42) (v := ?_) (a' := ?_) (fl_ 13 22) rfl rfl (any_of HT_.out (by kernel_rfl)) (fun _ _ _ h => h) (Or.inl ⟨by rfl, ?_⟩) ?_ ?_
 rotate_left
 ·intro w'
  go_simp
  with_reducible rfl
 rotate_left
 ·simp only [Act.put, sl0, sl1, sl2, i64_w, i32_w]
  rfl
 refine pure_ (i := 13) (N := some 43) (v := ?_) (a' := ?_) (fl_ 14 21) rfl rfl (any_of HT_.out (by kernel_rfl)) (fun _ _ _ h => h) (Or.inl ⟨by rfl, ?_⟩) ?_ ?_
 rotate_left
 ·intro w'
  go_simp
  with_reducible rfl
 rotate_left
 ·simp only [Act.put, sl0, sl1, sl2, i64_w, i32_w]
  rfl
 refine pure_ (i := 14) (N := some 44) (v := ?_) (a' := ?_) (fl_ 15 20) rfl rfl (any_of HT_.out (by kernel_rfl)) (fun _ _ _ h => h) (Or.inl ⟨by rfl, ?_⟩) ?_ ?_
 rotate_left
 ·intro w'
  go_simp
  with_reducible rfl
 rotate_left
 ·simp only [Act.put, sl0, sl1, sl2, i64_w, i32_w]
  rfl
 refine pure_ (i := 15) (N := some 45) (v := ?_) (a' := ?_) (fl_ 16 19) rfl rfl (any_of HT_.out (by kernel_rfl)) (fun _ _ _ h => h) (Or.inl ⟨by rfl, ?_⟩) ?_ ?_
 rotate_left
 ·intro w'
  go_simp
  with_reducible rfl
 rotate_left
 ·simp only [Act.put, sl0, sl1, sl2, i64_w, i32_w]
  rfl
 refine pure_ (i := 16) (N := some 46) (v := ?_) (a' := ?_) (fl_ 17 18) rfl rfl (any_of HT_.out (by kernel_rfl)) (fun _ _ _ h => h) (Or.inl ⟨by rfl, ?_⟩) ?_ ?_
 rotate_left
 ·intro w'
  go_simp
  with_reducible rfl
 rotate_left
 ·simp only [Act.put, sl0, sl1, sl2, i64_w, i32_w]
  rfl
 refine take_ (i := 17) (N := some 47) (v := ?_) (a' := ?_) (fl_ 18 17) rfl rfl (take_ofW HT_.out HW_.out (by kernel_rfl)) (fun _ _ _ h => h) (Or.inl ⟨by rfl, ?_⟩) hHeld ?_ ?_
 rotate_left
 ·rintro w' ⟨s0, s1, s2, s3, s4, s5, s6, s7⟩
  go_simp
  with_reducible rfl
 rotate_left
 ·simp only [Act.put, sl0, sl1, sl2, i64_w, i32_w]
  rfl
 refine pure_ (i := 18) (N := some 48) (v := ?_) (a' := ?_) (fl_ 19 16) rfl rfl (any_of HT_.out (by kernel_rfl)) (fun _ _ _ h => h) (Or.inl ⟨by rfl, ?_⟩) ?_ ?_
 rotate_left
 ·intro w'
  go_simp
  with_reducible rfl
 rotate_left
 ·simp only [Act.put, sl0, sl1, sl2, i64_w, i32_w]
  rfl
 refine one_ (i := 19) (N := some 49) (fl_ 20 15) rfl rfl (one_of HT_.out (by kernel_rfl)) (by decide) (fun K hK => ?_)
 refine goes_ Try.func54 (by kernel_rfl) rfl #[.slice Ao38 t194.length co38, .int .i64 (((rd_T33 y186 t192).f0).length : Int)] (by rfl) rfl rfl (by (try simp only [List.map_toArray, List.map_cons, List.map_nil]); first | done | rfl | (simp only [List.length_drop, List.length_take]; rfl)) ?_
 with_reducible refine (sorts_Right.calls _ _ t194 (((rd_T33 y186 t192).f0).length : Int) true _ ?side1 ?side2 A11.out).mono ?_
 (case side1 => repeat (first | exact (Kd.R_reads' HO196.out).2.2 | (with_reducible refine Kd.C_alloc ?_ _) | (with_reducible refine Kd.C_drewN ?_ _) | (with_reducible refine Kd.C_drew ?_)))
 (case side2 => exact (Kd.R_reads' HO196.out).2.1)
 rintro e w40 ⟨rfl, hb⟩
 have HS0_ := (hb.cell (World.block_lt_of_cell? _ _ (hHeld.1))).trans (hHeld.1)
 have HS1_ := (hb.cell (World.block_lt_of_cell? _ _ (hHeld.2.1))).trans (hHeld.2.1)
 have HS2_ := (hb.cell (World.block_lt_of_cell? _ _ (hHeld.2.2.1))).trans (hHeld.2.2.1)
 have HS3_ := (hb.cell (World.block_lt_of_cell? _ _ (hHeld.2.2.2.1))).trans (hHeld.2.2.2.1)
 have HS4_ := (hb.cell (World.block_lt_of_cell? _ _ (hHeld.2.2.2.2.1))).trans (hHeld.2.2.2.2.1)
 have HS5_ := (hb.cell (World.block_lt_of_cell? _ _ (hHeld.2.2.2.2.2.1))).trans (hHeld.2.2.2.2.2.1)
 have HS6_ := (hb.cell (World.block_lt_of_cell? _ _ (hHeld.2.2.2.2.2.2.1))).trans (hHeld.2.2.2.2.2.2.1)
 have HS7_ := (hb.cell (World.block_lt_of_cell? _ _ (hHeld.2.2.2.2.2.2.2))).trans (hHeld.2.2.2.2.2.2.2)
 refine ⟨_, rfl, ?_⟩
 have n0_ := Aside0.mk (Kd.N_below (by (with_reducible repeat (first | apply Kd.N_alloc | apply Kd.N_drewN | apply Kd.N_drew)); exact HO188.out) hb)
 have n1_ := Aside0.mk (Kd.R_below (by (with_reducible repeat (first | apply Kd.R_alloc | apply Kd.R_drewN | apply Kd.R_drew)); exact HO191.out) hb)
 have n2_ := Aside0.mk (Kd.V_below (by (with_reducible repeat (first | apply Kd.V_alloc | apply Kd.V_drewN | apply Kd.V_drew)); exact HL193_0.out) hb)
 have n3_ := Aside0.mk (Kd.R_below (by (with_reducible repeat (first | apply Kd.R_alloc | apply Kd.R_drewN | apply Kd.R_drew)); exact HO196.out) hb)
 have n4_ := Aside0.mk (Kd.V_below (by (with_reducible repeat (first | apply Kd.V_alloc | apply Kd.V_drewN | apply Kd.V_drew)); exact HL197_0.out) hb)
 have n5_ := Aside0.mk (Kd.V_below (by (with_reducible repeat (first | apply Kd.V_alloc | apply Kd.V_drewN | apply Kd.V_drew)); exact HL200_0.out) hb)
 have n6_ := Aside0.mk (Kd.C_below (by repeat (first | (with_reducible exact HR193_0.out) | (with_reducible refine Kd.C_alloc ?_ _) | (with_reducible refine Kd.C_drewN ?_ _) | (with_reducible refine Kd.C_drew ?_) | exact HR193_0.out)) hb)
 have n7_ := Aside0.mk (Kd.C_below (by repeat (first | (with_reducible exact HR197_0.out) | (with_reducible refine Kd.C_alloc ?_ _) | (with_reducible refine Kd.C_drewN ?_ _) | (with_reducible refine Kd.C_drew ?_) | exact HR197_0.out)) hb)
 have n8_ := Aside0.mk (Kd.C_below (by repeat (first | (with_reducible exact HR200_0.out) | (with_reducible refine Kd.C_alloc ?_ _) | (with_reducible refine Kd.C_drewN ?_ _) | (with_reducible refine Kd.C_drew ?_) | exact HR200_0.out)) hb)
 have n9_ := Aside0.mk (below_step (by repeat (first | (with_reducible first | exact HB.out | apply below_alloc | apply pw_below_drewN | apply below_drew1) | exact HB.out)) hb)
 clear HO188
 clear HO191
 clear HL193_0
 clear HO196
 clear HL197_0
 clear HL200_0
 clear HR193_0
 clear HR197_0
 clear HR200_0
 clear HB
 have HO188 := n0_
 have HO191 := n1_
 have HL193_0 := n2_
 have HO196 := n3_
 have HL197_0 := n4_
 have HL200_0 := n5_
 have HR193_0 := n6_
 have HR197_0 := n7_
 (try have HL200_0 := HL197_0)
 (try have HR200_0 := HR197_0)
 (try have HL202_0 := HL197_0)
 (try have HR202_0 := HR197_0)
 have HR200_0 := n8_
 have HB := n9_
 clear n0_ n1_ n2_ n3_ n4_ n5_ n6_ n7_ n8_ n9_
 (try clear hb)
 (try clear hb2)
 (try clear hk)
 (try clear hi)
 refine hK.out _ _ ⟨HS0_, HS1_, HS2_, HS3_, HS4_, HS5_, HS6_, HS7_⟩ (fun hHeld => ?_)
 clear hK K
 refine norm_ (a' := ?_) ?_ ?_
 rotate_left
 ·show Act.put _ (some 49) _ = _
  simp only [Act.put, sl0, sl1, sl2, i64_w, i32_w]
  rfl
 refine pure_ (i := 20) (N := some 50) (v := ?_) (a' := ?_) (fl_ 21 14) rfl rfl (any_of HT_.out (by kernel_rfl)) (fun _ _ _ h => h) (Or.inl ⟨by rfl, ?_⟩) ?_ ?_
 rotate_left
 ·intro w'
  go_simp
  with_reducible rfl
 rotate_left
 ·simp only [Act.put, sl0, sl1, sl2, i64_w, i32_w]
  rfl
 refine pure_ (i := 21) (N := some 51) (v := ?_) (a' := ?_) (fl_ 22 13) rfl rfl (any_of HT_.out (by kernel_rfl)) (fun _ _ _ h => h) (Or.inl ⟨by rfl, ?_⟩) ?_ ?_
 rotate_left
 ·intro w'
  go_simp
  with_reducible rfl
 rotate_left
 ·simp only [Act.put, sl0, sl1, sl2, i64_w, i32_w]
  rfl
 refine pure_ (i := 22) (N := some 52) (v := ?_) (a' := ?_) (fl_ 23 12) rfl rfl (any_of HT_.out (by kernel_rfl)) (fun _ _ _ h => h) (Or.inl ⟨by rfl, ?_⟩) ?_ ?_
 rotate_left
 ·intro w'
  go_simp
  with_reducible rfl
 rotate_left
 ·simp only [Act.put, sl0, sl1, sl2, i64_w, i32_w]
  rfl
 refine pure_ (i := 23) (N := some 53) (v := ?_) (a' := ?_) (fl_ 24 11) rfl rfl (any_of HT_.out (by kernel_rfl)) (fun _ _ _ h => h) (Or.inl ⟨by rfl, ?_⟩) ?_ ?_
 rotate_left
 ·intro w'
  go_simp
  with_reducible rfl
 rotate_left
 ·simp only [Act.put, sl0, sl1, sl2, i64_w, i32_w]
  rfl
 refine pure_ (i := 24) (N := some 54) (v := ?_) (a' := ?_) (fl_ 25 10) rfl rfl (any_of HT_.out (by kernel_rfl)) (fun _ _ _ h => h) (Or.inl ⟨by rfl, ?_⟩) ?_ ?_
 rotate_left
 ·intro w'
  go_simp
  with_reducible rfl
 rotate_left
 ·simp only [Act.put, sl0, sl1, sl2, i64_w, i32_w]
  rfl
 refine pure_ (i := 26) (N := some 56) (v := ?_) (a' := ?_) #[Y,Y,Y,Y,Y,Y,Y,Y,Y,Y,Y,Y,Y,Y,Y,Y,Y,Y,Y,Y,Y,Y,Y,Y,Y,Z,Y,Z,Z,Z,Z,Z,Z,Z,Z] rfl rfl (any_of HT_.out (by kernel_rfl)) (fun _ _ _ h => h) (Or.inl ⟨by rfl, ?_⟩) ?_ ?_
 rotate_left
 ·intro w'
  go_simp
  with_reducible rfl
 rotate_left
 ·simp only [Act.put, sl0, sl1, sl2, i64_w, i32_w]
  rfl
 refine pure_ (i := 28) (N := some 58) (v := ?_) (a' := ?_) #[Y,Y,Y,Y,Y,Y,Y,Y,Y,Y,Y,Y,Y,Y,Y,Y,Y,Y,Y,Y,Y,Y,Y,Y,Y,Z,Y,Z,Y,Z,Z,Z,Z,Z,Z] rfl rfl (any_of HT_.out (by kernel_rfl)) (fun _ _ _ h => h) (Or.inl ⟨by rfl, ?_⟩) ?_ ?_
 rotate_left
 ·intro w'
  go_simp
  with_reducible rfl
 rotate_left
 ·simp only [Act.put, sl0, sl1, sl2, i64_w, i32_w]
  rfl
 refine pure_ (i := 29) (N := some 59) (v := ?_) (a' := ?_) #[Y,Y,Y,Y,Y,Y,Y,Y,Y,Y,Y,Y,Y,Y,Y,Y,Y,Y,Y,Y,Y,Y,Y,Y,Y,Z,Y,Z,Y,Y,Z,Z,Z,Z,Z] rfl rfl (any_of HT_.out (by kernel_rfl)) (fun _ _ _ h => h) (Or.inl ⟨by rfl, ?_⟩) ?_ ?_
 rotate_left
 ·intro w'
  go_simp
  with_reducible rfl
 rotate_left
 ·simp only [Act.put, sl0, sl1, sl2, i64_w, i32_w]
  rfl
 refine pure_ (i := 30) (N := some 60) (v := ?_) (a' := ?_) #[Y,Y,Y,Y,Y,Y,Y,Y,Y,Y,Y,Y,Y,Y,Y,Y,Y,Y,Y,Y,Y,Y,Y,Y,Y,Z,Y,Z,Y,Y,Y,Z,Z,Z,Z] rfl rfl (any_of HT_.out (by kernel_rfl)) (fun _ _ _ h => h) (Or.inl ⟨by rfl, ?_⟩) ?_ ?_
 rotate_left
 ·intro w'
  go_simp
  with_reducible rfl
 rotate_left
 ·simp only [Act.put, sl0, sl1, sl2, i64_w, i32_w]
  rfl
 refine take_ (i := 25) (N := some 55) (v := ?_) (a' := ?_) #[Y,Y,Y,Y,Y,Y,Y,Y,Y,Y,Y,Y,Y,Y,Y,Y,Y,Y,Y,Y,Y,Y,Y,Y,Y,Y,Y,Z,Y,Y,Y,Z,Z,Z,Z] rfl rfl (take_ofW HT_.out HW_.out (by kernel_rfl)) (fun _ _ _ h => h) (Or.inl ⟨by rfl, ?_⟩) hHeld ?_ ?_
 rotate_left
 ·rintro w' ⟨s0, s1, s2, s3, s4, s5, s6, s7⟩
  go_simp
  with_reducible rfl
 rotate_left
 ·simp only [Act.put, sl0, sl1, sl2, i64_w, i32_w]
  rfl
 refine take_ (i := 31) (N := some 61) (v := ?_) (a' := ?_) #[Y,Y,Y,Y,Y,Y,Y,Y,Y,Y,Y,Y,Y,Y,Y,Y,Y,Y,Y,Y,Y,Y,Y,Y,Y,Y,Y,Z,Y,Y,Y,Y,Z,Z,Z] rfl rfl (take_ofW HT_.out HW_.out (by kernel_rfl)) (fun _ _ _ h => h) (Or.inl ⟨by rfl, ?_⟩) hHeld ?_ ?_
 rotate_left
 ·rintro w' ⟨s0, s1, s2, s3, s4, s5, s6, s7⟩
  go_simp
  with_reducible rfl
 rotate_left
 ·simp only [Act.put, sl0, sl1, sl2, i64_w, i32_w]
  rfl
 refine one_ (i := 27) (N := some 57) (fl_ 32 3) rfl rfl (one_of HT_.out (by kernel_rfl)) (by decide) (fun K hK => ?_)
 refine goes_ Try.func43 (by kernel_rfl) rfl #[.agg #[.slice A197_0 ((rd_T33 y186 t192).f0).length c197_0, .int .i64 ((rd_T33 y186 t192).f1)], .int .i64 100, .slice Ao38 t194.length co38] (by rfl) rfl rfl (by (try simp only [List.map_toArray, List.map_cons, List.map_nil]); first | done | rfl | (simp only [List.length_drop, List.length_take]; rfl)) ?_
 with_reducible refine (hypercuberef10_Cost.calls k _ _ ((rd_T33 y186 t192).f0) ((rd_T33 y186 t192).f1) 100 _ _ t194 t203 _ ?side1 ?side2 ?side3 ?side4 A13.out).mono ?_
 (case side1 => repeat (first | exact (by repeat (first | (with_reducible exact HR202_0.out) | (with_reducible refine Kd.C_alloc ?_ _) | (with_reducible refine Kd.C_drewN ?_ _) | (with_reducible refine Kd.C_drew ?_) | exact HR202_0.out)) | (with_reducible refine Kd.C_alloc ?_ _) | (with_reducible refine Kd.C_drewN ?_ _) | (with_reducible refine Kd.C_drew ?_)))
 (case side2 => exact HC202_0.out)
 (case side3 => repeat (first | exact (Kd.R_reads' HO196.out).2.2 | (with_reducible refine Kd.C_alloc ?_ _) | (with_reducible refine Kd.C_drewN ?_ _) | (with_reducible refine Kd.C_drew ?_)))
 (case side4 => exact (Kd.R_reads' HO196.out).2.1)
 rintro e w41 ⟨rfl, hb⟩
 have HS0_ := (hb.cell (World.block_lt_of_cell? _ _ (hHeld.1))).trans (hHeld.1)
 have HS1_ := (hb.cell (World.block_lt_of_cell? _ _ (hHeld.2.1))).trans (hHeld.2.1)
 have HS2_ := (hb.cell (World.block_lt_of_cell? _ _ (hHeld.2.2.1))).trans (hHeld.2.2.1)
 have HS3_ := (hb.cell (World.block_lt_of_cell? _ _ (hHeld.2.2.2.1))).trans (hHeld.2.2.2.1)
 have HS4_ := (hb.cell (World.block_lt_of_cell? _ _ (hHeld.2.2.2.2.1))).trans (hHeld.2.2.2.2.1)
 have HS5_ := (hb.cell (World.block_lt_of_cell? _ _ (hHeld.2.2.2.2.2.1))).trans (hHeld.2.2.2.2.2.1)
 have HS6_ := (hb.cell (World.block_lt_of_cell? _ _ (hHeld.2.2.2.2.2.2.1))).trans (hHeld.2.2.2.2.2.2.1)
 have HS7_ := (hb.cell (World.block_lt_of_cell? _ _ (hHeld.2.2.2.2.2.2.2))).trans (hHeld.2.2.2.2.2.2.2)
 refine ⟨_, rfl, ?_⟩
 have n0_ := Aside0.mk (Kd.N_below (by (with_reducible repeat (first | apply Kd.N_alloc | apply Kd.N_drewN | apply Kd.N_drew)); exact HO188.out) hb)
 have n1_ := Aside0.mk (Kd.R_below (by (with_reducible repeat (first | apply Kd.R_alloc | apply Kd.R_drewN | apply Kd.R_drew)); exact HO191.out) hb)
 have n2_ := Aside0.mk (Kd.V_below (by (with_reducible repeat (first | apply Kd.V_alloc | apply Kd.V_drewN | apply Kd.V_drew)); exact HL193_0.out) hb)
 have n3_ := Aside0.mk (Kd.R_below (by (with_reducible repeat (first | apply Kd.R_alloc | apply Kd.R_drewN | apply Kd.R_drew)); exact HO196.out) hb)
 have n4_ := Aside0.mk (Kd.V_below (by (with_reducible repeat (first | apply Kd.V_alloc | apply Kd.V_drewN | apply Kd.V_drew)); exact HL197_0.out) hb)
 have n5_ := Aside0.mk (Kd.V_below (by (with_reducible repeat (first | apply Kd.V_alloc | apply Kd.V_drewN | apply Kd.V_drew)); exact HL200_0.out) hb)
 have n6_ := Aside0.mk (Kd.V_below (by (with_reducible repeat (first | apply Kd.V_alloc | apply Kd.V_drewN | apply Kd.V_drew)); exact HL202_0.out) hb)
 have n7_ := Aside0.mk (Kd.C_below (by repeat (first | (with_reducible exact HR193_0.out) | (with_reducible refine Kd.C_alloc ?_ _) | (with_reducible refine Kd.C_drewN ?_ _) | (with_reducible refine Kd.C_drew ?_) | exact HR193_0.out)) hb)
 have n8_ := Aside0.mk (Kd.C_below (by repeat (first | (with_reducible exact HR197_0.out) | (with_reducible refine Kd.C_alloc ?_ _) | (with_reducible refine Kd.C_drewN ?_ _) | (with_reducible refine Kd.C_drew ?_) | exact HR197_0.out)) hb)
 have n9_ := Aside0.mk (Kd.C_below (by repeat (first | (with_reducible exact HR200_0.out) | (with_reducible refine Kd.C_alloc ?_ _) | (with_reducible refine Kd.C_drewN ?_ _) | (with_reducible refine Kd.C_drew ?_) | exact HR200_0.out)) hb)
 have n10_ := Aside0.mk (Kd.C_below (by repeat (first | (with_reducible exact HR202_0.out) | (with_reducible refine Kd.C_alloc ?_ _) | (with_reducible refine Kd.C_drewN ?_ _) | (with_reducible refine Kd.C_drew ?_) | exact HR202_0.out)) hb)
 have n11_ := Aside0.mk (below_step (by repeat (first | (with_reducible first | exact HB.out | apply below_alloc | apply pw_below_drewN | apply below_drew1) | exact HB.out)) hb)
 clear HO188
 clear HO191
 clear HL193_0
 clear HO196
 clear HL197_0
 clear HL200_0
 clear HL202_0
 clear HR193_0
 clear HR197_0
 clear HR200_0
 clear HR202_0
 clear HB
 have HO188 := n0_
 have HO191 := n1_
 have HL193_0 := n2_
 have HO196 := n3_
 have HL197_0 := n4_
 have HL200_0 := n5_
 have HL202_0 := n6_
 have HR193_0 := n7_
 have HR197_0 := n8_
 (try have HL200_0 := HL197_0)
 (try have HR200_0 := HR197_0)
 (try have HL202_0 := HL197_0)
 (try have HR202_0 := HR197_0)
 have HR200_0 := n9_
 have HR202_0 := n10_
 have HB := n11_
 clear n0_ n1_ n2_ n3_ n4_ n5_ n6_ n7_ n8_ n9_ n10_ n11_
 (try clear hb)
 (try clear hb2)
 (try clear hk)
 (try clear hi)
 refine hK.out _ _ ⟨HS0_, HS1_, HS2_, HS3_, HS4_, HS5_, HS6_, HS7_⟩ (fun hHeld => ?_)
 clear hK K
 refine norm_ (a' := ?_) ?_ ?_
 rotate_left
 ·show Act.put _ (some 57) _ = _
  simp only [Act.put, sl0, sl1, sl2, i64_w, i32_w]
  rfl
 refine pure_ (i := 32) (N := some 62) (v := ?_) (a' := ?_) (fl_ 33 2) rfl rfl (any_of HT_.out (by kernel_rfl)) (fun _ _ _ h => h) (Or.inl ⟨by rfl, ?_⟩) ?_ ?_
 rotate_left
 ·intro w'
  go_simp
  with_reducible rfl
 rotate_left
 ·simp only [Act.put, sl0, sl1, sl2, i64_w, i32_w]
  rfl
 refine pure_ (i := 33) (N := some 63) (v := ?_) (a' := ?_) (fl_ 34 1) rfl rfl (any_of HT_.out (by kernel_rfl)) (fun _ _ _ h => h) (Or.inl ⟨by rfl, ?_⟩) ?_ ?_
 rotate_left
 ·intro w'
  go_simp
  with_reducible rfl
 rotate_left
 ·simp only [Act.put, sl0, sl1, sl2, i64_w, i32_w]
  rfl
 refine pure_ (i := 34) (N := some 2) (v := ?_) (a' := ?_) (fl_ 35 0) rfl rfl (any_of HT_.out (by kernel_rfl)) (fun _ _ _ h => h) (Or.inl ⟨by rfl, ?_⟩) ?_ ?_
 rotate_left
 ·intro w'
  go_simp
  with_reducible rfl
 rotate_left
 ·simp only [Act.put, sl0, sl1, sl2, i64_w, i32_w]
  rfl
 refine done_ (done_of HT_.out (by kernel_rfl)) ?_
 try go_wp2
 go_ret
 exact ⟨by first | rfl | (simp [errW_none, errW_some] <;> rfl) | (simp [*, errW_none, errW_some] <;> rfl), by repeat (first | (with_reducible first | exact HB.out | apply below_alloc | apply pw_below_drewN | apply below_drew1) | exact HB.out)⟩

/-- THE ONE PURE STATEMENT of hypercubelaw10_SortsKnown: yours. -/
def hypercubelaw10_SortsKnown.Pure : Prop := ∀ (a0 : Int), (Lit.int .i64 a0).wf = true → ∃ k, hypercubelaw10_SortsKnown.f k a0 = some true
theorem hypercubelaw10_SortsKnown.walk (P : hypercubelaw10_SortsKnown.Pure) (a0 : Int) (w : World) (w0 : (Lit.int .i64 a0).wf = true) :
 Calls Try.prog 23 #[.int .i64 a0] w fun e w' => e = .returned (.bool true) ∧ Below w.heap.size w w' := by
 obtain ⟨k, h⟩ := P a0 w0
 refine (hypercubelaw10_SortsKnown.calls k a0 true w h).mono ?_
 rintro e w' ⟨rfl, hd⟩
 exact ⟨rfl, hd⟩

end Go.Proofs.Ytlplaidcdocbmaa.PSortsKnown
