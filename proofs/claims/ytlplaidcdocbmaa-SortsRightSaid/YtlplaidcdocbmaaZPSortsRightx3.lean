-- Cut by pack.py, a program of this session; not trusted: Lean checks it.
import Derived.Test.YtlplaidcdocbmaaZS10
import Derived.Test.YtlplaidcdocbmaaZPSortsRightx0
namespace Go.Proofs.Ytlplaidcdocbmaa.PSortsRight
open Go.RowKit Go.Proofs.YtlplaidcdocbmaaW.PrintWords Go.Proofs.YtlplaidcdocbmaaW.PrintLast Go.Proofs.YtlplaidcdocbmaaW.PrintMore
private theorem od_ {p : Prop} [Decidable p] (h : decide p = true := by first | (with_reducible assumption) | assumption) : p := of_decide_eq_true h
attribute [local go_sem] max2_int min2_int max_two min_two max_three min_three max_four min_four   -- for this text's walks alone
set_option linter.unusedVariables false
set_option linter.unusedSimpArgs false

-- NOT PRINTED: function 87 (slices_AppendSeq_int_int)

-- NOT PRINTED: function 60 (slices_Collect_int)

-- NOT PRINTED: function 61 (lattice_below)

/-! ### lattice_count: function 62 -/


-- NOT PRINTED: function 104 (slices_insertionSortCmpFunc_int)

-- NOT PRINTED: function 114 (slices_swapRangeCmpFunc_int)

-- NOT PRINTED: function 109 (slices_rotateCmpFunc_int)

-- NOT PRINTED: function 105 (slices_symMergeCmpFunc_int)

-- NOT PRINTED: function 89 (slices_stableCmpFunc_int)

-- NOT PRINTED: function 63 (slices_SortStableFunc_int_int)

-- NOT PRINTED: function 66 (slices_Clone_int_int)

/-! ### lattice_Sets: function 29 -/
-- NOT PRINTED: function 67 (lattice_kept_int)

/-! ### lattice_Parents: function 30 -/
/-! ### slices_Index_int_int: function 100 -/


/-! ### slices_Contains_int_int: function 80 -/


/-! ### sorts_Right: function 54 -/
def sorts_Right.f (l0 : List (S49)) (a1 : Int) : Option (Bool) := if (0 ≤ a1 ∧ a1 ≤ 4) ∧ Srt.okW (Srt.toEds S49.f0 S49.f1 S49.f2 l0) = true then some (Srt.rightS a1.toNat (Srt.toEds S49.f0 S49.f1 S49.f2 l0)) else none
theorem sorts_Right.calls (A0 : Option Addr) (c0 : Nat) (l0 : List (S49)) (a1 : Int) (r : Bool) (w : World) (hr0 : Kd.C k49 w A0 l0.length l0) (hc0 : l0.length ≤ c0) (h : sorts_Right.f l0 a1 = some r) :
 Calls Try.prog 54 #[.slice A0 l0.length c0, .int .i64 a1] w fun e w' => e = .returned (.bool r) ∧ Below w.heap.size w w' := by
 unfold sorts_Right.f at h
 by_cases hh : (0 ≤ a1 ∧ a1 ≤ 4) ∧ Srt.okW (Srt.toEds S49.f0 S49.f1 S49.f2 l0) = true
 rotate_left
 ·rw [if_neg hh] at h; cases h
 rw [if_pos hh] at h
 obtain rfl := Option.some.inj h
 exact Srt.right_K k49 rfl z49 S49.f0 S49.f1 S49.f2 (fun w x cs h => k49_open h) A0 c0 l0 a1 w hr0 hh.1 hh.2

-- NOT PRINTED: function 75 (api_Edge)

/-! ### lattice_Size: function 34 -/
/-! ### lattice_Scan: function 47 -/
/-! ### sorts_planner_scan: function 83 -/


/-! ### bits_OnesCount32: function 92 -/


/-! ### bits_OnesCount64: function 93 -/


/-! ### bits_OnesCount: function 69 -/


/-! ### lattice_Level: function 31 -/
/-! ### sorts_planner_level: function 101 -/


-- NOT PRINTED: function 102 (sorts_costs_int_least)

-- NOT PRINTED: function 110 (match_each_int)

-- NOT PRINTED: function 108 (match_right)

-- NOT PRINTED: function 103 (match_Assign)

-- NOT PRINTED: function 81 (sorts_planner_edges)

/-! ### sorts_Plan: function 55 -/
def sorts_Plan.f (l0_0 : List Int) (a0_1 : Int) (a1 : Int) : Option ((List (S49))) := if Srt.okP l0_0 a1 = true then some (Srt.planE S49.mk l0_0 a1) else none
theorem sorts_Plan.calls (A0_0 : Option Addr) (c0_0 : Nat) (l0_0 : List Int) (a0_1 : Int) (a1 : Int) (r : List (S49)) (w : World) (hr0_0 : Kd.C (Kd.int .i64) w A0_0 l0_0.length l0_0) (hc0_0 : l0_0.length ≤ c0_0) (h : sorts_Plan.f l0_0 a0_1 a1 = some r) :
 Calls Try.prog 55 #[.agg #[.slice A0_0 l0_0.length c0_0, .int .i64 a0_1], .int .i64 a1] w fun e w' => ∃ v0_ : Value, e = .returned (v0_) ∧ Kd.R k49 49 w' w.heap.size (fun _ => True) v0_ r ∧ Below w.heap.size w w' := by
 unfold sorts_Plan.f at h
 by_cases hh : Srt.okP l0_0 a1 = true
 rotate_left
 ·rw [if_neg hh] at h; cases h
 rw [if_pos hh] at h
 obtain rfl := Option.some.inj h
 exact Srt.plan_K k49 rfl S49.mk (fun w base ok a b c => k49_mkM w base ok ⟨a, b, c⟩) A0_0 c0_0 l0_0 a0_1 a1 w hr0_0 hh

/-! ### hypercubelaw10_known: function 51 -/
def hypercubelaw10_known.f  : Option (Bool) := (sorts_Plan.f (([3] : List Int)) 0 5).bind fun t173 => (if (t173.length : Int) = 2 then (if 0 < (t173.length : Int) then (if ((rd_T49 t173 0).f0) = 1 then (if ((rd_T49 t173 0).f1) = (-1) then (if 1 < (t173.length : Int) then (if ((rd_T49 t173 1).f1) = 1 then (if (rd_T49 t173 1).f2 = true then ((sorts_Right.f t173 1).bind fun t180 => (some t180)) else (some false)) else (some false)) else (none)) else (some false)) else (some false)) else (none)) else (some false))
set_option maxHeartbeats 8000000 in
set_option maxRecDepth 100000 in
theorem hypercubelaw10_known.calls  (r : Bool) (w : World) (h : hypercubelaw10_known.f  = some r) :
 Calls Try.prog 51 #[] w fun e w' => e = .returned (.bool r) ∧ Below w.heap.size w w' := by
 have hu33 := Try.underlying33
 have HB := Aside0.mk (Below.refl w.heap.size w)
 have H : ((sorts_Plan.f (([3] : List Int)) 0 5).bind fun t173 => (if (t173.length : Int) = 2 then (if 0 < (t173.length : Int) then (if ((rd_T49 t173 0).f0) = 1 then (if ((rd_T49 t173 0).f1) = (-1) then (if 1 < (t173.length : Int) then (if ((rd_T49 t173 1).f1) = 1 then (if (rd_T49 t173 1).f2 = true then ((sorts_Right.f t173 1).bind fun t180 => (some t180)) else (some false)) else (some false)) else (none)) else (some false)) else (some false)) else (none)) else (some false))) = some r := h
 clear h
 obtain ⟨y170, hy170⟩ : ∃ y_ : List Int, y_ = (([3] : List Int)) := ⟨_, rfl⟩
 replace H : ((sorts_Plan.f y170 0 5).bind fun t173 => (if (t173.length : Int) = 2 then (if 0 < (t173.length : Int) then (if ((rd_T49 t173 0).f0) = 1 then (if ((rd_T49 t173 0).f1) = (-1) then (if 1 < (t173.length : Int) then (if ((rd_T49 t173 1).f1) = 1 then (if (rd_T49 t173 1).f2 = true then ((sorts_Right.f t173 1).bind fun t180 => (some t180)) else (some false)) else (some false)) else (none)) else (some false)) else (some false)) else (none)) else (some false))) = some r := by first | (rw [hy170]; with_reducible exact H) | (have H2_ := (Option.bind_some _ _).symm.trans H; rw [hy170]; with_reducible exact H2_) | (have H2_ := (Option.bind_some _ _).symm.trans H; with_reducible exact H2_) | with_reducible exact H | (rw [hy170]; exact H) | exact H
 have Ny170 := Aside0.mk hy170
 clear hy170
 replace H := Option.bind_eq_some_iff.mp H
 obtain ⟨t173, A10, H⟩ := H
 replace H : (if (t173.length : Int) = 2 then (if 0 < (t173.length : Int) then (if ((rd_T49 t173 0).f0) = 1 then (if ((rd_T49 t173 0).f1) = (-1) then (if 1 < (t173.length : Int) then (if ((rd_T49 t173 1).f1) = 1 then (if (rd_T49 t173 1).f2 = true then ((sorts_Right.f t173 1).bind fun t180 => (some t180)) else (some false)) else (some false)) else (none)) else (some false)) else (some false)) else (none)) else (some false)) = some r := H
 have A1 := Aside0.mk A10
 clear A10
 by_cases c2 : (t173.length : Int) = 2
 rotate_left
 ·rw [if_neg c2] at H
  have c2b0 : ((t173.length : Int) == 2) = false := beq_eq_false_iff_ne.mpr c2
  have c2b1 : ((t173.length : Int) != 2) = true := bne_iff_ne.mpr c2
  obtain rfl := Option.some.inj H
  go_enter Try.func51, Try.ntmps51
  go_wp2_with (first | ((with_reducible refine gate_dst (N := 2) rfl ?_); refine Kd.R_lit (Kd.int .i64) _ 3 ?hg (N := 2) ?hd (xs := ([3] : List Int)) (inner := [.int .i64 3]) (ok := fun _ => True) (okp := fun _ => True) ?hr ?hp (fun _ hk => hk) trivial (Below.refl _ _) (Nat.le_refl _) (by simp) ?_; (case hd => rfl); (case hg => rfl); (case hr => first | (go_simp; done) | (go_simp; rfl)); (case hp => exact (Reps.one (show Kd.M (Kd.int .i64) _ _ _ 3 [.int .i64 3] from rfl) (Reps.none _ _))); intro v171 w37 ho38 hb hg_ hnew_; clear hg_ hnew_; (first | rw [← Ny170.out] at ho38 | (simp only [Int.reduceToNat] at ho38; rw [← Ny170.out] at ho38)); have n0_ := Aside0.mk (Kd.R_lower ho38 (below_size (by repeat (first | (with_reducible first | exact HB.out | apply below_alloc | apply pw_below_drewN | apply below_drew1) | exact HB.out)))); have n1_ := Aside0.mk (below_step (by repeat (first | (with_reducible first | exact HB.out | apply below_alloc | apply pw_below_drewN | apply below_drew1) | exact HB.out)) hb); clear HB; have HO172 := n0_; have HB := n1_; clear n0_ n1_; clear hb ho38; obtain ⟨Ao39, co39, eo39⟩ := Kd.R_slice HO172.out; subst eo39) | ((with_reducible refine gate_callee (f := 55) rfl ?_); refine goesL_ (some 4) rfl rfl Try.func55 (by kernel_rfl) rfl #[.agg #[.slice Ao39 y170.length co39, .int .i64 0], .int .i64 5] rfl (by (try simp only [List.map_toArray, List.map_cons, List.map_nil]); first | done | rfl | (simp only [List.length_drop, List.length_take]; rfl)) ?_; (with_reducible refine (sorts_Plan.calls _ _ y170 0 5 t173 _ ?side1 ?side2 A1.out).mono ?_); (case side1 => repeat (first | exact (Kd.R_reads' HO172.out).2.2 | (with_reducible refine Kd.C_alloc ?_ _) | (with_reducible refine Kd.C_drewN ?_ _) | (with_reducible refine Kd.C_drew ?_))); (case side2 => exact (Kd.R_reads' HO172.out).2.1); rintro e w40 ⟨v174, rfl, ho0, hb⟩; refine ⟨_, rfl, ?_⟩; have n0_ := Aside0.mk (Kd.R_below (by (with_reducible repeat (first | apply Kd.R_alloc | apply Kd.R_drewN | apply Kd.R_drew)); exact HO172.out) hb); have n1_ := Aside0.mk (Kd.R_lower ho0 (below_size (by repeat (first | (with_reducible first | exact HB.out | apply below_alloc | apply pw_below_drewN | apply below_drew1) | exact HB.out)))); have n2_ := Aside0.mk (below_step (by repeat (first | (with_reducible first | exact HB.out | apply below_alloc | apply pw_below_drewN | apply below_drew1) | exact HB.out)) hb); clear HO172; clear HB; have HO172 := n0_; have HO175 := n1_; have HB := n2_; clear n0_ n1_ n2_; (try clear hb); (try clear hb2); (try clear hk); (try clear hi); (try clear ho0); obtain ⟨Ao41, co41, eo41⟩ := Kd.R_slice HO175.out; subst eo41))
  go_ret
  exact ⟨by first | rfl | (simp [errW_none, errW_some] <;> rfl) | (simp [*, errW_none, errW_some] <;> rfl), by repeat (first | (with_reducible first | exact HB.out | apply below_alloc | apply pw_below_drewN | apply below_drew1) | exact HB.out)⟩
 rw [if_pos c2] at H
 have c2b0 : ((t173.length : Int) == 2) = true := beq_iff_eq.mpr c2
 have c2b1 : ((t173.length : Int) != 2) = false := bne_eq_false_iff_eq.mpr c2
 clear c2
 by_cases c3 : 0 < (t173.length : Int)
 rotate_left
 ·rw [if_neg c3] at H
  exact absurd H (by simp)
 rw [if_pos c3] at H
 have c3b0 : decide (0 < (t173.length : Int)) = true := decide_eq_true c3
 have c3b1 : decide (0 < t173.length) = true := decide_eq_true (by omega)
 clear c3
 by_cases c4 : ((rd_T49 t173 0).f0) = 1
 rotate_left
 ·rw [if_neg c4] at H
  have c4b0 : (((rd_T49 t173 0).f0) == 1) = false := beq_eq_false_iff_ne.mpr c4
  have c4b1 : (((rd_T49 t173 0).f0) != 1) = true := bne_iff_ne.mpr c4
  obtain rfl := Option.some.inj H
  go_enter Try.func51, Try.ntmps51
  go_wp2_with (first | ((with_reducible refine gate_dst (N := 2) rfl ?_); refine Kd.R_lit (Kd.int .i64) _ 3 ?hg (N := 2) ?hd (xs := ([3] : List Int)) (inner := [.int .i64 3]) (ok := fun _ => True) (okp := fun _ => True) ?hr ?hp (fun _ hk => hk) trivial (Below.refl _ _) (Nat.le_refl _) (by simp) ?_; (case hd => rfl); (case hg => rfl); (case hr => first | (go_simp; done) | (go_simp; rfl)); (case hp => exact (Reps.one (show Kd.M (Kd.int .i64) _ _ _ 3 [.int .i64 3] from rfl) (Reps.none _ _))); intro v171 w32 ho33 hb hg_ hnew_; clear hg_ hnew_; (first | rw [← Ny170.out] at ho33 | (simp only [Int.reduceToNat] at ho33; rw [← Ny170.out] at ho33)); have n0_ := Aside0.mk (Kd.R_lower ho33 (below_size (by repeat (first | (with_reducible first | exact HB.out | apply below_alloc | apply pw_below_drewN | apply below_drew1) | exact HB.out)))); have n1_ := Aside0.mk (below_step (by repeat (first | (with_reducible first | exact HB.out | apply below_alloc | apply pw_below_drewN | apply below_drew1) | exact HB.out)) hb); clear HB; have HO172 := n0_; have HB := n1_; clear n0_ n1_; clear hb ho33; obtain ⟨Ao34, co34, eo34⟩ := Kd.R_slice HO172.out; subst eo34) | ((with_reducible refine gate_callee (f := 55) rfl ?_); refine goesL_ (some 4) rfl rfl Try.func55 (by kernel_rfl) rfl #[.agg #[.slice Ao34 y170.length co34, .int .i64 0], .int .i64 5] rfl (by (try simp only [List.map_toArray, List.map_cons, List.map_nil]); first | done | rfl | (simp only [List.length_drop, List.length_take]; rfl)) ?_; (with_reducible refine (sorts_Plan.calls _ _ y170 0 5 t173 _ ?side1 ?side2 A1.out).mono ?_); (case side1 => repeat (first | exact (Kd.R_reads' HO172.out).2.2 | (with_reducible refine Kd.C_alloc ?_ _) | (with_reducible refine Kd.C_drewN ?_ _) | (with_reducible refine Kd.C_drew ?_))); (case side2 => exact (Kd.R_reads' HO172.out).2.1); rintro e w35 ⟨v174, rfl, ho0, hb⟩; refine ⟨_, rfl, ?_⟩; have n0_ := Aside0.mk (Kd.R_below (by (with_reducible repeat (first | apply Kd.R_alloc | apply Kd.R_drewN | apply Kd.R_drew)); exact HO172.out) hb); have n1_ := Aside0.mk (Kd.R_lower ho0 (below_size (by repeat (first | (with_reducible first | exact HB.out | apply below_alloc | apply pw_below_drewN | apply below_drew1) | exact HB.out)))); have n2_ := Aside0.mk (below_step (by repeat (first | (with_reducible first | exact HB.out | apply below_alloc | apply pw_below_drewN | apply below_drew1) | exact HB.out)) hb); clear HO172; clear HB; have HO172 := n0_; have HO175 := n1_; have HB := n2_; clear n0_ n1_ n2_; (try clear hb); (try clear hb2); (try clear hk); (try clear hi); (try clear ho0); obtain ⟨Ao36, co36, eo36⟩ := Kd.R_slice HO175.out; subst eo36; have p176 : 0 ≤ (0 : Int) := (by omega); have q176 : 0 < (t173.length : Int) := of_decide_eq_true (by first | (with_reducible assumption) | assumption); obtain ⟨ad176, e176, hx176_0, hx176_1, hx176_2⟩ := at_T49 (Kd.R_reads' HO175.out).2.2 0 p176 q176; cases e176; have qi176 : (0 < t173.length) = True := eq_true (by omega); (try rw [show ((0 : Int)).toNat = 0 from rfl] at hx176_0); (try rw [show 0 * 3 = 0 from rfl] at hx176_0); (try rw [Addr.add_zero'] at hx176_0); (try rw [show ((0 : Int)).toNat = 0 from rfl] at hx176_1); (try rw [show 0 * 3 = 0 from rfl] at hx176_1); (try rw [Addr.add_zero'] at hx176_1); (try rw [show ((0 : Int)).toNat = 0 from rfl] at hx176_2); (try rw [show 0 * 3 = 0 from rfl] at hx176_2); (try rw [Addr.add_zero'] at hx176_2); replace p176 := eq_true p176; replace q176 := eq_true q176))
  go_ret
  exact ⟨by first | rfl | (simp [errW_none, errW_some] <;> rfl) | (simp [*, errW_none, errW_some] <;> rfl), by repeat (first | (with_reducible first | exact HB.out | apply below_alloc | apply pw_below_drewN | apply below_drew1) | exact HB.out)⟩
 rw [if_pos c4] at H
 have c4b0 : (((rd_T49 t173 0).f0) == 1) = true := beq_iff_eq.mpr c4
 have c4b1 : (((rd_T49 t173 0).f0) != 1) = false := bne_eq_false_iff_eq.mpr c4
 clear c4
 by_cases c5 : ((rd_T49 t173 0).f1) = (-1)
 rotate_left
 ·rw [if_neg c5] at H
  have c5b0 : (((rd_T49 t173 0).f1) == (-1)) = false := beq_eq_false_iff_ne.mpr c5
  have c5b1 : (((rd_T49 t173 0).f1) != (-1)) = true := bne_iff_ne.mpr c5
  obtain rfl := Option.some.inj H
  go_enter Try.func51, Try.ntmps51
  go_wp2_with (first | ((with_reducible refine gate_dst (N := 2) rfl ?_); refine Kd.R_lit (Kd.int .i64) _ 3 ?hg (N := 2) ?hd (xs := ([3] : List Int)) (inner := [.int .i64 3]) (ok := fun _ => True) (okp := fun _ => True) ?hr ?hp (fun _ hk => hk) trivial (Below.refl _ _) (Nat.le_refl _) (by simp) ?_; (case hd => rfl); (case hg => rfl); (case hr => first | (go_simp; done) | (go_simp; rfl)); (case hp => exact (Reps.one (show Kd.M (Kd.int .i64) _ _ _ 3 [.int .i64 3] from rfl) (Reps.none _ _))); intro v171 w27 ho28 hb hg_ hnew_; clear hg_ hnew_; (first | rw [← Ny170.out] at ho28 | (simp only [Int.reduceToNat] at ho28; rw [← Ny170.out] at ho28)); have n0_ := Aside0.mk (Kd.R_lower ho28 (below_size (by repeat (first | (with_reducible first | exact HB.out | apply below_alloc | apply pw_below_drewN | apply below_drew1) | exact HB.out)))); have n1_ := Aside0.mk (below_step (by repeat (first | (with_reducible first | exact HB.out | apply below_alloc | apply pw_below_drewN | apply below_drew1) | exact HB.out)) hb); clear HB; have HO172 := n0_; have HB := n1_; clear n0_ n1_; clear hb ho28; obtain ⟨Ao29, co29, eo29⟩ := Kd.R_slice HO172.out; subst eo29) | ((with_reducible refine gate_callee (f := 55) rfl ?_); refine goesL_ (some 4) rfl rfl Try.func55 (by kernel_rfl) rfl #[.agg #[.slice Ao29 y170.length co29, .int .i64 0], .int .i64 5] rfl (by (try simp only [List.map_toArray, List.map_cons, List.map_nil]); first | done | rfl | (simp only [List.length_drop, List.length_take]; rfl)) ?_; (with_reducible refine (sorts_Plan.calls _ _ y170 0 5 t173 _ ?side1 ?side2 A1.out).mono ?_); (case side1 => repeat (first | exact (Kd.R_reads' HO172.out).2.2 | (with_reducible refine Kd.C_alloc ?_ _) | (with_reducible refine Kd.C_drewN ?_ _) | (with_reducible refine Kd.C_drew ?_))); (case side2 => exact (Kd.R_reads' HO172.out).2.1); rintro e w30 ⟨v174, rfl, ho0, hb⟩; refine ⟨_, rfl, ?_⟩; have n0_ := Aside0.mk (Kd.R_below (by (with_reducible repeat (first | apply Kd.R_alloc | apply Kd.R_drewN | apply Kd.R_drew)); exact HO172.out) hb); have n1_ := Aside0.mk (Kd.R_lower ho0 (below_size (by repeat (first | (with_reducible first | exact HB.out | apply below_alloc | apply pw_below_drewN | apply below_drew1) | exact HB.out)))); have n2_ := Aside0.mk (below_step (by repeat (first | (with_reducible first | exact HB.out | apply below_alloc | apply pw_below_drewN | apply below_drew1) | exact HB.out)) hb); clear HO172; clear HB; have HO172 := n0_; have HO175 := n1_; have HB := n2_; clear n0_ n1_ n2_; (try clear hb); (try clear hb2); (try clear hk); (try clear hi); (try clear ho0); obtain ⟨Ao31, co31, eo31⟩ := Kd.R_slice HO175.out; subst eo31; have p176 : 0 ≤ (0 : Int) := (by omega); have q176 : 0 < (t173.length : Int) := of_decide_eq_true (by first | (with_reducible assumption) | assumption); obtain ⟨ad176, e176, hx176_0, hx176_1, hx176_2⟩ := at_T49 (Kd.R_reads' HO175.out).2.2 0 p176 q176; cases e176; have qi176 : (0 < t173.length) = True := eq_true (by omega); (try rw [show ((0 : Int)).toNat = 0 from rfl] at hx176_0); (try rw [show 0 * 3 = 0 from rfl] at hx176_0); (try rw [Addr.add_zero'] at hx176_0); (try rw [show ((0 : Int)).toNat = 0 from rfl] at hx176_1); (try rw [show 0 * 3 = 0 from rfl] at hx176_1); (try rw [Addr.add_zero'] at hx176_1); (try rw [show ((0 : Int)).toNat = 0 from rfl] at hx176_2); (try rw [show 0 * 3 = 0 from rfl] at hx176_2); (try rw [Addr.add_zero'] at hx176_2); replace p176 := eq_true p176; replace q176 := eq_true q176; have p177 : 0 ≤ (0 : Int) := (by omega); have q177 : 0 < (t173.length : Int) := of_decide_eq_true (by first | (with_reducible assumption) | assumption); obtain ⟨ad177, e177, hx177_0, hx177_1, hx177_2⟩ := at_T49 (Kd.R_reads' HO175.out).2.2 0 p177 q177; obtain rfl : ad176 = ad177 := (by injection e177); have qi177 : (0 < t173.length) = True := eq_true (by omega); (try rw [show ((0 : Int)).toNat = 0 from rfl] at hx177_0); (try rw [show 0 * 3 = 0 from rfl] at hx177_0); (try rw [Addr.add_zero'] at hx177_0); (try rw [show ((0 : Int)).toNat = 0 from rfl] at hx177_1); (try rw [show 0 * 3 = 0 from rfl] at hx177_1); (try rw [Addr.add_zero'] at hx177_1); (try rw [show ((0 : Int)).toNat = 0 from rfl] at hx177_2); (try rw [show 0 * 3 = 0 from rfl] at hx177_2); (try rw [Addr.add_zero'] at hx177_2); replace p177 := eq_true p177; replace q177 := eq_true q177))
  go_ret
  exact ⟨by first | rfl | (simp [errW_none, errW_some] <;> rfl) | (simp [*, errW_none, errW_some] <;> rfl), by repeat (first | (with_reducible first | exact HB.out | apply below_alloc | apply pw_below_drewN | apply below_drew1) | exact HB.out)⟩
 rw [if_pos c5] at H
 have c5b0 : (((rd_T49 t173 0).f1) == (-1)) = true := beq_iff_eq.mpr c5
 have c5b1 : (((rd_T49 t173 0).f1) != (-1)) = false := bne_eq_false_iff_eq.mpr c5
 clear c5
 by_cases c6 : 1 < (t173.length : Int)
 rotate_left
 ·rw [if_neg c6] at H
  exact absurd H (by simp)
 rw [if_pos c6] at H
 have c6b0 : decide (1 < (t173.length : Int)) = true := decide_eq_true c6
 have c6b1 : decide (1 < t173.length) = true := decide_eq_true (by omega)
 clear c6
 by_cases c7 : ((rd_T49 t173 1).f1) = 1
 rotate_left
 ·rw [if_neg c7] at H
  have c7b0 : (((rd_T49 t173 1).f1) == 1) = false := beq_eq_false_iff_ne.mpr c7
  have c7b1 : (((rd_T49 t173 1).f1) != 1) = true := bne_iff_ne.mpr c7
  obtain rfl := Option.some.inj H
  go_enter Try.func51, Try.ntmps51
  go_wp2_with (first | ((with_reducible refine gate_dst (N := 2) rfl ?_); refine Kd.R_lit (Kd.int .i64) _ 3 ?hg (N := 2) ?hd (xs := ([3] : List Int)) (inner := [.int .i64 3]) (ok := fun _ => True) (okp := fun _ => True) ?hr ?hp (fun _ hk => hk) trivial (Below.refl _ _) (Nat.le_refl _) (by simp) ?_; (case hd => rfl); (case hg => rfl); (case hr => first | (go_simp; done) | (go_simp; rfl)); (case hp => exact (Reps.one (show Kd.M (Kd.int .i64) _ _ _ 3 [.int .i64 3] from rfl) (Reps.none _ _))); intro v171 w22 ho23 hb hg_ hnew_; clear hg_ hnew_; (first | rw [← Ny170.out] at ho23 | (simp only [Int.reduceToNat] at ho23; rw [← Ny170.out] at ho23)); have n0_ := Aside0.mk (Kd.R_lower ho23 (below_size (by repeat (first | (with_reducible first | exact HB.out | apply below_alloc | apply pw_below_drewN | apply below_drew1) | exact HB.out)))); have n1_ := Aside0.mk (below_step (by repeat (first | (with_reducible first | exact HB.out | apply below_alloc | apply pw_below_drewN | apply below_drew1) | exact HB.out)) hb); clear HB; have HO172 := n0_; have HB := n1_; clear n0_ n1_; clear hb ho23; obtain ⟨Ao24, co24, eo24⟩ := Kd.R_slice HO172.out; subst eo24) | ((with_reducible refine gate_callee (f := 55) rfl ?_); refine goesL_ (some 4) rfl rfl Try.func55 (by kernel_rfl) rfl #[.agg #[.slice Ao24 y170.length co24, .int .i64 0], .int .i64 5] rfl (by (try simp only [List.map_toArray, List.map_cons, List.map_nil]); first | done | rfl | (simp only [List.length_drop, List.length_take]; rfl)) ?_; (with_reducible refine (sorts_Plan.calls _ _ y170 0 5 t173 _ ?side1 ?side2 A1.out).mono ?_); (case side1 => repeat (first | exact (Kd.R_reads' HO172.out).2.2 | (with_reducible refine Kd.C_alloc ?_ _) | (with_reducible refine Kd.C_drewN ?_ _) | (with_reducible refine Kd.C_drew ?_))); (case side2 => exact (Kd.R_reads' HO172.out).2.1); rintro e w25 ⟨v174, rfl, ho0, hb⟩; refine ⟨_, rfl, ?_⟩; have n0_ := Aside0.mk (Kd.R_below (by (with_reducible repeat (first | apply Kd.R_alloc | apply Kd.R_drewN | apply Kd.R_drew)); exact HO172.out) hb); have n1_ := Aside0.mk (Kd.R_lower ho0 (below_size (by repeat (first | (with_reducible first | exact HB.out | apply below_alloc | apply pw_below_drewN | apply below_drew1) | exact HB.out)))); have n2_ := Aside0.mk (below_step (by repeat (first | (with_reducible first | exact HB.out | apply below_alloc | apply pw_below_drewN | apply below_drew1) | exact HB.out)) hb); clear HO172; clear HB; have HO172 := n0_; have HO175 := n1_; have HB := n2_; clear n0_ n1_ n2_; (try clear hb); (try clear hb2); (try clear hk); (try clear hi); (try clear ho0); obtain ⟨Ao26, co26, eo26⟩ := Kd.R_slice HO175.out; subst eo26; have p176 : 0 ≤ (0 : Int) := (by omega); have q176 : 0 < (t173.length : Int) := of_decide_eq_true (by first | (with_reducible assumption) | assumption); obtain ⟨ad176, e176, hx176_0, hx176_1, hx176_2⟩ := at_T49 (Kd.R_reads' HO175.out).2.2 0 p176 q176; cases e176; have qi176 : (0 < t173.length) = True := eq_true (by omega); (try rw [show ((0 : Int)).toNat = 0 from rfl] at hx176_0); (try rw [show 0 * 3 = 0 from rfl] at hx176_0); (try rw [Addr.add_zero'] at hx176_0); (try rw [show ((0 : Int)).toNat = 0 from rfl] at hx176_1); (try rw [show 0 * 3 = 0 from rfl] at hx176_1); (try rw [Addr.add_zero'] at hx176_1); (try rw [show ((0 : Int)).toNat = 0 from rfl] at hx176_2); (try rw [show 0 * 3 = 0 from rfl] at hx176_2); (try rw [Addr.add_zero'] at hx176_2); replace p176 := eq_true p176; replace q176 := eq_true q176; have p177 : 0 ≤ (0 : Int) := (by omega); have q177 : 0 < (t173.length : Int) := of_decide_eq_true (by first | (with_reducible assumption) | assumption); obtain ⟨ad177, e177, hx177_0, hx177_1, hx177_2⟩ := at_T49 (Kd.R_reads' HO175.out).2.2 0 p177 q177; obtain rfl : ad176 = ad177 := (by injection e177); have qi177 : (0 < t173.length) = True := eq_true (by omega); (try rw [show ((0 : Int)).toNat = 0 from rfl] at hx177_0); (try rw [show 0 * 3 = 0 from rfl] at hx177_0); (try rw [Addr.add_zero'] at hx177_0); (try rw [show ((0 : Int)).toNat = 0 from rfl] at hx177_1); (try rw [show 0 * 3 = 0 from rfl] at hx177_1); (try rw [Addr.add_zero'] at hx177_1); (try rw [show ((0 : Int)).toNat = 0 from rfl] at hx177_2); (try rw [show 0 * 3 = 0 from rfl] at hx177_2); (try rw [Addr.add_zero'] at hx177_2); replace p177 := eq_true p177; replace q177 := eq_true q177; have p178 : 0 ≤ (1 : Int) := (by omega); have q178 : 1 < (t173.length : Int) := of_decide_eq_true (by first | (with_reducible assumption) | assumption); obtain ⟨ad178, e178, hx178_0, hx178_1, hx178_2⟩ := at_T49 (Kd.R_reads' HO175.out).2.2 1 p178 q178; obtain rfl : ad176 = ad178 := (by injection e178); (try simp only [show (1 : Int).toNat = 1 from rfl, Nat.reduceMul, Nat.reduceEqDiff, Go.Addr.add, ↓reduceIte] at hx178_0); (try simp only [show (1 : Int).toNat = 1 from rfl, Nat.reduceMul, Nat.reduceEqDiff, Go.Addr.add, ↓reduceIte] at hx178_1); (try simp only [show (1 : Int).toNat = 1 from rfl, Nat.reduceMul, Nat.reduceEqDiff, Go.Addr.add, ↓reduceIte] at hx178_2); have qi178 : (1 < t173.length) = True := eq_true (by omega); (try rw [show ((1 : Int)).toNat = 1 from rfl] at hx178_0); (try rw [show 1 * 3 = 3 from rfl] at hx178_0); (try rw [show ((1 : Int)).toNat = 1 from rfl] at hx178_1); (try rw [show 1 * 3 = 3 from rfl] at hx178_1); (try rw [show ((1 : Int)).toNat = 1 from rfl] at hx178_2); (try rw [show 1 * 3 = 3 from rfl] at hx178_2); replace p178 := eq_true p178; replace q178 := eq_true q178))
  go_ret
  exact ⟨by first | rfl | (simp [errW_none, errW_some] <;> rfl) | (simp [*, errW_none, errW_some] <;> rfl), by repeat (first | (with_reducible first | exact HB.out | apply below_alloc | apply pw_below_drewN | apply below_drew1) | exact HB.out)⟩
 rw [if_pos c7] at H
 have c7b0 : (((rd_T49 t173 1).f1) == 1) = true := beq_iff_eq.mpr c7
 have c7b1 : (((rd_T49 t173 1).f1) != 1) = false := bne_eq_false_iff_eq.mpr c7
 clear c7
 obtain ⟨bq8, hbq8⟩ : ∃ b_ : Bool, b_ = ((rd_T49 t173 1).f2) := ⟨_, rfl⟩
 replace H : (if bq8 = true then ((sorts_Right.f t173 1).bind fun t180 => (some t180)) else (some false)) = some r := by rw [← hbq8] at H; exact H
 have Nbq8 := Aside0.mk hbq8
 clear hbq8
 by_cases c9 : bq8 = true
 rotate_left
 ·replace c9 := Bool.eq_false_iff.mpr c9
  subst c9
  have H1 : (some false) = some r := by rw [if_neg (show ¬ (false = true) by decide)] at H; exact H
  clear H
  have H := H1
  clear H1
  obtain rfl := Option.some.inj H
  go_enter Try.func51, Try.ntmps51
  go_wp2_with (first | ((with_reducible refine gate_dst (N := 2) rfl ?_); refine Kd.R_lit (Kd.int .i64) _ 3 ?hg (N := 2) ?hd (xs := ([3] : List Int)) (inner := [.int .i64 3]) (ok := fun _ => True) (okp := fun _ => True) ?hr ?hp (fun _ hk => hk) trivial (Below.refl _ _) (Nat.le_refl _) (by simp) ?_; (case hd => rfl); (case hg => rfl); (case hr => first | (go_simp; done) | (go_simp; rfl)); (case hp => exact (Reps.one (show Kd.M (Kd.int .i64) _ _ _ 3 [.int .i64 3] from rfl) (Reps.none _ _))); intro v171 w17 ho18 hb hg_ hnew_; clear hg_ hnew_; (first | rw [← Ny170.out] at ho18 | (simp only [Int.reduceToNat] at ho18; rw [← Ny170.out] at ho18)); have n0_ := Aside0.mk (Kd.R_lower ho18 (below_size (by repeat (first | (with_reducible first | exact HB.out | apply below_alloc | apply pw_below_drewN | apply below_drew1) | exact HB.out)))); have n1_ := Aside0.mk (below_step (by repeat (first | (with_reducible first | exact HB.out | apply below_alloc | apply pw_below_drewN | apply below_drew1) | exact HB.out)) hb); clear HB; have HO172 := n0_; have HB := n1_; clear n0_ n1_; clear hb ho18; obtain ⟨Ao19, co19, eo19⟩ := Kd.R_slice HO172.out; subst eo19) | ((with_reducible refine gate_callee (f := 55) rfl ?_); refine goesL_ (some 4) rfl rfl Try.func55 (by kernel_rfl) rfl #[.agg #[.slice Ao19 y170.length co19, .int .i64 0], .int .i64 5] rfl (by (try simp only [List.map_toArray, List.map_cons, List.map_nil]); first | done | rfl | (simp only [List.length_drop, List.length_take]; rfl)) ?_; (with_reducible refine (sorts_Plan.calls _ _ y170 0 5 t173 _ ?side1 ?side2 A1.out).mono ?_); (case side1 => repeat (first | exact (Kd.R_reads' HO172.out).2.2 | (with_reducible refine Kd.C_alloc ?_ _) | (with_reducible refine Kd.C_drewN ?_ _) | (with_reducible refine Kd.C_drew ?_))); (case side2 => exact (Kd.R_reads' HO172.out).2.1); rintro e w20 ⟨v174, rfl, ho0, hb⟩; refine ⟨_, rfl, ?_⟩; have n0_ := Aside0.mk (Kd.R_below (by (with_reducible repeat (first | apply Kd.R_alloc | apply Kd.R_drewN | apply Kd.R_drew)); exact HO172.out) hb); have n1_ := Aside0.mk (Kd.R_lower ho0 (below_size (by repeat (first | (with_reducible first | exact HB.out | apply below_alloc | apply pw_below_drewN | apply below_drew1) | exact HB.out)))); have n2_ := Aside0.mk (below_step (by repeat (first | (with_reducible first | exact HB.out | apply below_alloc | apply pw_below_drewN | apply below_drew1) | exact HB.out)) hb); clear HO172; clear HB; have HO172 := n0_; have HO175 := n1_; have HB := n2_; clear n0_ n1_ n2_; (try clear hb); (try clear hb2); (try clear hk); (try clear hi); (try clear ho0); obtain ⟨Ao21, co21, eo21⟩ := Kd.R_slice HO175.out; subst eo21; have p176 : 0 ≤ (0 : Int) := (by omega); have q176 : 0 < (t173.length : Int) := of_decide_eq_true (by first | (with_reducible assumption) | assumption); obtain ⟨ad176, e176, hx176_0, hx176_1, hx176_2⟩ := at_T49 (Kd.R_reads' HO175.out).2.2 0 p176 q176; (try rw [← Nbq8.out] at hx176_2); cases e176; have qi176 : (0 < t173.length) = True := eq_true (by omega); (try rw [show ((0 : Int)).toNat = 0 from rfl] at hx176_0); (try rw [show 0 * 3 = 0 from rfl] at hx176_0); (try rw [Addr.add_zero'] at hx176_0); (try rw [show ((0 : Int)).toNat = 0 from rfl] at hx176_1); (try rw [show 0 * 3 = 0 from rfl] at hx176_1); (try rw [Addr.add_zero'] at hx176_1); (try rw [show ((0 : Int)).toNat = 0 from rfl] at hx176_2); (try rw [show 0 * 3 = 0 from rfl] at hx176_2); (try rw [Addr.add_zero'] at hx176_2); replace p176 := eq_true p176; replace q176 := eq_true q176; have p177 : 0 ≤ (0 : Int) := (by omega); have q177 : 0 < (t173.length : Int) := of_decide_eq_true (by first | (with_reducible assumption) | assumption); obtain ⟨ad177, e177, hx177_0, hx177_1, hx177_2⟩ := at_T49 (Kd.R_reads' HO175.out).2.2 0 p177 q177; (try rw [← Nbq8.out] at hx177_2); obtain rfl : ad176 = ad177 := (by injection e177); have qi177 : (0 < t173.length) = True := eq_true (by omega); (try rw [show ((0 : Int)).toNat = 0 from rfl] at hx177_0); (try rw [show 0 * 3 = 0 from rfl] at hx177_0); (try rw [Addr.add_zero'] at hx177_0); (try rw [show ((0 : Int)).toNat = 0 from rfl] at hx177_1); (try rw [show 0 * 3 = 0 from rfl] at hx177_1); (try rw [Addr.add_zero'] at hx177_1); (try rw [show ((0 : Int)).toNat = 0 from rfl] at hx177_2); (try rw [show 0 * 3 = 0 from rfl] at hx177_2); (try rw [Addr.add_zero'] at hx177_2); replace p177 := eq_true p177; replace q177 := eq_true q177; have p178 : 0 ≤ (1 : Int) := (by omega); have q178 : 1 < (t173.length : Int) := of_decide_eq_true (by first | (with_reducible assumption) | assumption); obtain ⟨ad178, e178, hx178_0, hx178_1, hx178_2⟩ := at_T49 (Kd.R_reads' HO175.out).2.2 1 p178 q178; (try rw [← Nbq8.out] at hx178_2); obtain rfl : ad176 = ad178 := (by injection e178); (try simp only [show (1 : Int).toNat = 1 from rfl, Nat.reduceMul, Nat.reduceEqDiff, Go.Addr.add, ↓reduceIte] at hx178_0); (try simp only [show (1 : Int).toNat = 1 from rfl, Nat.reduceMul, Nat.reduceEqDiff, Go.Addr.add, ↓reduceIte] at hx178_1); (try simp only [show (1 : Int).toNat = 1 from rfl, Nat.reduceMul, Nat.reduceEqDiff, Go.Addr.add, ↓reduceIte] at hx178_2); have qi178 : (1 < t173.length) = True := eq_true (by omega); (try rw [show ((1 : Int)).toNat = 1 from rfl] at hx178_0); (try rw [show 1 * 3 = 3 from rfl] at hx178_0); (try rw [show ((1 : Int)).toNat = 1 from rfl] at hx178_1); (try rw [show 1 * 3 = 3 from rfl] at hx178_1); (try rw [show ((1 : Int)).toNat = 1 from rfl] at hx178_2); (try rw [show 1 * 3 = 3 from rfl] at hx178_2); replace p178 := eq_true p178; replace q178 := eq_true q178; have p179 : 0 ≤ (1 : Int) := (by omega); have q179 : 1 < (t173.length : Int) := of_decide_eq_true (by first | (with_reducible assumption) | assumption); obtain ⟨ad179, e179, hx179_0, hx179_1, hx179_2⟩ := at_T49 (Kd.R_reads' HO175.out).2.2 1 p179 q179; (try rw [← Nbq8.out] at hx179_2); obtain rfl : ad176 = ad179 := (by injection e179); (try simp only [show (1 : Int).toNat = 1 from rfl, Nat.reduceMul, Nat.reduceEqDiff, Go.Addr.add, ↓reduceIte] at hx179_0); (try simp only [show (1 : Int).toNat = 1 from rfl, Nat.reduceMul, Nat.reduceEqDiff, Go.Addr.add, ↓reduceIte] at hx179_1); (try simp only [show (1 : Int).toNat = 1 from rfl, Nat.reduceMul, Nat.reduceEqDiff, Go.Addr.add, ↓reduceIte] at hx179_2); have qi179 : (1 < t173.length) = True := eq_true (by omega); (try rw [show ((1 : Int)).toNat = 1 from rfl] at hx179_0); (try rw [show 1 * 3 = 3 from rfl] at hx179_0); (try rw [show ((1 : Int)).toNat = 1 from rfl] at hx179_1); (try rw [show 1 * 3 = 3 from rfl] at hx179_1); (try rw [show ((1 : Int)).toNat = 1 from rfl] at hx179_2); (try rw [show 1 * 3 = 3 from rfl] at hx179_2); replace p179 := eq_true p179; replace q179 := eq_true q179))
  go_ret
  exact ⟨by first | rfl | (simp [errW_none, errW_some] <;> rfl) | (simp [*, errW_none, errW_some] <;> rfl), by repeat (first | (with_reducible first | exact HB.out | apply below_alloc | apply pw_below_drewN | apply below_drew1) | exact HB.out)⟩
 subst c9
 have H1 : ((sorts_Right.f t173 1).bind fun t180 => (some t180)) = some r := by rw [if_pos rfl] at H; exact H
 clear H
 have H := H1
 clear H1
 replace H := Option.bind_eq_some_iff.mp H
 obtain ⟨t180, A100, H⟩ := H
 replace H : (some t180) = some r := H
 have A10 := Aside0.mk A100
 clear A100
 obtain rfl := Option.some.inj H
 go_enter Try.func51, Try.ntmps51
 go_wp2_with (first | ((with_reducible refine gate_dst (N := 2) rfl ?_); refine Kd.R_lit (Kd.int .i64) _ 3 ?hg (N := 2) ?hd (xs := ([3] : List Int)) (inner := [.int .i64 3]) (ok := fun _ => True) (okp := fun _ => True) ?hr ?hp (fun _ hk => hk) trivial (Below.refl _ _) (Nat.le_refl _) (by simp) ?_; (case hd => rfl); (case hg => rfl); (case hr => first | (go_simp; done) | (go_simp; rfl)); (case hp => exact (Reps.one (show Kd.M (Kd.int .i64) _ _ _ 3 [.int .i64 3] from rfl) (Reps.none _ _))); intro v171 w11 ho12 hb hg_ hnew_; clear hg_ hnew_; (first | rw [← Ny170.out] at ho12 | (simp only [Int.reduceToNat] at ho12; rw [← Ny170.out] at ho12)); have n0_ := Aside0.mk (Kd.R_lower ho12 (below_size (by repeat (first | (with_reducible first | exact HB.out | apply below_alloc | apply pw_below_drewN | apply below_drew1) | exact HB.out)))); have n1_ := Aside0.mk (below_step (by repeat (first | (with_reducible first | exact HB.out | apply below_alloc | apply pw_below_drewN | apply below_drew1) | exact HB.out)) hb); clear HB; have HO172 := n0_; have HB := n1_; clear n0_ n1_; clear hb ho12; obtain ⟨Ao13, co13, eo13⟩ := Kd.R_slice HO172.out; subst eo13) | ((with_reducible refine gate_callee (f := 55) rfl ?_); refine goesL_ (some 4) rfl rfl Try.func55 (by kernel_rfl) rfl #[.agg #[.slice Ao13 y170.length co13, .int .i64 0], .int .i64 5] rfl (by (try simp only [List.map_toArray, List.map_cons, List.map_nil]); first | done | rfl | (simp only [List.length_drop, List.length_take]; rfl)) ?_; (with_reducible refine (sorts_Plan.calls _ _ y170 0 5 t173 _ ?side1 ?side2 A1.out).mono ?_); (case side1 => repeat (first | exact (Kd.R_reads' HO172.out).2.2 | (with_reducible refine Kd.C_alloc ?_ _) | (with_reducible refine Kd.C_drewN ?_ _) | (with_reducible refine Kd.C_drew ?_))); (case side2 => exact (Kd.R_reads' HO172.out).2.1); rintro e w14 ⟨v174, rfl, ho0, hb⟩; refine ⟨_, rfl, ?_⟩; have n0_ := Aside0.mk (Kd.R_below (by (with_reducible repeat (first | apply Kd.R_alloc | apply Kd.R_drewN | apply Kd.R_drew)); exact HO172.out) hb); have n1_ := Aside0.mk (Kd.R_lower ho0 (below_size (by repeat (first | (with_reducible first | exact HB.out | apply below_alloc | apply pw_below_drewN | apply below_drew1) | exact HB.out)))); have n2_ := Aside0.mk (below_step (by repeat (first | (with_reducible first | exact HB.out | apply below_alloc | apply pw_below_drewN | apply below_drew1) | exact HB.out)) hb); clear HO172; clear HB; have HO172 := n0_; have HO175 := n1_; have HB := n2_; clear n0_ n1_ n2_; (try clear hb); (try clear hb2); (try clear hk); (try clear hi); (try clear ho0); obtain ⟨Ao15, co15, eo15⟩ := Kd.R_slice HO175.out; subst eo15; have p176 : 0 ≤ (0 : Int) := (by omega); have q176 : 0 < (t173.length : Int) := of_decide_eq_true (by first | (with_reducible assumption) | assumption); obtain ⟨ad176, e176, hx176_0, hx176_1, hx176_2⟩ := at_T49 (Kd.R_reads' HO175.out).2.2 0 p176 q176; (try rw [← Nbq8.out] at hx176_2); cases e176; have qi176 : (0 < t173.length) = True := eq_true (by omega); (try rw [show ((0 : Int)).toNat = 0 from rfl] at hx176_0); (try rw [show 0 * 3 = 0 from rfl] at hx176_0); (try rw [Addr.add_zero'] at hx176_0); (try rw [show ((0 : Int)).toNat = 0 from rfl] at hx176_1); (try rw [show 0 * 3 = 0 from rfl] at hx176_1); (try rw [Addr.add_zero'] at hx176_1); (try rw [show ((0 : Int)).toNat = 0 from rfl] at hx176_2); (try rw [show 0 * 3 = 0 from rfl] at hx176_2); (try rw [Addr.add_zero'] at hx176_2); replace p176 := eq_true p176; replace q176 := eq_true q176; have p177 : 0 ≤ (0 : Int) := (by omega); have q177 : 0 < (t173.length : Int) := of_decide_eq_true (by first | (with_reducible assumption) | assumption); obtain ⟨ad177, e177, hx177_0, hx177_1, hx177_2⟩ := at_T49 (Kd.R_reads' HO175.out).2.2 0 p177 q177; (try rw [← Nbq8.out] at hx177_2); obtain rfl : ad176 = ad177 := (by injection e177); have qi177 : (0 < t173.length) = True := eq_true (by omega); (try rw [show ((0 : Int)).toNat = 0 from rfl] at hx177_0); (try rw [show 0 * 3 = 0 from rfl] at hx177_0); (try rw [Addr.add_zero'] at hx177_0); (try rw [show ((0 : Int)).toNat = 0 from rfl] at hx177_1); (try rw [show 0 * 3 = 0 from rfl] at hx177_1); (try rw [Addr.add_zero'] at hx177_1); (try rw [show ((0 : Int)).toNat = 0 from rfl] at hx177_2); (try rw [show 0 * 3 = 0 from rfl] at hx177_2); (try rw [Addr.add_zero'] at hx177_2); replace p177 := eq_true p177; replace q177 := eq_true q177; have p178 : 0 ≤ (1 : Int) := (by omega); have q178 : 1 < (t173.length : Int) := of_decide_eq_true (by first | (with_reducible assumption) | assumption); obtain ⟨ad178, e178, hx178_0, hx178_1, hx178_2⟩ := at_T49 (Kd.R_reads' HO175.out).2.2 1 p178 q178; (try rw [← Nbq8.out] at hx178_2); obtain rfl : ad176 = ad178 := (by injection e178); (try simp only [show (1 : Int).toNat = 1 from rfl, Nat.reduceMul, Nat.reduceEqDiff, Go.Addr.add, ↓reduceIte] at hx178_0); (try simp only [show (1 : Int).toNat = 1 from rfl, Nat.reduceMul, Nat.reduceEqDiff, Go.Addr.add, ↓reduceIte] at hx178_1); (try simp only [show (1 : Int).toNat = 1 from rfl, Nat.reduceMul, Nat.reduceEqDiff, Go.Addr.add, ↓reduceIte] at hx178_2); have qi178 : (1 < t173.length) = True := eq_true (by omega); (try rw [show ((1 : Int)).toNat = 1 from rfl] at hx178_0); (try rw [show 1 * 3 = 3 from rfl] at hx178_0); (try rw [show ((1 : Int)).toNat = 1 from rfl] at hx178_1); (try rw [show 1 * 3 = 3 from rfl] at hx178_1); (try rw [show ((1 : Int)).toNat = 1 from rfl] at hx178_2); (try rw [show 1 * 3 = 3 from rfl] at hx178_2); replace p178 := eq_true p178; replace q178 := eq_true q178; have p179 : 0 ≤ (1 : Int) := (by omega); have q179 : 1 < (t173.length : Int) := of_decide_eq_true (by first | (with_reducible assumption) | assumption); obtain ⟨ad179, e179, hx179_0, hx179_1, hx179_2⟩ := at_T49 (Kd.R_reads' HO175.out).2.2 1 p179 q179; (try rw [← Nbq8.out] at hx179_2); obtain rfl : ad176 = ad179 := (by injection e179); (try simp only [show (1 : Int).toNat = 1 from rfl, Nat.reduceMul, Nat.reduceEqDiff, Go.Addr.add, ↓reduceIte] at hx179_0); (try simp only [show (1 : Int).toNat = 1 from rfl, Nat.reduceMul, Nat.reduceEqDiff, Go.Addr.add, ↓reduceIte] at hx179_1); (try simp only [show (1 : Int).toNat = 1 from rfl, Nat.reduceMul, Nat.reduceEqDiff, Go.Addr.add, ↓reduceIte] at hx179_2); have qi179 : (1 < t173.length) = True := eq_true (by omega); (try rw [show ((1 : Int)).toNat = 1 from rfl] at hx179_0); (try rw [show 1 * 3 = 3 from rfl] at hx179_0); (try rw [show ((1 : Int)).toNat = 1 from rfl] at hx179_1); (try rw [show 1 * 3 = 3 from rfl] at hx179_1); (try rw [show ((1 : Int)).toNat = 1 from rfl] at hx179_2); (try rw [show 1 * 3 = 3 from rfl] at hx179_2); replace p179 := eq_true p179; replace q179 := eq_true q179) | (go_at_call 54; (with_reducible refine (sorts_Right.calls _ _ t173 1 t180 _ ?side1 ?side2 A10.out).mono ?_); (case side1 => repeat (first | exact (Kd.R_reads' HO175.out).2.2 | (with_reducible refine Kd.C_alloc ?_ _) | (with_reducible refine Kd.C_drewN ?_ _) | (with_reducible refine Kd.C_drew ?_))); (case side2 => exact (Kd.R_reads' HO175.out).2.1); rintro e w16 ⟨rfl, hb⟩; have n0_ := Aside0.mk (Kd.R_below (by (with_reducible repeat (first | apply Kd.R_alloc | apply Kd.R_drewN | apply Kd.R_drew)); exact HO172.out) hb); have n1_ := Aside0.mk (Kd.R_below (by (with_reducible repeat (first | apply Kd.R_alloc | apply Kd.R_drewN | apply Kd.R_drew)); exact HO175.out) hb); have n2_ := Aside0.mk (below_step (by repeat (first | (with_reducible first | exact HB.out | apply below_alloc | apply pw_below_drewN | apply below_drew1) | exact HB.out)) hb); clear HO172; clear HO175; clear HB; have HO172 := n0_; have HO175 := n1_; have HB := n2_; clear n0_ n1_ n2_; (try clear hb); (try clear hb2); (try clear hk); (try clear hi)))
 go_ret
 exact ⟨by first | rfl | (simp [errW_none, errW_some] <;> rfl) | (simp [*, errW_none, errW_some] <;> rfl), by repeat (first | (with_reducible first | exact HB.out | apply below_alloc | apply pw_below_drewN | apply below_drew1) | exact HB.out)⟩

/-! ### hypercubelaw10_within: function 52 -/
def hypercubelaw10_within.f (a0 : Int) (a1 : Int) : Option (Int) := if a1 = 0 then (none) else (if (Int.tmod a0 a1) < 0 then (some (wrap64 ((Int.tmod a0 a1) + a1))) else (some (Int.tmod a0 a1)))
set_option maxHeartbeats 8000000 in
set_option maxRecDepth 100000 in
theorem hypercubelaw10_within.calls (a0 : Int) (a1 : Int) (r : Int) (w : World) (h : hypercubelaw10_within.f a0 a1 = some r) :
 Calls Try.prog 52 #[.int .i64 a0, .int .i64 a1] w fun e w' => e = .returned (.int .i64 r) ∧ Drawn0 w w' := by
 have H : (if a1 = 0 then (none) else (if (Int.tmod a0 a1) < 0 then (some (wrap64 ((Int.tmod a0 a1) + a1))) else (some (Int.tmod a0 a1)))) = some r := h
 clear h
 by_cases c3 : a1 = 0
 ·rw [if_pos c3] at H
  exact absurd H (by simp)
 rw [if_neg c3] at H
 have c3b0 : (a1 == 0) = false := beq_eq_false_iff_ne.mpr c3
 have c3b1 : (a1 != 0) = true := bne_iff_ne.mpr c3
 by_cases c4 : (Int.tmod a0 a1) < 0
 ·rw [if_pos c4] at H
  have c4b0 : decide ((Int.tmod a0 a1) < 0) = true := decide_eq_true c4
  clear c4
  obtain rfl := Option.some.inj H
  go_enter Try.func52, Try.ntmps52
  go_wp2
  go_ret
  exact ⟨by first | rfl | (simp; done) | (simp [*]; done), by repeat (first | exact Drawn0.refl _ | apply Drawn0.step)⟩
 rw [if_neg c4] at H
 have c4b0 : decide ((Int.tmod a0 a1) < 0) = false := decide_eq_false c4
 clear c4
 obtain rfl := Option.some.inj H
 go_enter Try.func52, Try.ntmps52
 go_wp2
 go_ret
 exact ⟨by first | rfl | (simp; done) | (simp [*]; done), by repeat (first | exact Drawn0.refl _ | apply Drawn0.step)⟩

end Go.Proofs.Ytlplaidcdocbmaa.PSortsRight
