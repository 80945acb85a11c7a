-- Cut by pack.py, a program of this session; not trusted: Lean checks it.
import Derived.Test.YtlplaidcdocbmaaZS10
import Derived.Test.YtlplaidcdocbmaaZPSortsKnownx0
import Derived.Test.YtlplaidcdocbmaaZPSortsKnownx1
namespace Go.Proofs.Ytlplaidcdocbmaa.PSortsKnown
open Go.RowKit Go.Proofs.YtlplaidcdocbmaaW.PrintWords Go.Proofs.YtlplaidcdocbmaaW.PrintLast Go.Proofs.YtlplaidcdocbmaaW.PrintMore
private theorem od_ {p : Prop} [Decidable p] (h : decide p = true := by first | (with_reducible assumption) | assumption) : p := of_decide_eq_true h
attribute [local go_sem] max2_int min2_int max_two min_two max_three min_three max_four min_four   -- for this text's walks alone
set_option linter.unusedVariables false
set_option linter.unusedSimpArgs false

/-! ### slices_Index_int_int: function 100 -/


/-! ### slices_Contains_int_int: function 80 -/


/-! ### sorts_Right: function 54 -/
def sorts_Right.f (l0 : List (S49)) (a1 : Int) : Option (Bool) := if (0 ≤ a1 ∧ a1 ≤ 4) ∧ Srt.okW (Srt.toEds S49.f0 S49.f1 S49.f2 l0) = true then some (Srt.rightS a1.toNat (Srt.toEds S49.f0 S49.f1 S49.f2 l0)) else none
theorem sorts_Right.calls (A0 : Option Addr) (c0 : Nat) (l0 : List (S49)) (a1 : Int) (r : Bool) (w : World) (hr0 : Kd.C k49 w A0 l0.length l0) (hc0 : l0.length ≤ c0) (h : sorts_Right.f l0 a1 = some r) :
 Calls Try.prog 54 #[.slice A0 l0.length c0, .int .i64 a1] w fun e w' => e = .returned (.bool r) ∧ Below w.heap.size w w' := by
 unfold sorts_Right.f at h
 by_cases hh : (0 ≤ a1 ∧ a1 ≤ 4) ∧ Srt.okW (Srt.toEds S49.f0 S49.f1 S49.f2 l0) = true
 rotate_left
 ·rw [if_neg hh] at h; cases h
 rw [if_pos hh] at h
 obtain rfl := Option.some.inj h
 exact Srt.right_K k49 rfl z49 S49.f0 S49.f1 S49.f2 (fun w x cs h => k49_open h) A0 c0 l0 a1 w hr0 hh.1 hh.2

-- NOT PRINTED: function 75 (api_Edge)

/-! ### lattice_Size: function 34 -/
/-! ### lattice_Scan: function 47 -/
/-! ### sorts_planner_scan: function 83 -/


/-! ### bits_OnesCount32: function 92 -/


/-! ### bits_OnesCount64: function 93 -/


/-! ### bits_OnesCount: function 69 -/


/-! ### lattice_Level: function 31 -/
/-! ### sorts_planner_level: function 101 -/


-- NOT PRINTED: function 102 (sorts_costs_int_least)

-- NOT PRINTED: function 110 (match_each_int)

-- NOT PRINTED: function 108 (match_right)

-- NOT PRINTED: function 103 (match_Assign)

-- NOT PRINTED: function 81 (sorts_planner_edges)

/-! ### sorts_Plan: function 55 -/
def sorts_Plan.f (l0_0 : List Int) (a0_1 : Int) (a1 : Int) : Option ((List (S49))) := if Srt.okP l0_0 a1 = true then some (Srt.planE S49.mk l0_0 a1) else none
theorem sorts_Plan.calls (A0_0 : Option Addr) (c0_0 : Nat) (l0_0 : List Int) (a0_1 : Int) (a1 : Int) (r : List (S49)) (w : World) (hr0_0 : Kd.C (Kd.int .i64) w A0_0 l0_0.length l0_0) (hc0_0 : l0_0.length ≤ c0_0) (h : sorts_Plan.f l0_0 a0_1 a1 = some r) :
 Calls Try.prog 55 #[.agg #[.slice A0_0 l0_0.length c0_0, .int .i64 a0_1], .int .i64 a1] w fun e w' => ∃ v0_ : Value, e = .returned (v0_) ∧ Kd.R k49 49 w' w.heap.size (fun _ => True) v0_ r ∧ Below w.heap.size w w' := by
 unfold sorts_Plan.f at h
 by_cases hh : Srt.okP l0_0 a1 = true
 rotate_left
 ·rw [if_neg hh] at h; cases h
 rw [if_pos hh] at h
 obtain rfl := Option.some.inj h
 exact Srt.plan_K k49 rfl S49.mk (fun w base ok a b c => k49_mkM w base ok ⟨a, b, c⟩) A0_0 c0_0 l0_0 a0_1 a1 w hr0_0 hh

/-! ### hypercubelaw10_known: function 51 -/
def hypercubelaw10_known.f  : Option (Bool) := (sorts_Plan.f (([3] : List Int)) 0 5).bind fun t161 => (if (t161.length : Int) = 2 then (if 0 < (t161.length : Int) then (if ((rd_T49 t161 0).f0) = 1 then (if ((rd_T49 t161 0).f1) = (-1) then (if 1 < (t161.length : Int) then (if ((rd_T49 t161 1).f1) = 1 then (if (rd_T49 t161 1).f2 = true then ((sorts_Right.f t161 1).bind fun t168 => (some t168)) else (some false)) else (some false)) else (none)) else (some false)) else (some false)) else (none)) else (some false))
set_option maxHeartbeats 8000000 in
set_option maxRecDepth 100000 in
theorem hypercubelaw10_known.calls  (r : Bool) (w : World) (h : hypercubelaw10_known.f  = some r) :
 Calls Try.prog 51 #[] w fun e w' => e = .returned (.bool r) ∧ Below w.heap.size w w' := by
 have hu33 := Try.underlying33
 have HB := Aside0.mk (Below.refl w.heap.size w)
 have H : ((sorts_Plan.f (([3] : List Int)) 0 5).bind fun t161 => (if (t161.length : Int) = 2 then (if 0 < (t161.length : Int) then (if ((rd_T49 t161 0).f0) = 1 then (if ((rd_T49 t161 0).f1) = (-1) then (if 1 < (t161.length : Int) then (if ((rd_T49 t161 1).f1) = 1 then (if (rd_T49 t161 1).f2 = true then ((sorts_Right.f t161 1).bind fun t168 => (some t168)) else (some false)) else (some false)) else (none)) else (some false)) else (some false)) else (none)) else (some false))) = some r := h
 clear h
 obtain ⟨y158, hy158⟩ : ∃ y_ : List Int, y_ = (([3] : List Int)) := ⟨_, rfl⟩
 replace H : ((sorts_Plan.f y158 0 5).bind fun t161 => (if (t161.length : Int) = 2 then (if 0 < (t161.length : Int) then (if ((rd_T49 t161 0).f0) = 1 then (if ((rd_T49 t161 0).f1) = (-1) then (if 1 < (t161.length : Int) then (if ((rd_T49 t161 1).f1) = 1 then (if (rd_T49 t161 1).f2 = true then ((sorts_Right.f t161 1).bind fun t168 => (some t168)) else (some false)) else (some false)) else (none)) else (some false)) else (some false)) else (none)) else (some false))) = some r := by first | (rw [hy158]; with_reducible exact H) | (have H2_ := (Option.bind_some _ _).symm.trans H; rw [hy158]; with_reducible exact H2_) | (have H2_ := (Option.bind_some _ _).symm.trans H; with_reducible exact H2_) | with_reducible exact H | (rw [hy158]; exact H) | exact H
 have Ny158 := Aside0.mk hy158
 clear hy158
 replace H := Option.bind_eq_some_iff.mp H
 obtain ⟨t161, A10, H⟩ := H
 replace H : (if (t161.length : Int) = 2 then (if 0 < (t161.length : Int) then (if ((rd_T49 t161 0).f0) = 1 then (if ((rd_T49 t161 0).f1) = (-1) then (if 1 < (t161.length : Int) then (if ((rd_T49 t161 1).f1) = 1 then (if (rd_T49 t161 1).f2 = true then ((sorts_Right.f t161 1).bind fun t168 => (some t168)) else (some false)) else (some false)) else (none)) else (some false)) else (some false)) else (none)) else (some false)) = some r := H
 have A1 := Aside0.mk A10
 clear A10
 by_cases c2 : (t161.length : Int) = 2
 rotate_left
 ·rw [if_neg c2] at H
  have c2b0 : ((t161.length : Int) == 2) = false := beq_eq_false_iff_ne.mpr c2
  have c2b1 : ((t161.length : Int) != 2) = true := bne_iff_ne.mpr c2
  obtain rfl := Option.some.inj H
  go_enter Try.func51, Try.ntmps51
  go_wp2_with (first | ((with_reducible refine gate_dst (N := 2) rfl ?_); refine Kd.R_lit (Kd.int .i64) _ 3 ?hg (N := 2) ?hd (xs := ([3] : List Int)) (inner := [.int .i64 3]) (ok := fun _ => True) (okp := fun _ => True) ?hr ?hp (fun _ hk => hk) trivial (Below.refl _ _) (Nat.le_refl _) (by simp) ?_; (case hd => rfl); (case hg => rfl); (case hr => first | (go_simp; done) | (go_simp; rfl)); (case hp => exact (Reps.one (show Kd.M (Kd.int .i64) _ _ _ 3 [.int .i64 3] from rfl) (Reps.none _ _))); intro v159 w37 ho38 hb hg_ hnew_; clear hg_ hnew_; (first | rw [← Ny158.out] at ho38 | (simp only [Int.reduceToNat] at ho38; rw [← Ny158.out] at ho38)); have n0_ := Aside0.mk (Kd.R_lower ho38 (below_size (by repeat (first | (with_reducible first | exact HB.out | apply below_alloc | apply pw_below_drewN | apply below_drew1) | exact HB.out)))); have n1_ := Aside0.mk (below_step (by repeat (first | (with_reducible first | exact HB.out | apply below_alloc | apply pw_below_drewN | apply below_drew1) | exact HB.out)) hb); clear HB; have HO160 := n0_; have HB := n1_; clear n0_ n1_; clear hb ho38; obtain ⟨Ao39, co39, eo39⟩ := Kd.R_slice HO160.out; subst eo39) | ((with_reducible refine gate_callee (f := 55) rfl ?_); refine goesL_ (some 4) rfl rfl Try.func55 (by kernel_rfl) rfl #[.agg #[.slice Ao39 y158.length co39, .int .i64 0], .int .i64 5] rfl (by (try simp only [List.map_toArray, List.map_cons, List.map_nil]); first | done | rfl | (simp only [List.length_drop, List.length_take]; rfl)) ?_; (with_reducible refine (sorts_Plan.calls _ _ y158 0 5 t161 _ ?side1 ?side2 A1.out).mono ?_); (case side1 => repeat (first | exact (Kd.R_reads' HO160.out).2.2 | (with_reducible refine Kd.C_alloc ?_ _) | (with_reducible refine Kd.C_drewN ?_ _) | (with_reducible refine Kd.C_drew ?_))); (case side2 => exact (Kd.R_reads' HO160.out).2.1); rintro e w40 ⟨v162, rfl, ho0, hb⟩; refine ⟨_, rfl, ?_⟩; have n0_ := Aside0.mk (Kd.R_below (by (with_reducible repeat (first | apply Kd.R_alloc | apply Kd.R_drewN | apply Kd.R_drew)); exact HO160.out) hb); have n1_ := Aside0.mk (Kd.R_lower ho0 (below_size (by repeat (first | (with_reducible first | exact HB.out | apply below_alloc | apply pw_below_drewN | apply below_drew1) | exact HB.out)))); have n2_ := Aside0.mk (below_step (by repeat (first | (with_reducible first | exact HB.out | apply below_alloc | apply pw_below_drewN | apply below_drew1) | exact HB.out)) hb); clear HO160; clear HB; have HO160 := n0_; have HO163 := n1_; have HB := n2_; clear n0_ n1_ n2_; (try clear hb); (try clear hb2); (try clear hk); (try clear hi); (try clear ho0); obtain ⟨Ao41, co41, eo41⟩ := Kd.R_slice HO163.out; subst eo41))
  go_ret
  exact ⟨by first | rfl | (simp [errW_none, errW_some] <;> rfl) | (simp [*, errW_none, errW_some] <;> rfl), by repeat (first | (with_reducible first | exact HB.out | apply below_alloc | apply pw_below_drewN | apply below_drew1) | exact HB.out)⟩
 rw [if_pos c2] at H
 have c2b0 : ((t161.length : Int) == 2) = true := beq_iff_eq.mpr c2
 have c2b1 : ((t161.length : Int) != 2) = false := bne_eq_false_iff_eq.mpr c2
 clear c2
 by_cases c3 : 0 < (t161.length : Int)
 rotate_left
 ·rw [if_neg c3] at H
  exact absurd H (by simp)
 rw [if_pos c3] at H
 have c3b0 : decide (0 < (t161.length : Int)) = true := decide_eq_true c3
 have c3b1 : decide (0 < t161.length) = true := decide_eq_true (by omega)
 clear c3
 by_cases c4 : ((rd_T49 t161 0).f0) = 1
 rotate_left
 ·rw [if_neg c4] at H
  have c4b0 : (((rd_T49 t161 0).f0) == 1) = false := beq_eq_false_iff_ne.mpr c4
  have c4b1 : (((rd_T49 t161 0).f0) != 1) = true := bne_iff_ne.mpr c4
  obtain rfl := Option.some.inj H
  go_enter Try.func51, Try.ntmps51
  go_wp2_with (first | ((with_reducible refine gate_dst (N := 2) rfl ?_); refine Kd.R_lit (Kd.int .i64) _ 3 ?hg (N := 2) ?hd (xs := ([3] : List Int)) (inner := [.int .i64 3]) (ok := fun _ => True) (okp := fun _ => True) ?hr ?hp (fun _ hk => hk) trivial (Below.refl _ _) (Nat.le_refl _) (by simp) ?_; (case hd => rfl); (case hg => rfl); (case hr => first | (go_simp; done) | (go_simp; rfl)); (case hp => exact (Reps.one (show Kd.M (Kd.int .i64) _ _ _ 3 [.int .i64 3] from rfl) (Reps.none _ _))); intro v159 w32 ho33 hb hg_ hnew_; clear hg_ hnew_; (first | rw [← Ny158.out] at ho33 | (simp only [Int.reduceToNat] at ho33; rw [← Ny158.out] at ho33)); have n0_ := Aside0.mk (Kd.R_lower ho33 (below_size (by repeat (first | (with_reducible first | exact HB.out | apply below_alloc | apply pw_below_drewN | apply below_drew1) | exact HB.out)))); have n1_ := Aside0.mk (below_step (by repeat (first | (with_reducible first | exact HB.out | apply below_alloc | apply pw_below_drewN | apply below_drew1) | exact HB.out)) hb); clear HB; have HO160 := n0_; have HB := n1_; clear n0_ n1_; clear hb ho33; obtain ⟨Ao34, co34, eo34⟩ := Kd.R_slice HO160.out; subst eo34) | ((with_reducible refine gate_callee (f := 55) rfl ?_); refine goesL_ (some 4) rfl rfl Try.func55 (by kernel_rfl) rfl #[.agg #[.slice Ao34 y158.length co34, .int .i64 0], .int .i64 5] rfl (by (try simp only [List.map_toArray, List.map_cons, List.map_nil]); first | done | rfl | (simp only [List.length_drop, List.length_take]; rfl)) ?_; (with_reducible refine (sorts_Plan.calls _ _ y158 0 5 t161 _ ?side1 ?side2 A1.out).mono ?_); (case side1 => repeat (first | exact (Kd.R_reads' HO160.out).2.2 | (with_reducible refine Kd.C_alloc ?_ _) | (with_reducible refine Kd.C_drewN ?_ _) | (with_reducible refine Kd.C_drew ?_))); (case side2 => exact (Kd.R_reads' HO160.out).2.1); rintro e w35 ⟨v162, rfl, ho0, hb⟩; refine ⟨_, rfl, ?_⟩; have n0_ := Aside0.mk (Kd.R_below (by (with_reducible repeat (first | apply Kd.R_alloc | apply Kd.R_drewN | apply Kd.R_drew)); exact HO160.out) hb); have n1_ := Aside0.mk (Kd.R_lower ho0 (below_size (by repeat (first | (with_reducible first | exact HB.out | apply below_alloc | apply pw_below_drewN | apply below_drew1) | exact HB.out)))); have n2_ := Aside0.mk (below_step (by repeat (first | (with_reducible first | exact HB.out | apply below_alloc | apply pw_below_drewN | apply below_drew1) | exact HB.out)) hb); clear HO160; clear HB; have HO160 := n0_; have HO163 := n1_; have HB := n2_; clear n0_ n1_ n2_; (try clear hb); (try clear hb2); (try clear hk); (try clear hi); (try clear ho0); obtain ⟨Ao36, co36, eo36⟩ := Kd.R_slice HO163.out; subst eo36; have p164 : 0 ≤ (0 : Int) := (by omega); have q164 : 0 < (t161.length : Int) := of_decide_eq_true (by first | (with_reducible assumption) | assumption); obtain ⟨ad164, e164, hx164_0, hx164_1, hx164_2⟩ := at_T49 (Kd.R_reads' HO163.out).2.2 0 p164 q164; cases e164; have qi164 : (0 < t161.length) = True := eq_true (by omega); (try rw [show ((0 : Int)).toNat = 0 from rfl] at hx164_0); (try rw [show 0 * 3 = 0 from rfl] at hx164_0); (try rw [Addr.add_zero'] at hx164_0); (try rw [show ((0 : Int)).toNat = 0 from rfl] at hx164_1); (try rw [show 0 * 3 = 0 from rfl] at hx164_1); (try rw [Addr.add_zero'] at hx164_1); (try rw [show ((0 : Int)).toNat = 0 from rfl] at hx164_2); (try rw [show 0 * 3 = 0 from rfl] at hx164_2); (try rw [Addr.add_zero'] at hx164_2); replace p164 := eq_true p164; replace q164 := eq_true q164))
  go_ret
  exact ⟨by first | rfl | (simp [errW_none, errW_some] <;> rfl) | (simp [*, errW_none, errW_some] <;> rfl), by repeat (first | (with_reducible first | exact HB.out | apply below_alloc | apply pw_below_drewN | apply below_drew1) | exact HB.out)⟩
 rw [if_pos c4] at H
 have c4b0 : (((rd_T49 t161 0).f0) == 1) = true := beq_iff_eq.mpr c4
 have c4b1 : (((rd_T49 t161 0).f0) != 1) = false := bne_eq_false_iff_eq.mpr c4
 clear c4
 by_cases c5 : ((rd_T49 t161 0).f1) = (-1)
 rotate_left
 ·rw [if_neg c5] at H
  have c5b0 : (((rd_T49 t161 0).f1) == (-1)) = false := beq_eq_false_iff_ne.mpr c5
  have c5b1 : (((rd_T49 t161 0).f1) != (-1)) = true := bne_iff_ne.mpr c5
  obtain rfl := Option.some.inj H
  go_enter Try.func51, Try.ntmps51
  go_wp2_with (first | ((with_reducible refine gate_dst (N := 2) rfl ?_); refine Kd.R_lit (Kd.int .i64) _ 3 ?hg (N := 2) ?hd (xs := ([3] : List Int)) (inner := [.int .i64 3]) (ok := fun _ => True) (okp := fun _ => True) ?hr ?hp (fun _ hk => hk) trivial (Below.refl _ _) (Nat.le_refl _) (by simp) ?_; (case hd => rfl); (case hg => rfl); (case hr => first | (go_simp; done) | (go_simp; rfl)); (case hp => exact (Reps.one (show Kd.M (Kd.int .i64) _ _ _ 3 [.int .i64 3] from rfl) (Reps.none _ _))); intro v159 w27 ho28 hb hg_ hnew_; clear hg_ hnew_; (first | rw [← Ny158.out] at ho28 | (simp only [Int.reduceToNat] at ho28; rw [← Ny158.out] at ho28)); have n0_ := Aside0.mk (Kd.R_lower ho28 (below_size (by repeat (first | (with_reducible first | exact HB.out | apply below_alloc | apply pw_below_drewN | apply below_drew1) | exact HB.out)))); have n1_ := Aside0.mk (below_step (by repeat (first | (with_reducible first | exact HB.out | apply below_alloc | apply pw_below_drewN | apply below_drew1) | exact HB.out)) hb); clear HB; have HO160 := n0_; have HB := n1_; clear n0_ n1_; clear hb ho28; obtain ⟨Ao29, co29, eo29⟩ := Kd.R_slice HO160.out; subst eo29) | ((with_reducible refine gate_callee (f := 55) rfl ?_); refine goesL_ (some 4) rfl rfl Try.func55 (by kernel_rfl) rfl #[.agg #[.slice Ao29 y158.length co29, .int .i64 0], .int .i64 5] rfl (by (try simp only [List.map_toArray, List.map_cons, List.map_nil]); first | done | rfl | (simp only [List.length_drop, List.length_take]; rfl)) ?_; (with_reducible refine (sorts_Plan.calls _ _ y158 0 5 t161 _ ?side1 ?side2 A1.out).mono ?_); (case side1 => repeat (first | exact (Kd.R_reads' HO160.out).2.2 | (with_reducible refine Kd.C_alloc ?_ _) | (with_reducible refine Kd.C_drewN ?_ _) | (with_reducible refine Kd.C_drew ?_))); (case side2 => exact (Kd.R_reads' HO160.out).2.1); rintro e w30 ⟨v162, rfl, ho0, hb⟩; refine ⟨_, rfl, ?_⟩; have n0_ := Aside0.mk (Kd.R_below (by (with_reducible repeat (first | apply Kd.R_alloc | apply Kd.R_drewN | apply Kd.R_drew)); exact HO160.out) hb); have n1_ := Aside0.mk (Kd.R_lower ho0 (below_size (by repeat (first | (with_reducible first | exact HB.out | apply below_alloc | apply pw_below_drewN | apply below_drew1) | exact HB.out)))); have n2_ := Aside0.mk (below_step (by repeat (first | (with_reducible first | exact HB.out | apply below_alloc | apply pw_below_drewN | apply below_drew1) | exact HB.out)) hb); clear HO160; clear HB; have HO160 := n0_; have HO163 := n1_; have HB := n2_; clear n0_ n1_ n2_; (try clear hb); (try clear hb2); (try clear hk); (try clear hi); (try clear ho0); obtain ⟨Ao31, co31, eo31⟩ := Kd.R_slice HO163.out; subst eo31; have p164 : 0 ≤ (0 : Int) := (by omega); have q164 : 0 < (t161.length : Int) := of_decide_eq_true (by first | (with_reducible assumption) | assumption); obtain ⟨ad164, e164, hx164_0, hx164_1, hx164_2⟩ := at_T49 (Kd.R_reads' HO163.out).2.2 0 p164 q164; cases e164; have qi164 : (0 < t161.length) = True := eq_true (by omega); (try rw [show ((0 : Int)).toNat = 0 from rfl] at hx164_0); (try rw [show 0 * 3 = 0 from rfl] at hx164_0); (try rw [Addr.add_zero'] at hx164_0); (try rw [show ((0 : Int)).toNat = 0 from rfl] at hx164_1); (try rw [show 0 * 3 = 0 from rfl] at hx164_1); (try rw [Addr.add_zero'] at hx164_1); (try rw [show ((0 : Int)).toNat = 0 from rfl] at hx164_2); (try rw [show 0 * 3 = 0 from rfl] at hx164_2); (try rw [Addr.add_zero'] at hx164_2); replace p164 := eq_true p164; replace q164 := eq_true q164; have p165 : 0 ≤ (0 : Int) := (by omega); have q165 : 0 < (t161.length : Int) := of_decide_eq_true (by first | (with_reducible assumption) | assumption); obtain ⟨ad165, e165, hx165_0, hx165_1, hx165_2⟩ := at_T49 (Kd.R_reads' HO163.out).2.2 0 p165 q165; obtain rfl : ad164 = ad165 := (by injection e165); have qi165 : (0 < t161.length) = True := eq_true (by omega); (try rw [show ((0 : Int)).toNat = 0 from rfl] at hx165_0); (try rw [show 0 * 3 = 0 from rfl] at hx165_0); (try rw [Addr.add_zero'] at hx165_0); (try rw [show ((0 : Int)).toNat = 0 from rfl] at hx165_1); (try rw [show 0 * 3 = 0 from rfl] at hx165_1); (try rw [Addr.add_zero'] at hx165_1); (try rw [show ((0 : Int)).toNat = 0 from rfl] at hx165_2); (try rw [show 0 * 3 = 0 from rfl] at hx165_2); (try rw [Addr.add_zero'] at hx165_2); replace p165 := eq_true p165; replace q165 := eq_true q165))
  go_ret
  exact ⟨by first | rfl | (simp [errW_none, errW_some] <;> rfl) | (simp [*, errW_none, errW_some] <;> rfl), by repeat (first | (with_reducible first | exact HB.out | apply below_alloc | apply pw_below_drewN | apply below_drew1) | exact HB.out)⟩
 rw [if_pos c5] at H
 have c5b0 : (((rd_T49 t161 0).f1) == (-1)) = true := beq_iff_eq.mpr c5
 have c5b1 : (((rd_T49 t161 0).f1) != (-1)) = false := bne_eq_false_iff_eq.mpr c5
 clear c5
 by_cases c6 : 1 < (t161.length : Int)
 rotate_left
 ·rw [if_neg c6] at H
  exact absurd H (by simp)
 rw [if_pos c6] at H
 have c6b0 : decide (1 < (t161.length : Int)) = true := decide_eq_true c6
 have c6b1 : decide (1 < t161.length) = true := decide_eq_true (by omega)
 clear c6
 by_cases c7 : ((rd_T49 t161 1).f1) = 1
 rotate_left
 ·rw [if_neg c7] at H
  have c7b0 : (((rd_T49 t161 1).f1) == 1) = false := beq_eq_false_iff_ne.mpr c7
  have c7b1 : (((rd_T49 t161 1).f1) != 1) = true := bne_iff_ne.mpr c7
  obtain rfl := Option.some.inj H
  go_enter Try.func51, Try.ntmps51
  go_wp2_with (first | ((with_reducible refine gate_dst (N := 2) rfl ?_); refine Kd.R_lit (Kd.int .i64) _ 3 ?hg (N := 2) ?hd (xs := ([3] : List Int)) (inner := [.int .i64 3]) (ok := fun _ => True) (okp := fun _ => True) ?hr ?hp (fun _ hk => hk) trivial (Below.refl _ _) (Nat.le_refl _) (by simp) ?_; (case hd => rfl); (case hg => rfl); (case hr => first | (go_simp; done) | (go_simp; rfl)); (case hp => exact (Reps.one (show Kd.M (Kd.int .i64) _ _ _ 3 [.int .i64 3] from rfl) (Reps.none _ _))); intro v159 w22 ho23 hb hg_ hnew_; clear hg_ hnew_; (first | rw [← Ny158.out] at ho23 | (simp only [Int.reduceToNat] at ho23; rw [← Ny158.out] at ho23)); have n0_ := Aside0.mk (Kd.R_lower ho23 (below_size (by repeat (first | (with_reducible first | exact HB.out | apply below_alloc | apply pw_below_drewN | apply below_drew1) | exact HB.out)))); have n1_ := Aside0.mk (below_step (by repeat (first | (with_reducible first | exact HB.out | apply below_alloc | apply pw_below_drewN | apply below_drew1) | exact HB.out)) hb); clear HB; have HO160 := n0_; have HB := n1_; clear n0_ n1_; clear hb ho23; obtain ⟨Ao24, co24, eo24⟩ := Kd.R_slice HO160.out; subst eo24) | ((with_reducible refine gate_callee (f := 55) rfl ?_); refine goesL_ (some 4) rfl rfl Try.func55 (by kernel_rfl) rfl #[.agg #[.slice Ao24 y158.length co24, .int .i64 0], .int .i64 5] rfl (by (try simp only [List.map_toArray, List.map_cons, List.map_nil]); first | done | rfl | (simp only [List.length_drop, List.length_take]; rfl)) ?_; (with_reducible refine (sorts_Plan.calls _ _ y158 0 5 t161 _ ?side1 ?side2 A1.out).mono ?_); (case side1 => repeat (first | exact (Kd.R_reads' HO160.out).2.2 | (with_reducible refine Kd.C_alloc ?_ _) | (with_reducible refine Kd.C_drewN ?_ _) | (with_reducible refine Kd.C_drew ?_))); (case side2 => exact (Kd.R_reads' HO160.out).2.1); rintro e w25 ⟨v162, rfl, ho0, hb⟩; refine ⟨_, rfl, ?_⟩; have n0_ := Aside0.mk (Kd.R_below (by (with_reducible repeat (first | apply Kd.R_alloc | apply Kd.R_drewN | apply Kd.R_drew)); exact HO160.out) hb); have n1_ := Aside0.mk (Kd.R_lower ho0 (below_size (by repeat (first | (with_reducible first | exact HB.out | apply below_alloc | apply pw_below_drewN | apply below_drew1) | exact HB.out)))); have n2_ := Aside0.mk (below_step (by repeat (first | (with_reducible first | exact HB.out | apply below_alloc | apply pw_below_drewN | apply below_drew1) | exact HB.out)) hb); clear HO160; clear HB; have HO160 := n0_; have HO163 := n1_; have HB := n2_; clear n0_ n1_ n2_; (try clear hb); (try clear hb2); (try clear hk); (try clear hi); (try clear ho0); obtain ⟨Ao26, co26, eo26⟩ := Kd.R_slice HO163.out; subst eo26; have p164 : 0 ≤ (0 : Int) := (by omega); have q164 : 0 < (t161.length : Int) := of_decide_eq_true (by first | (with_reducible assumption) | assumption); obtain ⟨ad164, e164, hx164_0, hx164_1, hx164_2⟩ := at_T49 (Kd.R_reads' HO163.out).2.2 0 p164 q164; cases e164; have qi164 : (0 < t161.length) = True := eq_true (by omega); (try rw [show ((0 : Int)).toNat = 0 from rfl] at hx164_0); (try rw [show 0 * 3 = 0 from rfl] at hx164_0); (try rw [Addr.add_zero'] at hx164_0); (try rw [show ((0 : Int)).toNat = 0 from rfl] at hx164_1); (try rw [show 0 * 3 = 0 from rfl] at hx164_1); (try rw [Addr.add_zero'] at hx164_1); (try rw [show ((0 : Int)).toNat = 0 from rfl] at hx164_2); (try rw [show 0 * 3 = 0 from rfl] at hx164_2); (try rw [Addr.add_zero'] at hx164_2); replace p164 := eq_true p164; replace q164 := eq_true q164; have p165 : 0 ≤ (0 : Int) := (by omega); have q165 : 0 < (t161.length : Int) := of_decide_eq_true (by first | (with_reducible assumption) | assumption); obtain ⟨ad165, e165, hx165_0, hx165_1, hx165_2⟩ := at_T49 (Kd.R_reads' HO163.out).2.2 0 p165 q165; obtain rfl : ad164 = ad165 := (by injection e165); have qi165 : (0 < t161.length) = True := eq_true (by omega); (try rw [show ((0 : Int)).toNat = 0 from rfl] at hx165_0); (try rw [show 0 * 3 = 0 from rfl] at hx165_0); (try rw [Addr.add_zero'] at hx165_0); (try rw [show ((0 : Int)).toNat = 0 from rfl] at hx165_1); (try rw [show 0 * 3 = 0 from rfl] at hx165_1); (try rw [Addr.add_zero'] at hx165_1); (try rw [show ((0 : Int)).toNat = 0 from rfl] at hx165_2); (try rw [show 0 * 3 = 0 from rfl] at hx165_2); (try rw [Addr.add_zero'] at hx165_2); replace p165 := eq_true p165; replace q165 := eq_true q165; have p166 : 0 ≤ (1 : Int) := (by omega); have q166 : 1 < (t161.length : Int) := of_decide_eq_true (by first | (with_reducible assumption) | assumption); obtain ⟨ad166, e166, hx166_0, hx166_1, hx166_2⟩ := at_T49 (Kd.R_reads' HO163.out).2.2 1 p166 q166; obtain rfl : ad164 = ad166 := (by injection e166); (try simp only [show (1 : Int).toNat = 1 from rfl, Nat.reduceMul, Nat.reduceEqDiff, Go.Addr.add, ↓reduceIte] at hx166_0); (try simp only [show (1 : Int).toNat = 1 from rfl, Nat.reduceMul, Nat.reduceEqDiff, Go.Addr.add, ↓reduceIte] at hx166_1); (try simp only [show (1 : Int).toNat = 1 from rfl, Nat.reduceMul, Nat.reduceEqDiff, Go.Addr.add, ↓reduceIte] at hx166_2); have qi166 : (1 < t161.length) = True := eq_true (by omega); (try rw [show ((1 : Int)).toNat = 1 from rfl] at hx166_0); (try rw [show 1 * 3 = 3 from rfl] at hx166_0); (try rw [show ((1 : Int)).toNat = 1 from rfl] at hx166_1); (try rw [show 1 * 3 = 3 from rfl] at hx166_1); (try rw [show ((1 : Int)).toNat = 1 from rfl] at hx166_2); (try rw [show 1 * 3 = 3 from rfl] at hx166_2); replace p166 := eq_true p166; replace q166 := eq_true q166))
  go_ret
  exact ⟨by first | rfl | (simp [errW_none, errW_some] <;> rfl) | (simp [*, errW_none, errW_some] <;> rfl), by repeat (first | (with_reducible first | exact HB.out | apply below_alloc | apply pw_below_drewN | apply below_drew1) | exact HB.out)⟩
 rw [if_pos c7] at H
 have c7b0 : (((rd_T49 t161 1).f1) == 1) = true := beq_iff_eq.mpr c7
 have c7b1 : (((rd_T49 t161 1).f1) != 1) = false := bne_eq_false_iff_eq.mpr c7
 clear c7
 obtain ⟨bq8, hbq8⟩ : ∃ b_ : Bool, b_ = ((rd_T49 t161 1).f2) := ⟨_, rfl⟩
 replace H : (if bq8 = true then ((sorts_Right.f t161 1).bind fun t168 => (some t168)) else (some false)) = some r := by rw [← hbq8] at H; exact H
 have Nbq8 := Aside0.mk hbq8
 clear hbq8
 by_cases c9 : bq8 = true
 rotate_left
 ·replace c9 := Bool.eq_false_iff.mpr c9
  subst c9
  have H1 : (some false) = some r := by rw [if_neg (show ¬ (false = true) by decide)] at H; exact H
  clear H
  have H := H1
  clear H1
  obtain rfl := Option.some.inj H
  go_enter Try.func51, Try.ntmps51
  go_wp2_with (first | ((with_reducible refine gate_dst (N := 2) rfl ?_); refine Kd.R_lit (Kd.int .i64) _ 3 ?hg (N := 2) ?hd (xs := ([3] : List Int)) (inner := [.int .i64 3]) (ok := fun _ => True) (okp := fun _ => True) ?hr ?hp (fun _ hk => hk) trivial (Below.refl _ _) (Nat.le_refl _) (by simp) ?_; (case hd => rfl); (case hg => rfl); (case hr => first | (go_simp; done) | (go_simp; rfl)); (case hp => exact (Reps.one (show Kd.M (Kd.int .i64) _ _ _ 3 [.int .i64 3] from rfl) (Reps.none _ _))); intro v159 w17 ho18 hb hg_ hnew_; clear hg_ hnew_; (first | rw [← Ny158.out] at ho18 | (simp only [Int.reduceToNat] at ho18; rw [← Ny158.out] at ho18)); have n0_ := Aside0.mk (Kd.R_lower ho18 (below_size (by repeat (first | (with_reducible first | exact HB.out | apply below_alloc | apply pw_below_drewN | apply below_drew1) | exact HB.out)))); have n1_ := Aside0.mk (below_step (by repeat (first | (with_reducible first | exact HB.out | apply below_alloc | apply pw_below_drewN | apply below_drew1) | exact HB.out)) hb); clear HB; have HO160 := n0_; have HB := n1_; clear n0_ n1_; clear hb ho18; obtain ⟨Ao19, co19, eo19⟩ := Kd.R_slice HO160.out; subst eo19) | ((with_reducible refine gate_callee (f := 55) rfl ?_); refine goesL_ (some 4) rfl rfl Try.func55 (by kernel_rfl) rfl #[.agg #[.slice Ao19 y158.length co19, .int .i64 0], .int .i64 5] rfl (by (try simp only [List.map_toArray, List.map_cons, List.map_nil]); first | done | rfl | (simp only [List.length_drop, List.length_take]; rfl)) ?_; (with_reducible refine (sorts_Plan.calls _ _ y158 0 5 t161 _ ?side1 ?side2 A1.out).mono ?_); (case side1 => repeat (first | exact (Kd.R_reads' HO160.out).2.2 | (with_reducible refine Kd.C_alloc ?_ _) | (with_reducible refine Kd.C_drewN ?_ _) | (with_reducible refine Kd.C_drew ?_))); (case side2 => exact (Kd.R_reads' HO160.out).2.1); rintro e w20 ⟨v162, rfl, ho0, hb⟩; refine ⟨_, rfl, ?_⟩; have n0_ := Aside0.mk (Kd.R_below (by (with_reducible repeat (first | apply Kd.R_alloc | apply Kd.R_drewN | apply Kd.R_drew)); exact HO160.out) hb); have n1_ := Aside0.mk (Kd.R_lower ho0 (below_size (by repeat (first | (with_reducible first | exact HB.out | apply below_alloc | apply pw_below_drewN | apply below_drew1) | exact HB.out)))); have n2_ := Aside0.mk (below_step (by repeat (first | (with_reducible first | exact HB.out | apply below_alloc | apply pw_below_drewN | apply below_drew1) | exact HB.out)) hb); clear HO160; clear HB; have HO160 := n0_; have HO163 := n1_; have HB := n2_; clear n0_ n1_ n2_; (try clear hb); (try clear hb2); (try clear hk); (try clear hi); (try clear ho0); obtain ⟨Ao21, co21, eo21⟩ := Kd.R_slice HO163.out; subst eo21; have p164 : 0 ≤ (0 : Int) := (by omega); have q164 : 0 < (t161.length : Int) := of_decide_eq_true (by first | (with_reducible assumption) | assumption); obtain ⟨ad164, e164, hx164_0, hx164_1, hx164_2⟩ := at_T49 (Kd.R_reads' HO163.out).2.2 0 p164 q164; (try rw [← Nbq8.out] at hx164_2); cases e164; have qi164 : (0 < t161.length) = True := eq_true (by omega); (try rw [show ((0 : Int)).toNat = 0 from rfl] at hx164_0); (try rw [show 0 * 3 = 0 from rfl] at hx164_0); (try rw [Addr.add_zero'] at hx164_0); (try rw [show ((0 : Int)).toNat = 0 from rfl] at hx164_1); (try rw [show 0 * 3 = 0 from rfl] at hx164_1); (try rw [Addr.add_zero'] at hx164_1); (try rw [show ((0 : Int)).toNat = 0 from rfl] at hx164_2); (try rw [show 0 * 3 = 0 from rfl] at hx164_2); (try rw [Addr.add_zero'] at hx164_2); replace p164 := eq_true p164; replace q164 := eq_true q164; have p165 : 0 ≤ (0 : Int) := (by omega); have q165 : 0 < (t161.length : Int) := of_decide_eq_true (by first | (with_reducible assumption) | assumption); obtain ⟨ad165, e165, hx165_0, hx165_1, hx165_2⟩ := at_T49 (Kd.R_reads' HO163.out).2.2 0 p165 q165; (try rw [← Nbq8.out] at hx165_2); obtain rfl : ad164 = ad165 := (by injection e165); have qi165 : (0 < t161.length) = True := eq_true (by omega); (try rw [show ((0 : Int)).toNat = 0 from rfl] at hx165_0); (try rw [show 0 * 3 = 0 from rfl] at hx165_0); (try rw [Addr.add_zero'] at hx165_0); (try rw [show ((0 : Int)).toNat = 0 from rfl] at hx165_1); (try rw [show 0 * 3 = 0 from rfl] at hx165_1); (try rw [Addr.add_zero'] at hx165_1); (try rw [show ((0 : Int)).toNat = 0 from rfl] at hx165_2); (try rw [show 0 * 3 = 0 from rfl] at hx165_2); (try rw [Addr.add_zero'] at hx165_2); replace p165 := eq_true p165; replace q165 := eq_true q165; have p166 : 0 ≤ (1 : Int) := (by omega); have q166 : 1 < (t161.length : Int) := of_decide_eq_true (by first | (with_reducible assumption) | assumption); obtain ⟨ad166, e166, hx166_0, hx166_1, hx166_2⟩ := at_T49 (Kd.R_reads' HO163.out).2.2 1 p166 q166; (try rw [← Nbq8.out] at hx166_2); obtain rfl : ad164 = ad166 := (by injection e166); (try simp only [show (1 : Int).toNat = 1 from rfl, Nat.reduceMul, Nat.reduceEqDiff, Go.Addr.add, ↓reduceIte] at hx166_0); (try simp only [show (1 : Int).toNat = 1 from rfl, Nat.reduceMul, Nat.reduceEqDiff, Go.Addr.add, ↓reduceIte] at hx166_1); (try simp only [show (1 : Int).toNat = 1 from rfl, Nat.reduceMul, Nat.reduceEqDiff, Go.Addr.add, ↓reduceIte] at hx166_2); have qi166 : (1 < t161.length) = True := eq_true (by omega); (try rw [show ((1 : Int)).toNat = 1 from rfl] at hx166_0); (try rw [show 1 * 3 = 3 from rfl] at hx166_0); (try rw [show ((1 : Int)).toNat = 1 from rfl] at hx166_1); (try rw [show 1 * 3 = 3 from rfl] at hx166_1); (try rw [show ((1 : Int)).toNat = 1 from rfl] at hx166_2); (try rw [show 1 * 3 = 3 from rfl] at hx166_2); replace p166 := eq_true p166; replace q166 := eq_true q166; have p167 : 0 ≤ (1 : Int) := (by omega); have q167 : 1 < (t161.length : Int) := of_decide_eq_true (by first | (with_reducible assumption) | assumption); obtain ⟨ad167, e167, hx167_0, hx167_1, hx167_2⟩ := at_T49 (Kd.R_reads' HO163.out).2.2 1 p167 q167; (try rw [← Nbq8.out] at hx167_2); obtain rfl : ad164 = ad167 := (by injection e167); (try simp only [show (1 : Int).toNat = 1 from rfl, Nat.reduceMul, Nat.reduceEqDiff, Go.Addr.add, ↓reduceIte] at hx167_0); (try simp only [show (1 : Int).toNat = 1 from rfl, Nat.reduceMul, Nat.reduceEqDiff, Go.Addr.add, ↓reduceIte] at hx167_1); (try simp only [show (1 : Int).toNat = 1 from rfl, Nat.reduceMul, Nat.reduceEqDiff, Go.Addr.add, ↓reduceIte] at hx167_2); have qi167 : (1 < t161.length) = True := eq_true (by omega); (try rw [show ((1 : Int)).toNat = 1 from rfl] at hx167_0); (try rw [show 1 * 3 = 3 from rfl] at hx167_0); (try rw [show ((1 : Int)).toNat = 1 from rfl] at hx167_1); (try rw [show 1 * 3 = 3 from rfl] at hx167_1); (try rw [show ((1 : Int)).toNat = 1 from rfl] at hx167_2); (try rw [show 1 * 3 = 3 from rfl] at hx167_2); replace p167 := eq_true p167; replace q167 := eq_true q167))
  go_ret
  exact ⟨by first | rfl | (simp [errW_none, errW_some] <;> rfl) | (simp [*, errW_none, errW_some] <;> rfl), by repeat (first | (with_reducible first | exact HB.out | apply below_alloc | apply pw_below_drewN | apply below_drew1) | exact HB.out)⟩
 subst c9
 have H1 : ((sorts_Right.f t161 1).bind fun t168 => (some t168)) = some r := by rw [if_pos rfl] at H; exact H
 clear H
 have H := H1
 clear H1
 replace H := Option.bind_eq_some_iff.mp H
 obtain ⟨t168, A100, H⟩ := H
 replace H : (some t168) = some r := H
 have A10 := Aside0.mk A100
 clear A100
 obtain rfl := Option.some.inj H
 go_enter Try.func51, Try.ntmps51
 go_wp2_with (first | ((with_reducible refine gate_dst (N := 2) rfl ?_); refine Kd.R_lit (Kd.int .i64) _ 3 ?hg (N := 2) ?hd (xs := ([3] : List Int)) (inner := [.int .i64 3]) (ok := fun _ => True) (okp := fun _ => True) ?hr ?hp (fun _ hk => hk) trivial (Below.refl _ _) (Nat.le_refl _) (by simp) ?_; (case hd => rfl); (case hg => rfl); (case hr => first | (go_simp; done) | (go_simp; rfl)); (case hp => exact (Reps.one (show Kd.M (Kd.int .i64) _ _ _ 3 [.int .i64 3] from rfl) (Reps.none _ _))); intro v159 w11 ho12 hb hg_ hnew_; clear hg_ hnew_; (first | rw [← Ny158.out] at ho12 | (simp only [Int.reduceToNat] at ho12; rw [← Ny158.out] at ho12)); have n0_ := Aside0.mk (Kd.R_lower ho12 (below_size (by repeat (first | (with_reducible first | exact HB.out | apply below_alloc | apply pw_below_drewN | apply below_drew1) | exact HB.out)))); have n1_ := Aside0.mk (below_step (by repeat (first | (with_reducible first | exact HB.out | apply below_alloc | apply pw_below_drewN | apply below_drew1) | exact HB.out)) hb); clear HB; have HO160 := n0_; have HB := n1_; clear n0_ n1_; clear hb ho12; obtain ⟨Ao13, co13, eo13⟩ := Kd.R_slice HO160.out; subst eo13) | ((with_reducible refine gate_callee (f := 55) rfl ?_); refine goesL_ (some 4) rfl rfl Try.func55 (by kernel_rfl) rfl #[.agg #[.slice Ao13 y158.length co13, .int .i64 0], .int .i64 5] rfl (by (try simp only [List.map_toArray, List.map_cons, List.map_nil]); first | done | rfl | (simp only [List.length_drop, List.length_take]; rfl)) ?_; (with_reducible refine (sorts_Plan.calls _ _ y158 0 5 t161 _ ?side1 ?side2 A1.out).mono ?_); (case side1 => repeat (first | exact (Kd.R_reads' HO160.out).2.2 | (with_reducible refine Kd.C_alloc ?_ _) | (with_reducible refine Kd.C_drewN ?_ _) | (with_reducible refine Kd.C_drew ?_))); (case side2 => exact (Kd.R_reads' HO160.out).2.1); rintro e w14 ⟨v162, rfl, ho0, hb⟩; refine ⟨_, rfl, ?_⟩; have n0_ := Aside0.mk (Kd.R_below (by (with_reducible repeat (first | apply Kd.R_alloc | apply Kd.R_drewN | apply Kd.R_drew)); exact HO160.out) hb); have n1_ := Aside0.mk (Kd.R_lower ho0 (below_size (by repeat (first | (with_reducible first | exact HB.out | apply below_alloc | apply pw_below_drewN | apply below_drew1) | exact HB.out)))); have n2_ := Aside0.mk (below_step (by repeat (first | (with_reducible first | exact HB.out | apply below_alloc | apply pw_below_drewN | apply below_drew1) | exact HB.out)) hb); clear HO160; clear HB; have HO160 := n0_; have HO163 := n1_; have HB := n2_; clear n0_ n1_ n2_; (try clear hb); (try clear hb2); (try clear hk); (try clear hi); (try clear ho0); obtain ⟨Ao15, co15, eo15⟩ := Kd.R_slice HO163.out; subst eo15; have p164 : 0 ≤ (0 : Int) := (by omega); have q164 : 0 < (t161.length : Int) := of_decide_eq_true (by first | (with_reducible assumption) | assumption); obtain ⟨ad164, e164, hx164_0, hx164_1, hx164_2⟩ := at_T49 (Kd.R_reads' HO163.out).2.2 0 p164 q164; (try rw [← Nbq8.out] at hx164_2); cases e164; have qi164 : (0 < t161.length) = True := eq_true (by omega); (try rw [show ((0 : Int)).toNat = 0 from rfl] at hx164_0); (try rw [show 0 * 3 = 0 from rfl] at hx164_0); (try rw [Addr.add_zero'] at hx164_0); (try rw [show ((0 : Int)).toNat = 0 from rfl] at hx164_1); (try rw [show 0 * 3 = 0 from rfl] at hx164_1); (try rw [Addr.add_zero'] at hx164_1); (try rw [show ((0 : Int)).toNat = 0 from rfl] at hx164_2); (try rw [show 0 * 3 = 0 from rfl] at hx164_2); (try rw [Addr.add_zero'] at hx164_2); replace p164 := eq_true p164; replace q164 := eq_true q164; have p165 : 0 ≤ (0 : Int) := (by omega); have q165 : 0 < (t161.length : Int) := of_decide_eq_true (by first | (with_reducible assumption) | assumption); obtain ⟨ad165, e165, hx165_0, hx165_1, hx165_2⟩ := at_T49 (Kd.R_reads' HO163.out).2.2 0 p165 q165; (try rw [← Nbq8.out] at hx165_2); obtain rfl : ad164 = ad165 := (by injection e165); have qi165 : (0 < t161.length) = True := eq_true (by omega); (try rw [show ((0 : Int)).toNat = 0 from rfl] at hx165_0); (try rw [show 0 * 3 = 0 from rfl] at hx165_0); (try rw [Addr.add_zero'] at hx165_0); (try rw [show ((0 : Int)).toNat = 0 from rfl] at hx165_1); (try rw [show 0 * 3 = 0 from rfl] at hx165_1); (try rw [Addr.add_zero'] at hx165_1); (try rw [show ((0 : Int)).toNat = 0 from rfl] at hx165_2); (try rw [show 0 * 3 = 0 from rfl] at hx165_2); (try rw [Addr.add_zero'] at hx165_2); replace p165 := eq_true p165; replace q165 := eq_true q165; have p166 : 0 ≤ (1 : Int) := (by omega); have q166 : 1 < (t161.length : Int) := of_decide_eq_true (by first | (with_reducible assumption) | assumption); obtain ⟨ad166, e166, hx166_0, hx166_1, hx166_2⟩ := at_T49 (Kd.R_reads' HO163.out).2.2 1 p166 q166; (try rw [← Nbq8.out] at hx166_2); obtain rfl : ad164 = ad166 := (by injection e166); (try simp only [show (1 : Int).toNat = 1 from rfl, Nat.reduceMul, Nat.reduceEqDiff, Go.Addr.add, ↓reduceIte] at hx166_0); (try simp only [show (1 : Int).toNat = 1 from rfl, Nat.reduceMul, Nat.reduceEqDiff, Go.Addr.add, ↓reduceIte] at hx166_1); (try simp only [show (1 : Int).toNat = 1 from rfl, Nat.reduceMul, Nat.reduceEqDiff, Go.Addr.add, ↓reduceIte] at hx166_2); have qi166 : (1 < t161.length) = True := eq_true (by omega); (try rw [show ((1 : Int)).toNat = 1 from rfl] at hx166_0); (try rw [show 1 * 3 = 3 from rfl] at hx166_0); (try rw [show ((1 : Int)).toNat = 1 from rfl] at hx166_1); (try rw [show 1 * 3 = 3 from rfl] at hx166_1); (try rw [show ((1 : Int)).toNat = 1 from rfl] at hx166_2); (try rw [show 1 * 3 = 3 from rfl] at hx166_2); replace p166 := eq_true p166; replace q166 := eq_true q166; have p167 : 0 ≤ (1 : Int) := (by omega); have q167 : 1 < (t161.length : Int) := of_decide_eq_true (by first | (with_reducible assumption) | assumption); obtain ⟨ad167, e167, hx167_0, hx167_1, hx167_2⟩ := at_T49 (Kd.R_reads' HO163.out).2.2 1 p167 q167; (try rw [← Nbq8.out] at hx167_2); obtain rfl : ad164 = ad167 := (by injection e167); (try simp only [show (1 : Int).toNat = 1 from rfl, Nat.reduceMul, Nat.reduceEqDiff, Go.Addr.add, ↓reduceIte] at hx167_0); (try simp only [show (1 : Int).toNat = 1 from rfl, Nat.reduceMul, Nat.reduceEqDiff, Go.Addr.add, ↓reduceIte] at hx167_1); (try simp only [show (1 : Int).toNat = 1 from rfl, Nat.reduceMul, Nat.reduceEqDiff, Go.Addr.add, ↓reduceIte] at hx167_2); have qi167 : (1 < t161.length) = True := eq_true (by omega); (try rw [show ((1 : Int)).toNat = 1 from rfl] at hx167_0); (try rw [show 1 * 3 = 3 from rfl] at hx167_0); (try rw [show ((1 : Int)).toNat = 1 from rfl] at hx167_1); (try rw [show 1 * 3 = 3 from rfl] at hx167_1); (try rw [show ((1 : Int)).toNat = 1 from rfl] at hx167_2); (try rw [show 1 * 3 = 3 from rfl] at hx167_2); replace p167 := eq_true p167; replace q167 := eq_true q167) | (go_at_call 54; (with_reducible refine (sorts_Right.calls _ _ t161 1 t168 _ ?side1 ?side2 A10.out).mono ?_); (case side1 => repeat (first | exact (Kd.R_reads' HO163.out).2.2 | (with_reducible refine Kd.C_alloc ?_ _) | (with_reducible refine Kd.C_drewN ?_ _) | (with_reducible refine Kd.C_drew ?_))); (case side2 => exact (Kd.R_reads' HO163.out).2.1); rintro e w16 ⟨rfl, hb⟩; have n0_ := Aside0.mk (Kd.R_below (by (with_reducible repeat (first | apply Kd.R_alloc | apply Kd.R_drewN | apply Kd.R_drew)); exact HO160.out) hb); have n1_ := Aside0.mk (Kd.R_below (by (with_reducible repeat (first | apply Kd.R_alloc | apply Kd.R_drewN | apply Kd.R_drew)); exact HO163.out) hb); have n2_ := Aside0.mk (below_step (by repeat (first | (with_reducible first | exact HB.out | apply below_alloc | apply pw_below_drewN | apply below_drew1) | exact HB.out)) hb); clear HO160; clear HO163; clear HB; have HO160 := n0_; have HO163 := n1_; have HB := n2_; clear n0_ n1_ n2_; (try clear hb); (try clear hb2); (try clear hk); (try clear hi)))
 go_ret
 exact ⟨by first | rfl | (simp [errW_none, errW_some] <;> rfl) | (simp [*, errW_none, errW_some] <;> rfl), by repeat (first | (with_reducible first | exact HB.out | apply below_alloc | apply pw_below_drewN | apply below_drew1) | exact HB.out)⟩

/-! ### hypercubelaw10_within: function 52 -/
def hypercubelaw10_within.f (a0 : Int) (a1 : Int) : Option (Int) := if a1 = 0 then (none) else (if (Int.tmod a0 a1) < 0 then (some (wrap64 ((Int.tmod a0 a1) + a1))) else (some (Int.tmod a0 a1)))
set_option maxHeartbeats 8000000 in
set_option maxRecDepth 100000 in
theorem hypercubelaw10_within.calls (a0 : Int) (a1 : Int) (r : Int) (w : World) (h : hypercubelaw10_within.f a0 a1 = some r) :
 Calls Try.prog 52 #[.int .i64 a0, .int .i64 a1] w fun e w' => e = .returned (.int .i64 r) ∧ Drawn0 w w' := by
 have H : (if a1 = 0 then (none) else (if (Int.tmod a0 a1) < 0 then (some (wrap64 ((Int.tmod a0 a1) + a1))) else (some (Int.tmod a0 a1)))) = some r := h
 clear h
 by_cases c3 : a1 = 0
 ·rw [if_pos c3] at H
  exact absurd H (by simp)
 rw [if_neg c3] at H
 have c3b0 : (a1 == 0) = false := beq_eq_false_iff_ne.mpr c3
 have c3b1 : (a1 != 0) = true := bne_iff_ne.mpr c3
 by_cases c4 : (Int.tmod a0 a1) < 0
 ·rw [if_pos c4] at H
  have c4b0 : decide ((Int.tmod a0 a1) < 0) = true := decide_eq_true c4
  clear c4
  obtain rfl := Option.some.inj H
  go_enter Try.func52, Try.ntmps52
  go_wp2
  go_ret
  exact ⟨by first | rfl | (simp; done) | (simp [*]; done), by repeat (first | exact Drawn0.refl _ | apply Drawn0.step)⟩
 rw [if_neg c4] at H
 have c4b0 : decide ((Int.tmod a0 a1) < 0) = false := decide_eq_false c4
 clear c4
 obtain rfl := Option.some.inj H
 go_enter Try.func52, Try.ntmps52
 go_wp2
 go_ret
 exact ⟨by first | rfl | (simp; done) | (simp [*]; done), by repeat (first | exact Drawn0.refl _ | apply Drawn0.step)⟩

/-! ### sorts_Cost: function 56 -/
def sorts_Cost.f (l0_0 : List Int) (a0_1 : Int) (a1 : Int) (l2 : List (S49)) : Option (Int) := if Srt.okP l0_0 a1 = true ∧ Srt.okC (Srt.toEds S49.f0 S49.f1 S49.f2 l2) = true then some (Srt.costP (Srt.scanC l0_0 a1) (Srt.sortC l0_0 a1) (Srt.toEds S49.f0 S49.f1 S49.f2 l2)) else none
theorem sorts_Cost.calls (A0_0 : Option Addr) (c0_0 : Nat) (l0_0 : List Int) (a0_1 : Int) (a1 : Int) (A2 : Option Addr) (c2 : Nat) (l2 : List (S49)) (r : Int) (w : World) (hr0_0 : Kd.C (Kd.int .i64) w A0_0 l0_0.length l0_0) (hc0_0 : l0_0.length ≤ c0_0) (hr2 : Kd.C k49 w A2 l2.length l2) (hc2 : l2.length ≤ c2) (h : sorts_Cost.f l0_0 a0_1 a1 l2 = some r) :
 Calls Try.prog 56 #[.agg #[.slice A0_0 l0_0.length c0_0, .int .i64 a0_1], .int .i64 a1, .slice A2 l2.length c2] w fun e w' => e = .returned (.int .i64 r) ∧ Below w.heap.size w w' := by
 unfold sorts_Cost.f at h
 by_cases hh : Srt.okP l0_0 a1 = true ∧ Srt.okC (Srt.toEds S49.f0 S49.f1 S49.f2 l2) = true
 rotate_left
 ·rw [if_neg hh] at h; cases h
 rw [if_pos hh] at h
 obtain rfl := Option.some.inj h
 exact Srt.cost_K k49 rfl z49 S49.f0 S49.f1 S49.f2 (fun w x cs h => k49_open h) A0_0 c0_0 l0_0 a0_1 a1 A2 c2 l2 w hr0_0 hr2 hh.1 hh.2

end Go.Proofs.Ytlplaidcdocbmaa.PSortsKnown
