-- Cut by pack.py, a program of this session; not trusted: Lean checks it.
import Derived.Test.YtlplaidcdocbmaaZPSortsOrdersx0
import Derived.Test.YtlplaidcdocbmaaZPSortsOrdersx1
namespace Go.Proofs.Ytlplaidcdocbmaa.PSortsOrders
open Go.RowKit Go.Proofs.YtlplaidcdocbmaaW.PrintWords Go.Proofs.YtlplaidcdocbmaaW.PrintLast Go.Proofs.YtlplaidcdocbmaaW.PrintMore
private theorem od_ {p : Prop} [Decidable p] (h : decide p = true := by first | (with_reducible assumption) | assumption) : p := of_decide_eq_true h
attribute [local go_sem] max2_int min2_int max_two min_two max_three min_three max_four min_four   -- for this text's walks alone
set_option linter.unusedVariables false
set_option linter.unusedSimpArgs false

/-! ### hypercubelaw10_known: function 51 -/
def hypercubelaw10_known.f  : Option (Bool) := (sorts_Plan.f (([3] : List Int)) 0 5).bind fun t150 => (if (t150.length : Int) = 2 then (if 0 < (t150.length : Int) then (if ((rd_T49 t150 0).f0) = 1 then (if ((rd_T49 t150 0).f1) = (-1) then (if 1 < (t150.length : Int) then (if ((rd_T49 t150 1).f1) = 1 then (if (rd_T49 t150 1).f2 = true then ((sorts_Right.f t150 1).bind fun t157 => (some t157)) else (some false)) else (some false)) else (none)) else (some false)) else (some false)) else (none)) else (some false))
set_option maxHeartbeats 8000000 in
set_option maxRecDepth 100000 in
theorem hypercubelaw10_known.calls  (r : Bool) (w : World) (h : hypercubelaw10_known.f  = some r) :
 Calls Try.prog 51 #[] w fun e w' => e = .returned (.bool r) ∧ Below w.heap.size w w' := by
 have hu33 := Try.underlying33
 have HB := Aside0.mk (Below.refl w.heap.size w)
 have H : ((sorts_Plan.f (([3] : List Int)) 0 5).bind fun t150 => (if (t150.length : Int) = 2 then (if 0 < (t150.length : Int) then (if ((rd_T49 t150 0).f0) = 1 then (if ((rd_T49 t150 0).f1) = (-1) then (if 1 < (t150.length : Int) then (if ((rd_T49 t150 1).f1) = 1 then (if (rd_T49 t150 1).f2 = true then ((sorts_Right.f t150 1).bind fun t157 => (some t157)) else (some false)) else (some false)) else (none)) else (some false)) else (some false)) else (none)) else (some false))) = some r := h
 clear h
 obtain ⟨y147, hy147⟩ : ∃ y_ : List Int, y_ = (([3] : List Int)) := ⟨_, rfl⟩
 replace H : ((sorts_Plan.f y147 0 5).bind fun t150 => (if (t150.length : Int) = 2 then (if 0 < (t150.length : Int) then (if ((rd_T49 t150 0).f0) = 1 then (if ((rd_T49 t150 0).f1) = (-1) then (if 1 < (t150.length : Int) then (if ((rd_T49 t150 1).f1) = 1 then (if (rd_T49 t150 1).f2 = true then ((sorts_Right.f t150 1).bind fun t157 => (some t157)) else (some false)) else (some false)) else (none)) else (some false)) else (some false)) else (none)) else (some false))) = some r := by first | (rw [hy147]; with_reducible exact H) | (have H2_ := (Option.bind_some _ _).symm.trans H; rw [hy147]; with_reducible exact H2_) | (have H2_ := (Option.bind_some _ _).symm.trans H; with_reducible exact H2_) | with_reducible exact H | (rw [hy147]; exact H) | exact H
 have Ny147 := Aside0.mk hy147
 clear hy147
 replace H := Option.bind_eq_some_iff.mp H
 obtain ⟨t150, A10, H⟩ := H
 replace H : (if (t150.length : Int) = 2 then (if 0 < (t150.length : Int) then (if ((rd_T49 t150 0).f0) = 1 then (if ((rd_T49 t150 0).f1) = (-1) then (if 1 < (t150.length : Int) then (if ((rd_T49 t150 1).f1) = 1 then (if (rd_T49 t150 1).f2 = true then ((sorts_Right.f t150 1).bind fun t157 => (some t157)) else (some false)) else (some false)) else (none)) else (some false)) else (some false)) else (none)) else (some false)) = some r := H
 have A1 := Aside0.mk A10
 clear A10
 by_cases c2 : (t150.length : Int) = 2
 rotate_left
 ·rw [if_neg c2] at H
  have c2b0 : ((t150.length : Int) == 2) = false := beq_eq_false_iff_ne.mpr c2
  have c2b1 : ((t150.length : Int) != 2) = true := bne_iff_ne.mpr c2
  obtain rfl := Option.some.inj H
  go_enter Try.func51, Try.ntmps51
  go_wp2_with (first | ((with_reducible refine gate_dst (N := 2) rfl ?_); refine Kd.R_lit (Kd.int .i64) _ 3 ?hg (N := 2) ?hd (xs := ([3] : List Int)) (inner := [.int .i64 3]) (ok := fun _ => True) (okp := fun _ => True) ?hr ?hp (fun _ hk => hk) trivial (Below.refl _ _) (Nat.le_refl _) (by simp) ?_; (case hd => rfl); (case hg => rfl); (case hr => first | (go_simp; done) | (go_simp; rfl)); (case hp => exact (Reps.one (show Kd.M (Kd.int .i64) _ _ _ 3 [.int .i64 3] from rfl) (Reps.none _ _))); intro v148 w37 ho38 hb hg_ hnew_; clear hg_ hnew_; (first | rw [← Ny147.out] at ho38 | (simp only [Int.reduceToNat] at ho38; rw [← Ny147.out] at ho38)); have n0_ := Aside0.mk (Kd.R_lower ho38 (below_size (by repeat (first | (with_reducible first | exact HB.out | apply below_alloc | apply pw_below_drewN | apply below_drew1) | exact HB.out)))); have n1_ := Aside0.mk (below_step (by repeat (first | (with_reducible first | exact HB.out | apply below_alloc | apply pw_below_drewN | apply below_drew1) | exact HB.out)) hb); clear HB; have HO149 := n0_; have HB := n1_; clear n0_ n1_; clear hb ho38; obtain ⟨Ao39, co39, eo39⟩ := Kd.R_slice HO149.out; subst eo39) | ((with_reducible refine gate_callee (f := 55) rfl ?_); refine goesL_ (some 4) rfl rfl Try.func55 (by kernel_rfl) rfl #[.agg #[.slice Ao39 y147.length co39, .int .i64 0], .int .i64 5] rfl (by (try simp only [List.map_toArray, List.map_cons, List.map_nil]); first | done | rfl | (simp only [List.length_drop, List.length_take]; rfl)) ?_; (with_reducible refine (sorts_Plan.calls _ _ y147 0 5 t150 _ ?side1 ?side2 A1.out).mono ?_); (case side1 => repeat (first | exact (Kd.R_reads' HO149.out).2.2 | (with_reducible refine Kd.C_alloc ?_ _) | (with_reducible refine Kd.C_drewN ?_ _) | (with_reducible refine Kd.C_drew ?_))); (case side2 => exact (Kd.R_reads' HO149.out).2.1); rintro e w40 ⟨v151, rfl, ho0, hb⟩; refine ⟨_, rfl, ?_⟩; have n0_ := Aside0.mk (Kd.R_below (by (with_reducible repeat (first | apply Kd.R_alloc | apply Kd.R_drewN | apply Kd.R_drew)); exact HO149.out) hb); have n1_ := Aside0.mk (Kd.R_lower ho0 (below_size (by repeat (first | (with_reducible first | exact HB.out | apply below_alloc | apply pw_below_drewN | apply below_drew1) | exact HB.out)))); have n2_ := Aside0.mk (below_step (by repeat (first | (with_reducible first | exact HB.out | apply below_alloc | apply pw_below_drewN | apply below_drew1) | exact HB.out)) hb); clear HO149; clear HB; have HO149 := n0_; have HO152 := n1_; have HB := n2_; clear n0_ n1_ n2_; (try clear hb); (try clear hb2); (try clear hk); (try clear hi); (try clear ho0); obtain ⟨Ao41, co41, eo41⟩ := Kd.R_slice HO152.out; subst eo41))
  go_ret
  exact ⟨by first | rfl | (simp [errW_none, errW_some] <;> rfl) | (simp [*, errW_none, errW_some] <;> rfl), by repeat (first | (with_reducible first | exact HB.out | apply below_alloc | apply pw_below_drewN | apply below_drew1) | exact HB.out)⟩
 rw [if_pos c2] at H
 have c2b0 : ((t150.length : Int) == 2) = true := beq_iff_eq.mpr c2
 have c2b1 : ((t150.length : Int) != 2) = false := bne_eq_false_iff_eq.mpr c2
 clear c2
 by_cases c3 : 0 < (t150.length : Int)
 rotate_left
 ·rw [if_neg c3] at H
  exact absurd H (by simp)
 rw [if_pos c3] at H
 have c3b0 : decide (0 < (t150.length : Int)) = true := decide_eq_true c3
 have c3b1 : decide (0 < t150.length) = true := decide_eq_true (by omega)
 clear c3
 by_cases c4 : ((rd_T49 t150 0).f0) = 1
 rotate_left
 ·rw [if_neg c4] at H
  have c4b0 : (((rd_T49 t150 0).f0) == 1) = false := beq_eq_false_iff_ne.mpr c4
  have c4b1 : (((rd_T49 t150 0).f0) != 1) = true := bne_iff_ne.mpr c4
  obtain rfl := Option.some.inj H
  go_enter Try.func51, Try.ntmps51
  go_wp2_with (first | ((with_reducible refine gate_dst (N := 2) rfl ?_); refine Kd.R_lit (Kd.int .i64) _ 3 ?hg (N := 2) ?hd (xs := ([3] : List Int)) (inner := [.int .i64 3]) (ok := fun _ => True) (okp := fun _ => True) ?hr ?hp (fun _ hk => hk) trivial (Below.refl _ _) (Nat.le_refl _) (by simp) ?_; (case hd => rfl); (case hg => rfl); (case hr => first | (go_simp; done) | (go_simp; rfl)); (case hp => exact (Reps.one (show Kd.M (Kd.int .i64) _ _ _ 3 [.int .i64 3] from rfl) (Reps.none _ _))); intro v148 w32 ho33 hb hg_ hnew_; clear hg_ hnew_; (first | rw [← Ny147.out] at ho33 | (simp only [Int.reduceToNat] at ho33; rw [← Ny147.out] at ho33)); have n0_ := Aside0.mk (Kd.R_lower ho33 (below_size (by repeat (first | (with_reducible first | exact HB.out | apply below_alloc | apply pw_below_drewN | apply below_drew1) | exact HB.out)))); have n1_ := Aside0.mk (below_step (by repeat (first | (with_reducible first | exact HB.out | apply below_alloc | apply pw_below_drewN | apply below_drew1) | exact HB.out)) hb); clear HB; have HO149 := n0_; have HB := n1_; clear n0_ n1_; clear hb ho33; obtain ⟨Ao34, co34, eo34⟩ := Kd.R_slice HO149.out; subst eo34) | ((with_reducible refine gate_callee (f := 55) rfl ?_); refine goesL_ (some 4) rfl rfl Try.func55 (by kernel_rfl) rfl #[.agg #[.slice Ao34 y147.length co34, .int .i64 0], .int .i64 5] rfl (by (try simp only [List.map_toArray, List.map_cons, List.map_nil]); first | done | rfl | (simp only [List.length_drop, List.length_take]; rfl)) ?_; (with_reducible refine (sorts_Plan.calls _ _ y147 0 5 t150 _ ?side1 ?side2 A1.out).mono ?_); (case side1 => repeat (first | exact (Kd.R_reads' HO149.out).2.2 | (with_reducible refine Kd.C_alloc ?_ _) | (with_reducible refine Kd.C_drewN ?_ _) | (with_reducible refine Kd.C_drew ?_))); (case side2 => exact (Kd.R_reads' HO149.out).2.1); rintro e w35 ⟨v151, rfl, ho0, hb⟩; refine ⟨_, rfl, ?_⟩; have n0_ := Aside0.mk (Kd.R_below (by (with_reducible repeat (first | apply Kd.R_alloc | apply Kd.R_drewN | apply Kd.R_drew)); exact HO149.out) hb); have n1_ := Aside0.mk (Kd.R_lower ho0 (below_size (by repeat (first | (with_reducible first | exact HB.out | apply below_alloc | apply pw_below_drewN | apply below_drew1) | exact HB.out)))); have n2_ := Aside0.mk (below_step (by repeat (first | (with_reducible first | exact HB.out | apply below_alloc | apply pw_below_drewN | apply below_drew1) | exact HB.out)) hb); clear HO149; clear HB; have HO149 := n0_; have HO152 := n1_; have HB := n2_; clear n0_ n1_ n2_; (try clear hb); (try clear hb2); (try clear hk); (try clear hi); (try clear ho0); obtain ⟨Ao36, co36, eo36⟩ := Kd.R_slice HO152.out; subst eo36; have p153 : 0 ≤ (0 : Int) := (by omega); have q153 : 0 < (t150.length : Int) := of_decide_eq_true (by first | (with_reducible assumption) | assumption); obtain ⟨ad153, e153, hx153_0, hx153_1, hx153_2⟩ := at_T49 (Kd.R_reads' HO152.out).2.2 0 p153 q153; cases e153; have qi153 : (0 < t150.length) = True := eq_true (by omega); (try rw [show ((0 : Int)).toNat = 0 from rfl] at hx153_0); (try rw [show 0 * 3 = 0 from rfl] at hx153_0); (try rw [Addr.add_zero'] at hx153_0); (try rw [show ((0 : Int)).toNat = 0 from rfl] at hx153_1); (try rw [show 0 * 3 = 0 from rfl] at hx153_1); (try rw [Addr.add_zero'] at hx153_1); (try rw [show ((0 : Int)).toNat = 0 from rfl] at hx153_2); (try rw [show 0 * 3 = 0 from rfl] at hx153_2); (try rw [Addr.add_zero'] at hx153_2); replace p153 := eq_true p153; replace q153 := eq_true q153))
  go_ret
  exact ⟨by first | rfl | (simp [errW_none, errW_some] <;> rfl) | (simp [*, errW_none, errW_some] <;> rfl), by repeat (first | (with_reducible first | exact HB.out | apply below_alloc | apply pw_below_drewN | apply below_drew1) | exact HB.out)⟩
 rw [if_pos c4] at H
 have c4b0 : (((rd_T49 t150 0).f0) == 1) = true := beq_iff_eq.mpr c4
 have c4b1 : (((rd_T49 t150 0).f0) != 1) = false := bne_eq_false_iff_eq.mpr c4
 clear c4
 by_cases c5 : ((rd_T49 t150 0).f1) = (-1)
 rotate_left
 ·rw [if_neg c5] at H
  have c5b0 : (((rd_T49 t150 0).f1) == (-1)) = false := beq_eq_false_iff_ne.mpr c5
  have c5b1 : (((rd_T49 t150 0).f1) != (-1)) = true := bne_iff_ne.mpr c5
  obtain rfl := Option.some.inj H
  go_enter Try.func51, Try.ntmps51
  go_wp2_with (first | ((with_reducible refine gate_dst (N := 2) rfl ?_); refine Kd.R_lit (Kd.int .i64) _ 3 ?hg (N := 2) ?hd (xs := ([3] : List Int)) (inner := [.int .i64 3]) (ok := fun _ => True) (okp := fun _ => True) ?hr ?hp (fun _ hk => hk) trivial (Below.refl _ _) (Nat.le_refl _) (by simp) ?_; (case hd => rfl); (case hg => rfl); (case hr => first | (go_simp; done) | (go_simp; rfl)); (case hp => exact (Reps.one (show Kd.M (Kd.int .i64) _ _ _ 3 [.int .i64 3] from rfl) (Reps.none _ _))); intro v148 w27 ho28 hb hg_ hnew_; clear hg_ hnew_; (first | rw [← Ny147.out] at ho28 | (simp only [Int.reduceToNat] at ho28; rw [← Ny147.out] at ho28)); have n0_ := Aside0.mk (Kd.R_lower ho28 (below_size (by repeat (first | (with_reducible first | exact HB.out | apply below_alloc | apply pw_below_drewN | apply below_drew1) | exact HB.out)))); have n1_ := Aside0.mk (below_step (by repeat (first | (with_reducible first | exact HB.out | apply below_alloc | apply pw_below_drewN | apply below_drew1) | exact HB.out)) hb); clear HB; have HO149 := n0_; have HB := n1_; clear n0_ n1_; clear hb ho28; obtain ⟨Ao29, co29, eo29⟩ := Kd.R_slice HO149.out; subst eo29) | ((with_reducible refine gate_callee (f := 55) rfl ?_); refine goesL_ (some 4) rfl rfl Try.func55 (by kernel_rfl) rfl #[.agg #[.slice Ao29 y147.length co29, .int .i64 0], .int .i64 5] rfl (by (try simp only [List.map_toArray, List.map_cons, List.map_nil]); first | done | rfl | (simp only [List.length_drop, List.length_take]; rfl)) ?_; (with_reducible refine (sorts_Plan.calls _ _ y147 0 5 t150 _ ?side1 ?side2 A1.out).mono ?_); (case side1 => repeat (first | exact (Kd.R_reads' HO149.out).2.2 | (with_reducible refine Kd.C_alloc ?_ _) | (with_reducible refine Kd.C_drewN ?_ _) | (with_reducible refine Kd.C_drew ?_))); (case side2 => exact (Kd.R_reads' HO149.out).2.1); rintro e w30 ⟨v151, rfl, ho0, hb⟩; refine ⟨_, rfl, ?_⟩; have n0_ := Aside0.mk (Kd.R_below (by (with_reducible repeat (first | apply Kd.R_alloc | apply Kd.R_drewN | apply Kd.R_drew)); exact HO149.out) hb); have n1_ := Aside0.mk (Kd.R_lower ho0 (below_size (by repeat (first | (with_reducible first | exact HB.out | apply below_alloc | apply pw_below_drewN | apply below_drew1) | exact HB.out)))); have n2_ := Aside0.mk (below_step (by repeat (first | (with_reducible first | exact HB.out | apply below_alloc | apply pw_below_drewN | apply below_drew1) | exact HB.out)) hb); clear HO149; clear HB; have HO149 := n0_; have HO152 := n1_; have HB := n2_; clear n0_ n1_ n2_; (try clear hb); (try clear hb2); (try clear hk); (try clear hi); (try clear ho0); obtain ⟨Ao31, co31, eo31⟩ := Kd.R_slice HO152.out; subst eo31; have p153 : 0 ≤ (0 : Int) := (by omega); have q153 : 0 < (t150.length : Int) := of_decide_eq_true (by first | (with_reducible assumption) | assumption); obtain ⟨ad153, e153, hx153_0, hx153_1, hx153_2⟩ := at_T49 (Kd.R_reads' HO152.out).2.2 0 p153 q153; cases e153; have qi153 : (0 < t150.length) = True := eq_true (by omega); (try rw [show ((0 : Int)).toNat = 0 from rfl] at hx153_0); (try rw [show 0 * 3 = 0 from rfl] at hx153_0); (try rw [Addr.add_zero'] at hx153_0); (try rw [show ((0 : Int)).toNat = 0 from rfl] at hx153_1); (try rw [show 0 * 3 = 0 from rfl] at hx153_1); (try rw [Addr.add_zero'] at hx153_1); (try rw [show ((0 : Int)).toNat = 0 from rfl] at hx153_2); (try rw [show 0 * 3 = 0 from rfl] at hx153_2); (try rw [Addr.add_zero'] at hx153_2); replace p153 := eq_true p153; replace q153 := eq_true q153; have p154 : 0 ≤ (0 : Int) := (by omega); have q154 : 0 < (t150.length : Int) := of_decide_eq_true (by first | (with_reducible assumption) | assumption); obtain ⟨ad154, e154, hx154_0, hx154_1, hx154_2⟩ := at_T49 (Kd.R_reads' HO152.out).2.2 0 p154 q154; obtain rfl : ad153 = ad154 := (by injection e154); have qi154 : (0 < t150.length) = True := eq_true (by omega); (try rw [show ((0 : Int)).toNat = 0 from rfl] at hx154_0); (try rw [show 0 * 3 = 0 from rfl] at hx154_0); (try rw [Addr.add_zero'] at hx154_0); (try rw [show ((0 : Int)).toNat = 0 from rfl] at hx154_1); (try rw [show 0 * 3 = 0 from rfl] at hx154_1); (try rw [Addr.add_zero'] at hx154_1); (try rw [show ((0 : Int)).toNat = 0 from rfl] at hx154_2); (try rw [show 0 * 3 = 0 from rfl] at hx154_2); (try rw [Addr.add_zero'] at hx154_2); replace p154 := eq_true p154; replace q154 := eq_true q154))
  go_ret
  exact ⟨by first | rfl | (simp [errW_none, errW_some] <;> rfl) | (simp [*, errW_none, errW_some] <;> rfl), by repeat (first | (with_reducible first | exact HB.out | apply below_alloc | apply pw_below_drewN | apply below_drew1) | exact HB.out)⟩
 rw [if_pos c5] at H
 have c5b0 : (((rd_T49 t150 0).f1) == (-1)) = true := beq_iff_eq.mpr c5
 have c5b1 : (((rd_T49 t150 0).f1) != (-1)) = false := bne_eq_false_iff_eq.mpr c5
 clear c5
 by_cases c6 : 1 < (t150.length : Int)
 rotate_left
 ·rw [if_neg c6] at H
  exact absurd H (by simp)
 rw [if_pos c6] at H
 have c6b0 : decide (1 < (t150.length : Int)) = true := decide_eq_true c6
 have c6b1 : decide (1 < t150.length) = true := decide_eq_true (by omega)
 clear c6
 by_cases c7 : ((rd_T49 t150 1).f1) = 1
 rotate_left
 ·rw [if_neg c7] at H
  have c7b0 : (((rd_T49 t150 1).f1) == 1) = false := beq_eq_false_iff_ne.mpr c7
  have c7b1 : (((rd_T49 t150 1).f1) != 1) = true := bne_iff_ne.mpr c7
  obtain rfl := Option.some.inj H
  go_enter Try.func51, Try.ntmps51
  go_wp2_with (first | ((with_reducible refine gate_dst (N := 2) rfl ?_); refine Kd.R_lit (Kd.int .i64) _ 3 ?hg (N := 2) ?hd (xs := ([3] : List Int)) (inner := [.int .i64 3]) (ok := fun _ => True) (okp := fun _ => True) ?hr ?hp (fun _ hk => hk) trivial (Below.refl _ _) (Nat.le_refl _) (by simp) ?_; (case hd => rfl); (case hg => rfl); (case hr => first | (go_simp; done) | (go_simp; rfl)); (case hp => exact (Reps.one (show Kd.M (Kd.int .i64) _ _ _ 3 [.int .i64 3] from rfl) (Reps.none _ _))); intro v148 w22 ho23 hb hg_ hnew_; clear hg_ hnew_; (first | rw [← Ny147.out] at ho23 | (simp only [Int.reduceToNat] at ho23; rw [← Ny147.out] at ho23)); have n0_ := Aside0.mk (Kd.R_lower ho23 (below_size (by repeat (first | (with_reducible first | exact HB.out | apply below_alloc | apply pw_below_drewN | apply below_drew1) | exact HB.out)))); have n1_ := Aside0.mk (below_step (by repeat (first | (with_reducible first | exact HB.out | apply below_alloc | apply pw_below_drewN | apply below_drew1) | exact HB.out)) hb); clear HB; have HO149 := n0_; have HB := n1_; clear n0_ n1_; clear hb ho23; obtain ⟨Ao24, co24, eo24⟩ := Kd.R_slice HO149.out; subst eo24) | ((with_reducible refine gate_callee (f := 55) rfl ?_); refine goesL_ (some 4) rfl rfl Try.func55 (by kernel_rfl) rfl #[.agg #[.slice Ao24 y147.length co24, .int .i64 0], .int .i64 5] rfl (by (try simp only [List.map_toArray, List.map_cons, List.map_nil]); first | done | rfl | (simp only [List.length_drop, List.length_take]; rfl)) ?_; (with_reducible refine (sorts_Plan.calls _ _ y147 0 5 t150 _ ?side1 ?side2 A1.out).mono ?_); (case side1 => repeat (first | exact (Kd.R_reads' HO149.out).2.2 | (with_reducible refine Kd.C_alloc ?_ _) | (with_reducible refine Kd.C_drewN ?_ _) | (with_reducible refine Kd.C_drew ?_))); (case side2 => exact (Kd.R_reads' HO149.out).2.1); rintro e w25 ⟨v151, rfl, ho0, hb⟩; refine ⟨_, rfl, ?_⟩; have n0_ := Aside0.mk (Kd.R_below (by (with_reducible repeat (first | apply Kd.R_alloc | apply Kd.R_drewN | apply Kd.R_drew)); exact HO149.out) hb); have n1_ := Aside0.mk (Kd.R_lower ho0 (below_size (by repeat (first | (with_reducible first | exact HB.out | apply below_alloc | apply pw_below_drewN | apply below_drew1) | exact HB.out)))); have n2_ := Aside0.mk (below_step (by repeat (first | (with_reducible first | exact HB.out | apply below_alloc | apply pw_below_drewN | apply below_drew1) | exact HB.out)) hb); clear HO149; clear HB; have HO149 := n0_; have HO152 := n1_; have HB := n2_; clear n0_ n1_ n2_; (try clear hb); (try clear hb2); (try clear hk); (try clear hi); (try clear ho0); obtain ⟨Ao26, co26, eo26⟩ := Kd.R_slice HO152.out; subst eo26; have p153 : 0 ≤ (0 : Int) := (by omega); have q153 : 0 < (t150.length : Int) := of_decide_eq_true (by first | (with_reducible assumption) | assumption); obtain ⟨ad153, e153, hx153_0, hx153_1, hx153_2⟩ := at_T49 (Kd.R_reads' HO152.out).2.2 0 p153 q153; cases e153; have qi153 : (0 < t150.length) = True := eq_true (by omega); (try rw [show ((0 : Int)).toNat = 0 from rfl] at hx153_0); (try rw [show 0 * 3 = 0 from rfl] at hx153_0); (try rw [Addr.add_zero'] at hx153_0); (try rw [show ((0 : Int)).toNat = 0 from rfl] at hx153_1); (try rw [show 0 * 3 = 0 from rfl] at hx153_1); (try rw [Addr.add_zero'] at hx153_1); (try rw [show ((0 : Int)).toNat = 0 from rfl] at hx153_2); (try rw [show 0 * 3 = 0 from rfl] at hx153_2); (try rw [Addr.add_zero'] at hx153_2); replace p153 := eq_true p153; replace q153 := eq_true q153; have p154 : 0 ≤ (0 : Int) := (by omega); have q154 : 0 < (t150.length : Int) := of_decide_eq_true (by first | (with_reducible assumption) | assumption); obtain ⟨ad154, e154, hx154_0, hx154_1, hx154_2⟩ := at_T49 (Kd.R_reads' HO152.out).2.2 0 p154 q154; obtain rfl : ad153 = ad154 := (by injection e154); have qi154 : (0 < t150.length) = True := eq_true (by omega); (try rw [show ((0 : Int)).toNat = 0 from rfl] at hx154_0); (try rw [show 0 * 3 = 0 from rfl] at hx154_0); (try rw [Addr.add_zero'] at hx154_0); (try rw [show ((0 : Int)).toNat = 0 from rfl] at hx154_1); (try rw [show 0 * 3 = 0 from rfl] at hx154_1); (try rw [Addr.add_zero'] at hx154_1); (try rw [show ((0 : Int)).toNat = 0 from rfl] at hx154_2); (try rw [show 0 * 3 = 0 from rfl] at hx154_2); (try rw [Addr.add_zero'] at hx154_2); replace p154 := eq_true p154; replace q154 := eq_true q154; have p155 : 0 ≤ (1 : Int) := (by omega); have q155 : 1 < (t150.length : Int) := of_decide_eq_true (by first | (with_reducible assumption) | assumption); obtain ⟨ad155, e155, hx155_0, hx155_1, hx155_2⟩ := at_T49 (Kd.R_reads' HO152.out).2.2 1 p155 q155; obtain rfl : ad153 = ad155 := (by injection e155); (try simp only [show (1 : Int).toNat = 1 from rfl, Nat.reduceMul, Nat.reduceEqDiff, Go.Addr.add, ↓reduceIte] at hx155_0); (try simp only [show (1 : Int).toNat = 1 from rfl, Nat.reduceMul, Nat.reduceEqDiff, Go.Addr.add, ↓reduceIte] at hx155_1); (try simp only [show (1 : Int).toNat = 1 from rfl, Nat.reduceMul, Nat.reduceEqDiff, Go.Addr.add, ↓reduceIte] at hx155_2); have qi155 : (1 < t150.length) = True := eq_true (by omega); (try rw [show ((1 : Int)).toNat = 1 from rfl] at hx155_0); (try rw [show 1 * 3 = 3 from rfl] at hx155_0); (try rw [show ((1 : Int)).toNat = 1 from rfl] at hx155_1); (try rw [show 1 * 3 = 3 from rfl] at hx155_1); (try rw [show ((1 : Int)).toNat = 1 from rfl] at hx155_2); (try rw [show 1 * 3 = 3 from rfl] at hx155_2); replace p155 := eq_true p155; replace q155 := eq_true q155))
  go_ret
  exact ⟨by first | rfl | (simp [errW_none, errW_some] <;> rfl) | (simp [*, errW_none, errW_some] <;> rfl), by repeat (first | (with_reducible first | exact HB.out | apply below_alloc | apply pw_below_drewN | apply below_drew1) | exact HB.out)⟩
 rw [if_pos c7] at H
 have c7b0 : (((rd_T49 t150 1).f1) == 1) = true := beq_iff_eq.mpr c7
 have c7b1 : (((rd_T49 t150 1).f1) != 1) = false := bne_eq_false_iff_eq.mpr c7
 clear c7
 obtain ⟨bq8, hbq8⟩ : ∃ b_ : Bool, b_ = ((rd_T49 t150 1).f2) := ⟨_, rfl⟩
 replace H : (if bq8 = true then ((sorts_Right.f t150 1).bind fun t157 => (some t157)) else (some false)) = some r := by rw [← hbq8] at H; exact H
 have Nbq8 := Aside0.mk hbq8
 clear hbq8
 by_cases c9 : bq8 = true
 rotate_left
 ·replace c9 := Bool.eq_false_iff.mpr c9
  subst c9
  have H1 : (some false) = some r := by rw [if_neg (show ¬ (false = true) by decide)] at H; exact H
  clear H
  have H := H1
  clear H1
  obtain rfl := Option.some.inj H
  go_enter Try.func51, Try.ntmps51
  go_wp2_with (first | ((with_reducible refine gate_dst (N := 2) rfl ?_); refine Kd.R_lit (Kd.int .i64) _ 3 ?hg (N := 2) ?hd (xs := ([3] : List Int)) (inner := [.int .i64 3]) (ok := fun _ => True) (okp := fun _ => True) ?hr ?hp (fun _ hk => hk) trivial (Below.refl _ _) (Nat.le_refl _) (by simp) ?_; (case hd => rfl); (case hg => rfl); (case hr => first | (go_simp; done) | (go_simp; rfl)); (case hp => exact (Reps.one (show Kd.M (Kd.int .i64) _ _ _ 3 [.int .i64 3] from rfl) (Reps.none _ _))); intro v148 w17 ho18 hb hg_ hnew_; clear hg_ hnew_; (first | rw [← Ny147.out] at ho18 | (simp only [Int.reduceToNat] at ho18; rw [← Ny147.out] at ho18)); have n0_ := Aside0.mk (Kd.R_lower ho18 (below_size (by repeat (first | (with_reducible first | exact HB.out | apply below_alloc | apply pw_below_drewN | apply below_drew1) | exact HB.out)))); have n1_ := Aside0.mk (below_step (by repeat (first | (with_reducible first | exact HB.out | apply below_alloc | apply pw_below_drewN | apply below_drew1) | exact HB.out)) hb); clear HB; have HO149 := n0_; have HB := n1_; clear n0_ n1_; clear hb ho18; obtain ⟨Ao19, co19, eo19⟩ := Kd.R_slice HO149.out; subst eo19) | ((with_reducible refine gate_callee (f := 55) rfl ?_); refine goesL_ (some 4) rfl rfl Try.func55 (by kernel_rfl) rfl #[.agg #[.slice Ao19 y147.length co19, .int .i64 0], .int .i64 5] rfl (by (try simp only [List.map_toArray, List.map_cons, List.map_nil]); first | done | rfl | (simp only [List.length_drop, List.length_take]; rfl)) ?_; (with_reducible refine (sorts_Plan.calls _ _ y147 0 5 t150 _ ?side1 ?side2 A1.out).mono ?_); (case side1 => repeat (first | exact (Kd.R_reads' HO149.out).2.2 | (with_reducible refine Kd.C_alloc ?_ _) | (with_reducible refine Kd.C_drewN ?_ _) | (with_reducible refine Kd.C_drew ?_))); (case side2 => exact (Kd.R_reads' HO149.out).2.1); rintro e w20 ⟨v151, rfl, ho0, hb⟩; refine ⟨_, rfl, ?_⟩; have n0_ := Aside0.mk (Kd.R_below (by (with_reducible repeat (first | apply Kd.R_alloc | apply Kd.R_drewN | apply Kd.R_drew)); exact HO149.out) hb); have n1_ := Aside0.mk (Kd.R_lower ho0 (below_size (by repeat (first | (with_reducible first | exact HB.out | apply below_alloc | apply pw_below_drewN | apply below_drew1) | exact HB.out)))); have n2_ := Aside0.mk (below_step (by repeat (first | (with_reducible first | exact HB.out | apply below_alloc | apply pw_below_drewN | apply below_drew1) | exact HB.out)) hb); clear HO149; clear HB; have HO149 := n0_; have HO152 := n1_; have HB := n2_; clear n0_ n1_ n2_; (try clear hb); (try clear hb2); (try clear hk); (try clear hi); (try clear ho0); obtain ⟨Ao21, co21, eo21⟩ := Kd.R_slice HO152.out; subst eo21; have p153 : 0 ≤ (0 : Int) := (by omega); have q153 : 0 < (t150.length : Int) := of_decide_eq_true (by first | (with_reducible assumption) | assumption); obtain ⟨ad153, e153, hx153_0, hx153_1, hx153_2⟩ := at_T49 (Kd.R_reads' HO152.out).2.2 0 p153 q153; (try rw [← Nbq8.out] at hx153_2); cases e153; have qi153 : (0 < t150.length) = True := eq_true (by omega); (try rw [show ((0 : Int)).toNat = 0 from rfl] at hx153_0); (try rw [show 0 * 3 = 0 from rfl] at hx153_0); (try rw [Addr.add_zero'] at hx153_0); (try rw [show ((0 : Int)).toNat = 0 from rfl] at hx153_1); (try rw [show 0 * 3 = 0 from rfl] at hx153_1); (try rw [Addr.add_zero'] at hx153_1); (try rw [show ((0 : Int)).toNat = 0 from rfl] at hx153_2); (try rw [show 0 * 3 = 0 from rfl] at hx153_2); (try rw [Addr.add_zero'] at hx153_2); replace p153 := eq_true p153; replace q153 := eq_true q153; have p154 : 0 ≤ (0 : Int) := (by omega); have q154 : 0 < (t150.length : Int) := of_decide_eq_true (by first | (with_reducible assumption) | assumption); obtain ⟨ad154, e154, hx154_0, hx154_1, hx154_2⟩ := at_T49 (Kd.R_reads' HO152.out).2.2 0 p154 q154; (try rw [← Nbq8.out] at hx154_2); obtain rfl : ad153 = ad154 := (by injection e154); have qi154 : (0 < t150.length) = True := eq_true (by omega); (try rw [show ((0 : Int)).toNat = 0 from rfl] at hx154_0); (try rw [show 0 * 3 = 0 from rfl] at hx154_0); (try rw [Addr.add_zero'] at hx154_0); (try rw [show ((0 : Int)).toNat = 0 from rfl] at hx154_1); (try rw [show 0 * 3 = 0 from rfl] at hx154_1); (try rw [Addr.add_zero'] at hx154_1); (try rw [show ((0 : Int)).toNat = 0 from rfl] at hx154_2); (try rw [show 0 * 3 = 0 from rfl] at hx154_2); (try rw [Addr.add_zero'] at hx154_2); replace p154 := eq_true p154; replace q154 := eq_true q154; have p155 : 0 ≤ (1 : Int) := (by omega); have q155 : 1 < (t150.length : Int) := of_decide_eq_true (by first | (with_reducible assumption) | assumption); obtain ⟨ad155, e155, hx155_0, hx155_1, hx155_2⟩ := at_T49 (Kd.R_reads' HO152.out).2.2 1 p155 q155; (try rw [← Nbq8.out] at hx155_2); obtain rfl : ad153 = ad155 := (by injection e155); (try simp only [show (1 : Int).toNat = 1 from rfl, Nat.reduceMul, Nat.reduceEqDiff, Go.Addr.add, ↓reduceIte] at hx155_0); (try simp only [show (1 : Int).toNat = 1 from rfl, Nat.reduceMul, Nat.reduceEqDiff, Go.Addr.add, ↓reduceIte] at hx155_1); (try simp only [show (1 : Int).toNat = 1 from rfl, Nat.reduceMul, Nat.reduceEqDiff, Go.Addr.add, ↓reduceIte] at hx155_2); have qi155 : (1 < t150.length) = True := eq_true (by omega); (try rw [show ((1 : Int)).toNat = 1 from rfl] at hx155_0); (try rw [show 1 * 3 = 3 from rfl] at hx155_0); (try rw [show ((1 : Int)).toNat = 1 from rfl] at hx155_1); (try rw [show 1 * 3 = 3 from rfl] at hx155_1); (try rw [show ((1 : Int)).toNat = 1 from rfl] at hx155_2); (try rw [show 1 * 3 = 3 from rfl] at hx155_2); replace p155 := eq_true p155; replace q155 := eq_true q155; have p156 : 0 ≤ (1 : Int) := (by omega); have q156 : 1 < (t150.length : Int) := of_decide_eq_true (by first | (with_reducible assumption) | assumption); obtain ⟨ad156, e156, hx156_0, hx156_1, hx156_2⟩ := at_T49 (Kd.R_reads' HO152.out).2.2 1 p156 q156; (try rw [← Nbq8.out] at hx156_2); obtain rfl : ad153 = ad156 := (by injection e156); (try simp only [show (1 : Int).toNat = 1 from rfl, Nat.reduceMul, Nat.reduceEqDiff, Go.Addr.add, ↓reduceIte] at hx156_0); (try simp only [show (1 : Int).toNat = 1 from rfl, Nat.reduceMul, Nat.reduceEqDiff, Go.Addr.add, ↓reduceIte] at hx156_1); (try simp only [show (1 : Int).toNat = 1 from rfl, Nat.reduceMul, Nat.reduceEqDiff, Go.Addr.add, ↓reduceIte] at hx156_2); have qi156 : (1 < t150.length) = True := eq_true (by omega); (try rw [show ((1 : Int)).toNat = 1 from rfl] at hx156_0); (try rw [show 1 * 3 = 3 from rfl] at hx156_0); (try rw [show ((1 : Int)).toNat = 1 from rfl] at hx156_1); (try rw [show 1 * 3 = 3 from rfl] at hx156_1); (try rw [show ((1 : Int)).toNat = 1 from rfl] at hx156_2); (try rw [show 1 * 3 = 3 from rfl] at hx156_2); replace p156 := eq_true p156; replace q156 := eq_true q156))
  go_ret
  exact ⟨by first | rfl | (simp [errW_none, errW_some] <;> rfl) | (simp [*, errW_none, errW_some] <;> rfl), by repeat (first | (with_reducible first | exact HB.out | apply below_alloc | apply pw_below_drewN | apply below_drew1) | exact HB.out)⟩
 subst c9
 have H1 : ((sorts_Right.f t150 1).bind fun t157 => (some t157)) = some r := by rw [if_pos rfl] at H; exact H
 clear H
 have H := H1
 clear H1
 replace H := Option.bind_eq_some_iff.mp H
 obtain ⟨t157, A100, H⟩ := H
 replace H : (some t157) = some r := H
 have A10 := Aside0.mk A100
 clear A100
 obtain rfl := Option.some.inj H
 go_enter Try.func51, Try.ntmps51
 go_wp2_with (first | ((with_reducible refine gate_dst (N := 2) rfl ?_); refine Kd.R_lit (Kd.int .i64) _ 3 ?hg (N := 2) ?hd (xs := ([3] : List Int)) (inner := [.int .i64 3]) (ok := fun _ => True) (okp := fun _ => True) ?hr ?hp (fun _ hk => hk) trivial (Below.refl _ _) (Nat.le_refl _) (by simp) ?_; (case hd => rfl); (case hg => rfl); (case hr => first | (go_simp; done) | (go_simp; rfl)); (case hp => exact (Reps.one (show Kd.M (Kd.int .i64) _ _ _ 3 [.int .i64 3] from rfl) (Reps.none _ _))); intro v148 w11 ho12 hb hg_ hnew_; clear hg_ hnew_; (first | rw [← Ny147.out] at ho12 | (simp only [Int.reduceToNat] at ho12; rw [← Ny147.out] at ho12)); have n0_ := Aside0.mk (Kd.R_lower ho12 (below_size (by repeat (first | (with_reducible first | exact HB.out | apply below_alloc | apply pw_below_drewN | apply below_drew1) | exact HB.out)))); have n1_ := Aside0.mk (below_step (by repeat (first | (with_reducible first | exact HB.out | apply below_alloc | apply pw_below_drewN | apply below_drew1) | exact HB.out)) hb); clear HB; have HO149 := n0_; have HB := n1_; clear n0_ n1_; clear hb ho12; obtain ⟨Ao13, co13, eo13⟩ := Kd.R_slice HO149.out; subst eo13) | ((with_reducible refine gate_callee (f := 55) rfl ?_); refine goesL_ (some 4) rfl rfl Try.func55 (by kernel_rfl) rfl #[.agg #[.slice Ao13 y147.length co13, .int .i64 0], .int .i64 5] rfl (by (try simp only [List.map_toArray, List.map_cons, List.map_nil]); first | done | rfl | (simp only [List.length_drop, List.length_take]; rfl)) ?_; (with_reducible refine (sorts_Plan.calls _ _ y147 0 5 t150 _ ?side1 ?side2 A1.out).mono ?_); (case side1 => repeat (first | exact (Kd.R_reads' HO149.out).2.2 | (with_reducible refine Kd.C_alloc ?_ _) | (with_reducible refine Kd.C_drewN ?_ _) | (with_reducible refine Kd.C_drew ?_))); (case side2 => exact (Kd.R_reads' HO149.out).2.1); rintro e w14 ⟨v151, rfl, ho0, hb⟩; refine ⟨_, rfl, ?_⟩; have n0_ := Aside0.mk (Kd.R_below (by (with_reducible repeat (first | apply Kd.R_alloc | apply Kd.R_drewN | apply Kd.R_drew)); exact HO149.out) hb); have n1_ := Aside0.mk (Kd.R_lower ho0 (below_size (by repeat (first | (with_reducible first | exact HB.out | apply below_alloc | apply pw_below_drewN | apply below_drew1) | exact HB.out)))); have n2_ := Aside0.mk (below_step (by repeat (first | (with_reducible first | exact HB.out | apply below_alloc | apply pw_below_drewN | apply below_drew1) | exact HB.out)) hb); clear HO149; clear HB; have HO149 := n0_; have HO152 := n1_; have HB := n2_; clear n0_ n1_ n2_; (try clear hb); (try clear hb2); (try clear hk); (try clear hi); (try clear ho0); obtain ⟨Ao15, co15, eo15⟩ := Kd.R_slice HO152.out; subst eo15; have p153 : 0 ≤ (0 : Int) := (by omega); have q153 : 0 < (t150.length : Int) := of_decide_eq_true (by first | (with_reducible assumption) | assumption); obtain ⟨ad153, e153, hx153_0, hx153_1, hx153_2⟩ := at_T49 (Kd.R_reads' HO152.out).2.2 0 p153 q153; (try rw [← Nbq8.out] at hx153_2); cases e153; have qi153 : (0 < t150.length) = True := eq_true (by omega); (try rw [show ((0 : Int)).toNat = 0 from rfl] at hx153_0); (try rw [show 0 * 3 = 0 from rfl] at hx153_0); (try rw [Addr.add_zero'] at hx153_0); (try rw [show ((0 : Int)).toNat = 0 from rfl] at hx153_1); (try rw [show 0 * 3 = 0 from rfl] at hx153_1); (try rw [Addr.add_zero'] at hx153_1); (try rw [show ((0 : Int)).toNat = 0 from rfl] at hx153_2); (try rw [show 0 * 3 = 0 from rfl] at hx153_2); (try rw [Addr.add_zero'] at hx153_2); replace p153 := eq_true p153; replace q153 := eq_true q153; have p154 : 0 ≤ (0 : Int) := (by omega); have q154 : 0 < (t150.length : Int) := of_decide_eq_true (by first | (with_reducible assumption) | assumption); obtain ⟨ad154, e154, hx154_0, hx154_1, hx154_2⟩ := at_T49 (Kd.R_reads' HO152.out).2.2 0 p154 q154; (try rw [← Nbq8.out] at hx154_2); obtain rfl : ad153 = ad154 := (by injection e154); have qi154 : (0 < t150.length) = True := eq_true (by omega); (try rw [show ((0 : Int)).toNat = 0 from rfl] at hx154_0); (try rw [show 0 * 3 = 0 from rfl] at hx154_0); (try rw [Addr.add_zero'] at hx154_0); (try rw [show ((0 : Int)).toNat = 0 from rfl] at hx154_1); (try rw [show 0 * 3 = 0 from rfl] at hx154_1); (try rw [Addr.add_zero'] at hx154_1); (try rw [show ((0 : Int)).toNat = 0 from rfl] at hx154_2); (try rw [show 0 * 3 = 0 from rfl] at hx154_2); (try rw [Addr.add_zero'] at hx154_2); replace p154 := eq_true p154; replace q154 := eq_true q154; have p155 : 0 ≤ (1 : Int) := (by omega); have q155 : 1 < (t150.length : Int) := of_decide_eq_true (by first | (with_reducible assumption) | assumption); obtain ⟨ad155, e155, hx155_0, hx155_1, hx155_2⟩ := at_T49 (Kd.R_reads' HO152.out).2.2 1 p155 q155; (try rw [← Nbq8.out] at hx155_2); obtain rfl : ad153 = ad155 := (by injection e155); (try simp only [show (1 : Int).toNat = 1 from rfl, Nat.reduceMul, Nat.reduceEqDiff, Go.Addr.add, ↓reduceIte] at hx155_0); (try simp only [show (1 : Int).toNat = 1 from rfl, Nat.reduceMul, Nat.reduceEqDiff, Go.Addr.add, ↓reduceIte] at hx155_1); (try simp only [show (1 : Int).toNat = 1 from rfl, Nat.reduceMul, Nat.reduceEqDiff, Go.Addr.add, ↓reduceIte] at hx155_2); have qi155 : (1 < t150.length) = True := eq_true (by omega); (try rw [show ((1 : Int)).toNat = 1 from rfl] at hx155_0); (try rw [show 1 * 3 = 3 from rfl] at hx155_0); (try rw [show ((1 : Int)).toNat = 1 from rfl] at hx155_1); (try rw [show 1 * 3 = 3 from rfl] at hx155_1); (try rw [show ((1 : Int)).toNat = 1 from rfl] at hx155_2); (try rw [show 1 * 3 = 3 from rfl] at hx155_2); replace p155 := eq_true p155; replace q155 := eq_true q155; have p156 : 0 ≤ (1 : Int) := (by omega); have q156 : 1 < (t150.length : Int) := of_decide_eq_true (by first | (with_reducible assumption) | assumption); obtain ⟨ad156, e156, hx156_0, hx156_1, hx156_2⟩ := at_T49 (Kd.R_reads' HO152.out).2.2 1 p156 q156; (try rw [← Nbq8.out] at hx156_2); obtain rfl : ad153 = ad156 := (by injection e156); (try simp only [show (1 : Int).toNat = 1 from rfl, Nat.reduceMul, Nat.reduceEqDiff, Go.Addr.add, ↓reduceIte] at hx156_0); (try simp only [show (1 : Int).toNat = 1 from rfl, Nat.reduceMul, Nat.reduceEqDiff, Go.Addr.add, ↓reduceIte] at hx156_1); (try simp only [show (1 : Int).toNat = 1 from rfl, Nat.reduceMul, Nat.reduceEqDiff, Go.Addr.add, ↓reduceIte] at hx156_2); have qi156 : (1 < t150.length) = True := eq_true (by omega); (try rw [show ((1 : Int)).toNat = 1 from rfl] at hx156_0); (try rw [show 1 * 3 = 3 from rfl] at hx156_0); (try rw [show ((1 : Int)).toNat = 1 from rfl] at hx156_1); (try rw [show 1 * 3 = 3 from rfl] at hx156_1); (try rw [show ((1 : Int)).toNat = 1 from rfl] at hx156_2); (try rw [show 1 * 3 = 3 from rfl] at hx156_2); replace p156 := eq_true p156; replace q156 := eq_true q156) | (go_at_call 54; (with_reducible refine (sorts_Right.calls _ _ t150 1 t157 _ ?side1 ?side2 A10.out).mono ?_); (case side1 => repeat (first | exact (Kd.R_reads' HO152.out).2.2 | (with_reducible refine Kd.C_alloc ?_ _) | (with_reducible refine Kd.C_drewN ?_ _) | (with_reducible refine Kd.C_drew ?_))); (case side2 => exact (Kd.R_reads' HO152.out).2.1); rintro e w16 ⟨rfl, hb⟩; have n0_ := Aside0.mk (Kd.R_below (by (with_reducible repeat (first | apply Kd.R_alloc | apply Kd.R_drewN | apply Kd.R_drew)); exact HO149.out) hb); have n1_ := Aside0.mk (Kd.R_below (by (with_reducible repeat (first | apply Kd.R_alloc | apply Kd.R_drewN | apply Kd.R_drew)); exact HO152.out) hb); have n2_ := Aside0.mk (below_step (by repeat (first | (with_reducible first | exact HB.out | apply below_alloc | apply pw_below_drewN | apply below_drew1) | exact HB.out)) hb); clear HO149; clear HO152; clear HB; have HO149 := n0_; have HO152 := n1_; have HB := n2_; clear n0_ n1_ n2_; (try clear hb); (try clear hb2); (try clear hk); (try clear hi)))
 go_ret
 exact ⟨by first | rfl | (simp [errW_none, errW_some] <;> rfl) | (simp [*, errW_none, errW_some] <;> rfl), by repeat (first | (with_reducible first | exact HB.out | apply below_alloc | apply pw_below_drewN | apply below_drew1) | exact HB.out)⟩

/-! ### hypercubelaw10_within: function 52 -/
def hypercubelaw10_within.f (a0 : Int) (a1 : Int) : Option (Int) := if a1 = 0 then (none) else (if (Int.tmod a0 a1) < 0 then (some (wrap64 ((Int.tmod a0 a1) + a1))) else (some (Int.tmod a0 a1)))
set_option maxHeartbeats 8000000 in
set_option maxRecDepth 100000 in
theorem hypercubelaw10_within.calls (a0 : Int) (a1 : Int) (r : Int) (w : World) (h : hypercubelaw10_within.f a0 a1 = some r) :
 Calls Try.prog 52 #[.int .i64 a0, .int .i64 a1] w fun e w' => e = .returned (.int .i64 r) ∧ Drawn0 w w' := by
 have H : (if a1 = 0 then (none) else (if (Int.tmod a0 a1) < 0 then (some (wrap64 ((Int.tmod a0 a1) + a1))) else (some (Int.tmod a0 a1)))) = some r := h
 clear h
 by_cases c3 : a1 = 0
 ·rw [if_pos c3] at H
  exact absurd H (by simp)
 rw [if_neg c3] at H
 have c3b0 : (a1 == 0) = false := beq_eq_false_iff_ne.mpr c3
 have c3b1 : (a1 != 0) = true := bne_iff_ne.mpr c3
 by_cases c4 : (Int.tmod a0 a1) < 0
 ·rw [if_pos c4] at H
  have c4b0 : decide ((Int.tmod a0 a1) < 0) = true := decide_eq_true c4
  clear c4
  obtain rfl := Option.some.inj H
  go_enter Try.func52, Try.ntmps52
  go_wp2
  go_ret
  exact ⟨by first | rfl | (simp; done) | (simp [*]; done), by repeat (first | exact Drawn0.refl _ | apply Drawn0.step)⟩
 rw [if_neg c4] at H
 have c4b0 : decide ((Int.tmod a0 a1) < 0) = false := decide_eq_false c4
 clear c4
 obtain rfl := Option.some.inj H
 go_enter Try.func52, Try.ntmps52
 go_wp2
 go_ret
 exact ⟨by first | rfl | (simp; done) | (simp [*]; done), by repeat (first | exact Drawn0.refl _ | apply Drawn0.step)⟩

/-! ### hypercuberef2_Level: function 78 -/
def hypercuberef2_Level.l0 : Nat → Int → Int → Int → Option (Int)
 | 0, _, _, _ => none
 | k + 1, x0, x3, x4 => if x4 < 4 then (if 0 ≤ x4 then (hypercuberef2_Level.l0 k x0 (wrap64 (x3 + (Go.bits .and .i64 (shr .i64 x0 x4) 1))) (IntKind.u64.wrap (x4 + 1))) else (none)) else (some x3)
def hypercuberef2_Level.f (k : Nat) (a0 : Int) : Option (Int) := hypercuberef2_Level.l0 k a0 0 0
theorem hypercuberef2_Level.mono_l : ∀ k, (∀ y0 y1 y2, LeO (hypercuberef2_Level.l0 k y0 y1 y2) (hypercuberef2_Level.l0 (k + 1) y0 y1 y2))
 | 0 => fun _ _ _ r h => by simp [hypercuberef2_Level.l0] at h
 | k + 1 => by
  have ih0 := hypercuberef2_Level.mono_l k
  intro y0 y1 y2
  unfold hypercuberef2_Level.l0
  repeat' first
  | (with_reducible exact ih0 _ _ _)
  | (with_reducible exact LeO.refl _)
  | (with_reducible exact LeO.none _)
  | (with_reducible refine LeO.ite ?_ ?_)
  | (with_reducible refine LeO.bind ?_ (fun _ => ?_))
  | exact ih0 _ _ _
  | exact LeO.none _
  | refine LeO.ite ?_ ?_
  | refine LeO.bind ?_ (fun _ => ?_)
theorem hypercuberef2_Level.mono : ∀ a0 k, LeO (hypercuberef2_Level.f k a0) (hypercuberef2_Level.f (k + 1) a0) := by
 intro a0 k
 have ih0 := hypercuberef2_Level.mono_l k
 unfold hypercuberef2_Level.f
 repeat' first
  | (with_reducible exact ih0 _ _ _)
  | (with_reducible exact LeO.refl _)
  | (with_reducible exact LeO.none _)
  | (with_reducible refine LeO.ite ?_ ?_)
  | (with_reducible refine LeO.bind ?_ (fun _ => ?_))
  | exact ih0 _ _ _
  | exact LeO.none _
  | refine LeO.ite ?_ ?_
  | refine LeO.bind ?_ (fun _ => ?_)
set_option maxHeartbeats 8000000 in
set_option maxRecDepth 100000 in
theorem hypercuberef2_Level.calls (k : Nat) (a0 : Int) (r : Int) (w : World) (h : hypercuberef2_Level.f k a0 = some r) :
 Calls Try.prog 78 #[.int .i64 a0] w fun e w' => e = .returned (.int .i64 r) ∧ Drawn0 w w' := by
 have H : (hypercuberef2_Level.l0 k a0 0 0) = some r := h
 clear h
 have H' := Aside0.mk H
 clear H
 go_enter Try.func78, Try.ntmps78
 go_wp2
 go_loopg [3, 4] k (fun kq v3 v4 w' => ∃ (x3_1 : Int) (x4_1 : Int), v3 = .int .i64 x3_1 ∧ v4 = .int .u64 x4_1 ∧ Aside0 (hypercuberef2_Level.l0 kq a0 x3_1 x4_1 = some r) ∧ Aside0 (kq ≤ k) ∧ Drawn0 w w')
 case atStart => exact ⟨(0), (0), (by first | rfl | (simp; done) | (simp [*]; done)), (by first | rfl | (simp; done) | (simp [*]; done)), H', ⟨Nat.le_refl _⟩, by repeat (first | exact Drawn0.refl _ | apply Drawn0.step)⟩
 case round =>
  clear H'
  obtain ⟨x3_1, x4_1, rfl, rfl, HA, HK1, ⟨m1, rfl⟩⟩ := hrel
  cases gk with
  | zero => exact absurd HA.out (by simp [hypercuberef2_Level.l0])
  | succ k1 =>
   have H := HA.out
   clear HA
   simp only [hypercuberef2_Level.l0] at H
   by_cases c2 : x4_1 < 4
   rotate_left
   ·rw [if_neg c2] at H
    have c2b0 : decide (x4_1 < 4) = false := decide_eq_false c2
    clear c2
    obtain rfl := Option.some.inj H
    go_wp2
    go_ret
    exact ⟨by first | rfl | (simp; done) | (simp [*]; done), by repeat (first | exact Drawn0.refl _ | apply Drawn0.step)⟩
   rw [if_pos c2] at H
   have c2b0 : decide (x4_1 < 4) = true := decide_eq_true c2
   clear c2
   by_cases c3 : 0 ≤ x4_1
   rotate_left
   ·rw [if_neg c3] at H
    exact absurd H (by simp)
   rw [if_pos c3] at H
   have c3b0 := eq_true c3
   have c3b1 : decide (0 ≤ x4_1) = true := decide_eq_true c3
   clear c3
   obtain ⟨ji4, hji4⟩ : ∃ j_ : Int, (shr .i64 a0 x4_1) = j_ := ⟨_, rfl⟩
   replace H : (hypercuberef2_Level.l0 k1 a0 (wrap64 (x3_1 + (Go.bits .and .i64 (ji4) 1))) (IntKind.u64.wrap (x4_1 + 1))) = some r := by first | (rw [hji4] at H; exact H) | (simp only [hji4] at H ⊢; exact H)
   have hji4_ : (a0 / 2 ^ min x4_1.toNat 64) = ji4 := hji4
   have hji4z : x4_1 ≤ 64 → (a0 / 2 ^ x4_1.toNat) = ji4 := shr_small hji4
   have H' := Aside0.mk H
   clear H
   go_wp2
   go_roundg k1
   case measure => have := HK1.out; omega
   case rel => exact ⟨(wrap64 (x3_1 + (Go.bits .and .i64 (ji4) 1))), (IntKind.u64.wrap (x4_1 + 1)), (by first | rfl | (simp; done) | (simp only [← hji4] <;> (first | rfl | simp)) | (simp [*]; done)), (by first | rfl | (simp; done) | (simp [*]; done)), H', ⟨by have := HK1.out; omega⟩, by repeat (first | exact Drawn0.refl _ | apply Drawn0.step)⟩

/-! ### hypercuberef8_Level: function 46 -/
def hypercuberef8_Level.f (k : Nat) (a0 : Int) : Option (Int) := (hypercuberef2_Level.f k a0).bind fun t158 => (some t158)
theorem hypercuberef8_Level.mono : ∀ a0 k, LeO (hypercuberef8_Level.f k a0) (hypercuberef8_Level.f (k + 1) a0) := by
 intro a0 k
 unfold hypercuberef8_Level.f
 repeat' first
  | (with_reducible exact hypercuberef2_Level.mono _ _)
  | (with_reducible exact LeO.refl _)
  | (with_reducible exact LeO.none _)
  | (with_reducible refine LeO.ite ?_ ?_)
  | (with_reducible refine LeO.bind ?_ (fun _ => ?_))
  | exact hypercuberef2_Level.mono _ _
  | exact LeO.none _
  | refine LeO.ite ?_ ?_
  | refine LeO.bind ?_ (fun _ => ?_)
set_option maxHeartbeats 8000000 in
set_option maxRecDepth 100000 in
theorem hypercuberef8_Level.calls (k : Nat) (a0 : Int) (r : Int) (w : World) (h : hypercuberef8_Level.f k a0 = some r) :
 Calls Try.prog 46 #[.int .i64 a0] w fun e w' => e = .returned (.int .i64 r) ∧ Drawn0 w w' := by
 have H : ((hypercuberef2_Level.f k a0).bind fun t158 => (some t158)) = some r := h
 clear h
 replace H := Option.bind_eq_some_iff.mp H
 obtain ⟨t158, A20, H⟩ := H
 replace H : (some t158) = some r := H
 have A2 := Aside0.mk A20
 clear A20
 obtain rfl := Option.some.inj H
 go_enter Try.func46, Try.ntmps46
 go_wp2_with (first | ((with_reducible refine gate_callee (f := 78) rfl ?_); refine goesL_ (some 4) rfl rfl Try.func78 (by kernel_rfl) rfl #[.int .i64 a0] rfl (by (try simp only [List.map_toArray, List.map_cons, List.map_nil]); first | done | rfl | (simp only [List.length_drop, List.length_take]; rfl)) ?_; (with_reducible refine (hypercuberef2_Level.calls k a0 t158 _ A2.out).mono ?_); rintro e w' ⟨rfl, ⟨nd, rfl⟩⟩; refine ⟨_, rfl, ?_⟩))
 go_ret
 exact ⟨by first | rfl | (simp; done) | (simp [*]; done), by repeat (first | exact Drawn0.refl _ | apply Drawn0.step)⟩

/-! ### hypercuberef8_Parents: function 41 -/
def hypercuberef8_Parents.l0 : Nat → Int → Int → List Int → Int → Option (List Int)
 | 0, _, _, _, _ => none
 | k + 1, x0, x1, x5, x6 => if 0 ≤ (IntKind.u64.wrap (x1)) then (if x6 < (shl .i64 1 (IntKind.u64.wrap (x1))) then ((hypercuberef8_Level.f k x6).bind fun t159 => ((hypercuberef8_Level.f k x0).bind fun t160 => (if t159 = (wrap64 (t160 + 1)) then (if (Go.bits .and .i64 x6 x0) = x0 then (if x5.length < 17592186044416 then (hypercuberef8_Parents.l0 k x0 x1 (x5 ++ [x6]) (wrap64 (x6 + 1))) else (none)) else (hypercuberef8_Parents.l0 k x0 x1 x5 (wrap64 (x6 + 1)))) else (hypercuberef8_Parents.l0 k x0 x1 x5 (wrap64 (x6 + 1)))))) else (some x5)) else (none)
def hypercuberef8_Parents.f (k : Nat) (a0 : Int) (a1 : Int) : Option (List Int) := hypercuberef8_Parents.l0 k a0 a1 ([] : List Int) 0
theorem hypercuberef8_Parents.mono_l : ∀ k, (∀ y0 y1 y2 y3, LeO (hypercuberef8_Parents.l0 k y0 y1 y2 y3) (hypercuberef8_Parents.l0 (k + 1) y0 y1 y2 y3))
 | 0 => fun _ _ _ _ r h => by simp [hypercuberef8_Parents.l0] at h
 | k + 1 => by
  have ih0 := hypercuberef8_Parents.mono_l k
  intro y0 y1 y2 y3
  unfold hypercuberef8_Parents.l0
  repeat' first
  | (with_reducible exact ih0 _ _ _ _)
  | (with_reducible exact hypercuberef8_Level.mono _ _)
  | (with_reducible exact LeO.refl _)
  | (with_reducible exact LeO.none _)
  | (with_reducible refine LeO.ite ?_ ?_)
  | (with_reducible refine LeO.bind ?_ (fun _ => ?_))
  | exact ih0 _ _ _ _
  | exact hypercuberef8_Level.mono _ _
  | exact LeO.none _
  | refine LeO.ite ?_ ?_
  | refine LeO.bind ?_ (fun _ => ?_)
theorem hypercuberef8_Parents.mono : ∀ a0 a1 k, LeO (hypercuberef8_Parents.f k a0 a1) (hypercuberef8_Parents.f (k + 1) a0 a1) := by
 intro a0 a1 k
 have ih0 := hypercuberef8_Parents.mono_l k
 unfold hypercuberef8_Parents.f
 repeat' first
  | (with_reducible exact ih0 _ _ _ _)
  | (with_reducible exact hypercuberef8_Level.mono _ _)
  | (with_reducible exact LeO.refl _)
  | (with_reducible exact LeO.none _)
  | (with_reducible refine LeO.ite ?_ ?_)
  | (with_reducible refine LeO.bind ?_ (fun _ => ?_))
  | exact ih0 _ _ _ _
  | exact hypercuberef8_Level.mono _ _
  | exact LeO.none _
  | refine LeO.ite ?_ ?_
  | refine LeO.bind ?_ (fun _ => ?_)
set_option maxHeartbeats 8000000 in
set_option maxRecDepth 100000 in
theorem hypercuberef8_Parents.calls (k : Nat) (a0 : Int) (a1 : Int) (r : List Int) (w : World) (h : hypercuberef8_Parents.f k a0 a1 = some r) :
 Calls Try.prog 41 #[.int .i64 a0, .int .i64 a1] w fun e w' => ∃ v0_ : Value, e = .returned (v0_) ∧ Kd.R (Kd.int .i64) 3 w' w.heap.size (fun _ => True) v0_ r ∧ Below w.heap.size w w' := by
 have HB := Aside0.mk (Below.refl w.heap.size w)
 have H : (hypercuberef8_Parents.l0 k a0 a1 ([] : List Int) 0) = some r := h
 clear h
 have H' := Aside0.mk H
 clear H
 go_enter Try.func41, Try.ntmps41
 go_wp2
 go_loopg [5, 6] k (fun kq v5 v6 w' => ∃ (x5_1 : List Int) (x6_1 : Int), v6 = .int .i64 x6_1 ∧ Aside0 (hypercuberef8_Parents.l0 kq a0 a1 x5_1 x6_1 = some r) ∧ Aside0 (kq ≤ k) ∧ Aside0 (Kd.R (Kd.int .i64) 3 w' w.heap.size (fun _ => True) v5 x5_1) ∧ Aside0 (Below w.heap.size w w'))
 case atStart => exact ⟨(([] : List Int)), (0), (by first | rfl | (simp; done) | (simp [*]; done)), H', ⟨Nat.le_refl _⟩, ⟨by first | exact Kd.R_nil _ _ _ _ _ | exact Kd.N_nil _ _ _ _ _ | exact Kd.V_nil _ _ _ _ _ | exact Kd.Q_nil _ _ _ _ _ | exact Kd.S_nil _ _ _ _ _⟩, ⟨by repeat (first | (with_reducible first | exact HB.out | apply below_alloc | apply pw_below_drewN | apply below_drew1) | exact HB.out)⟩⟩
 case round =>
  clear H'
  try clear p2
  obtain ⟨x5_1, x6_1, rfl, HA, HK1, HO_5, HB⟩ := hrel
  cases gk with
  | zero => exact absurd HA.out (by simp [hypercuberef8_Parents.l0])
  | succ k1 =>
   have H := HA.out
   clear HA
   simp only [hypercuberef8_Parents.l0] at H
   obtain ⟨ji3, hji3⟩ : ∃ j_ : Int, (IntKind.u64.wrap (a1)) = j_ := ⟨_, rfl⟩
   replace H : (if 0 ≤ (ji3) then (if x6_1 < (shl .i64 1 (ji3)) then ((hypercuberef8_Level.f k1 x6_1).bind fun t159 => ((hypercuberef8_Level.f k1 a0).bind fun t160 => (if t159 = (wrap64 (t160 + 1)) then (if (Go.bits .and .i64 x6_1 a0) = a0 then (if x5_1.length < 17592186044416 then (hypercuberef8_Parents.l0 k1 a0 a1 (x5_1 ++ [x6_1]) (wrap64 (x6_1 + 1))) else (none)) else (hypercuberef8_Parents.l0 k1 a0 a1 x5_1 (wrap64 (x6_1 + 1)))) else (hypercuberef8_Parents.l0 k1 a0 a1 x5_1 (wrap64 (x6_1 + 1)))))) else (some x5_1)) else (none)) = some r := by first | (rw [hji3] at H; exact H) | (simp only [hji3] at H ⊢; exact H)
   by_cases c4 : 0 ≤ (ji3)
   rotate_left
   ·rw [if_neg c4] at H
    exact absurd H (by simp)
   rw [if_pos c4] at H
   have c4b0 := eq_true c4
   have c4b1 : decide (0 ≤ (ji3)) = true := decide_eq_true c4
   clear c4
   obtain ⟨ji5, hji5⟩ : ∃ j_ : Int, (shl .i64 1 (ji3)) = j_ := ⟨_, rfl⟩
   replace H : (if x6_1 < (ji5) then ((hypercuberef8_Level.f k1 x6_1).bind fun t159 => ((hypercuberef8_Level.f k1 a0).bind fun t160 => (if t159 = (wrap64 (t160 + 1)) then (if (Go.bits .and .i64 x6_1 a0) = a0 then (if x5_1.length < 17592186044416 then (hypercuberef8_Parents.l0 k1 a0 a1 (x5_1 ++ [x6_1]) (wrap64 (x6_1 + 1))) else (none)) else (hypercuberef8_Parents.l0 k1 a0 a1 x5_1 (wrap64 (x6_1 + 1)))) else (hypercuberef8_Parents.l0 k1 a0 a1 x5_1 (wrap64 (x6_1 + 1)))))) else (some x5_1)) = some r := by first | (rw [hji5] at H; exact H) | (simp only [hji5] at H ⊢; exact H)
   have hji5_ : (IntKind.i64.wrap (1 * 2 ^ min (ji3).toNat 64)) = ji5 := hji5
   have hji5z : (ji3) ≤ 64 → (IntKind.i64.wrap (1 * 2 ^ (ji3).toNat)) = ji5 := shl_small hji5
   have hji5u : (IntKind.i64.wrap (2 ^ min (ji3).toNat 64)) = ji5 := by have h_ := hji5_; rw [Int.one_mul] at h_; exact h_
   have hji5v : (ji3) ≤ 64 → (IntKind.i64.wrap (2 ^ (ji3).toNat)) = ji5 := fun hle_ => by have h_ := hji5z hle_; rw [Int.one_mul] at h_; exact h_
   have hji5y : (wrap64 (1 * 2 ^ min (ji3).toNat 64)) = ji5 := (i64_w _).symm.trans hji5_
   have hji5x : (ji3) ≤ 64 → (wrap64 (1 * 2 ^ (ji3).toNat)) = ji5 := fun h_ => (i64_w _).symm.trans (hji5z h_)
   by_cases c6 : x6_1 < (ji5)
   rotate_left
   ·rw [if_neg c6] at H
    have c6b0 : decide (x6_1 < (ji5)) = false := decide_eq_false c6
    clear c6
    obtain rfl := Option.some.inj H
    go_wp2
    go_ret
    exact ⟨_, by first | rfl | (simp [errW_none, errW_some] <;> rfl) | (simp only [← hji3, ← hji5]; first | rfl | (simp [errW_none, errW_some] <;> rfl)) | (simp [*, errW_none, errW_some] <;> rfl), by (with_reducible repeat (first | apply Kd.R_alloc | apply Kd.R_drewN | apply Kd.R_drew)); exact HO_5.out, by repeat (first | (with_reducible first | exact HB.out | apply below_alloc | apply pw_below_drewN | apply below_drew1) | exact HB.out)⟩
   rw [if_pos c6] at H
   have c6b0 : decide (x6_1 < (ji5)) = true := decide_eq_true c6
   clear c6
   replace H := Option.bind_eq_some_iff.mp H
   obtain ⟨t159, A70, H⟩ := H
   replace H : ((hypercuberef8_Level.f k1 a0).bind fun t160 => (if t159 = (wrap64 (t160 + 1)) then (if (Go.bits .and .i64 x6_1 a0) = a0 then (if x5_1.length < 17592186044416 then (hypercuberef8_Parents.l0 k1 a0 a1 (x5_1 ++ [x6_1]) (wrap64 (x6_1 + 1))) else (none)) else (hypercuberef8_Parents.l0 k1 a0 a1 x5_1 (wrap64 (x6_1 + 1)))) else (hypercuberef8_Parents.l0 k1 a0 a1 x5_1 (wrap64 (x6_1 + 1))))) = some r := H
   have A7 := Aside0.mk A70
   clear A70
   replace H := Option.bind_eq_some_iff.mp H
   obtain ⟨t160, A80, H⟩ := H
   replace H : (if t159 = (wrap64 (t160 + 1)) then (if (Go.bits .and .i64 x6_1 a0) = a0 then (if x5_1.length < 17592186044416 then (hypercuberef8_Parents.l0 k1 a0 a1 (x5_1 ++ [x6_1]) (wrap64 (x6_1 + 1))) else (none)) else (hypercuberef8_Parents.l0 k1 a0 a1 x5_1 (wrap64 (x6_1 + 1)))) else (hypercuberef8_Parents.l0 k1 a0 a1 x5_1 (wrap64 (x6_1 + 1)))) = some r := H
   have A8 := Aside0.mk A80
   clear A80
   by_cases c9 : t159 = (wrap64 (t160 + 1))
   rotate_left
   ·rw [if_neg c9] at H
    have c9b0 : (t159 == (wrap64 (t160 + 1))) = false := beq_eq_false_iff_ne.mpr c9
    have c9b1 : (t159 != (wrap64 (t160 + 1))) = true := bne_iff_ne.mpr c9
    have H' := Aside0.mk H
    clear H
    go_wp2_with (first | ((with_reducible refine gate_callee (f := 46) rfl ?_); refine goesL_ (some 15) rfl rfl Try.func46 (by kernel_rfl) rfl #[.int .i64 x6_1] rfl (by (try simp only [List.map_toArray, List.map_cons, List.map_nil]); first | done | rfl | (simp only [List.length_drop, List.length_take]; rfl)) ?_; (with_reducible refine (hypercuberef8_Level.calls k1 x6_1 t159 _ A7.out).mono ?_); rintro e w' ⟨rfl, ⟨nd, rfl⟩⟩; refine ⟨_, rfl, ?_⟩) | ((with_reducible refine gate_callee (f := 46) rfl ?_); refine goesL_ (some 17) rfl rfl Try.func46 (by kernel_rfl) rfl #[.int .i64 a0] rfl (by (try simp only [List.map_toArray, List.map_cons, List.map_nil]); first | done | rfl | (simp only [List.length_drop, List.length_take]; rfl)) ?_; (with_reducible refine (hypercuberef8_Level.calls k1 a0 t160 _ A8.out).mono ?_); rintro e w' ⟨rfl, ⟨nd, rfl⟩⟩; refine ⟨_, rfl, ?_⟩))
    go_roundg k1
    case measure => have := HK1.out; omega
    case rel => exact ⟨(x5_1), (wrap64 (x6_1 + 1)), (by first | rfl | (simp; done) | (simp [*]; done)), H', ⟨by have := HK1.out; omega⟩, ⟨by (with_reducible repeat (first | apply Kd.R_alloc | apply Kd.R_drewN | apply Kd.R_drew)); exact HO_5.out⟩, ⟨by repeat (first | (with_reducible first | exact HB.out | apply below_alloc | apply pw_below_drewN | apply below_drew1) | exact HB.out)⟩⟩
   rw [if_pos c9] at H
   have c9b0 : (t159 == (wrap64 (t160 + 1))) = true := beq_iff_eq.mpr c9
   have c9b1 : (t159 != (wrap64 (t160 + 1))) = false := bne_eq_false_iff_eq.mpr c9
   clear c9
   by_cases c10 : (Go.bits .and .i64 x6_1 a0) = a0
   rotate_left
   ·rw [if_neg c10] at H
    have c10b0 : ((Go.bits .and .i64 x6_1 a0) == a0) = false := beq_eq_false_iff_ne.mpr c10
    have c10b1 : ((Go.bits .and .i64 x6_1 a0) != a0) = true := bne_iff_ne.mpr c10
    have H' := Aside0.mk H
    clear H
    go_wp2_with (first | ((with_reducible refine gate_callee (f := 46) rfl ?_); refine goesL_ (some 15) rfl rfl Try.func46 (by kernel_rfl) rfl #[.int .i64 x6_1] rfl (by (try simp only [List.map_toArray, List.map_cons, List.map_nil]); first | done | rfl | (simp only [List.length_drop, List.length_take]; rfl)) ?_; (with_reducible refine (hypercuberef8_Level.calls k1 x6_1 t159 _ A7.out).mono ?_); rintro e w' ⟨rfl, ⟨nd, rfl⟩⟩; refine ⟨_, rfl, ?_⟩) | ((with_reducible refine gate_callee (f := 46) rfl ?_); refine goesL_ (some 17) rfl rfl Try.func46 (by kernel_rfl) rfl #[.int .i64 a0] rfl (by (try simp only [List.map_toArray, List.map_cons, List.map_nil]); first | done | rfl | (simp only [List.length_drop, List.length_take]; rfl)) ?_; (with_reducible refine (hypercuberef8_Level.calls k1 a0 t160 _ A8.out).mono ?_); rintro e w' ⟨rfl, ⟨nd, rfl⟩⟩; refine ⟨_, rfl, ?_⟩))
    go_roundg k1
    case measure => have := HK1.out; omega
    case rel => exact ⟨(x5_1), (wrap64 (x6_1 + 1)), (by first | rfl | (simp; done) | (simp [*]; done)), H', ⟨by have := HK1.out; omega⟩, ⟨by (with_reducible repeat (first | apply Kd.R_alloc | apply Kd.R_drewN | apply Kd.R_drew)); exact HO_5.out⟩, ⟨by repeat (first | (with_reducible first | exact HB.out | apply below_alloc | apply pw_below_drewN | apply below_drew1) | exact HB.out)⟩⟩
   rw [if_pos c10] at H
   have c10b0 : ((Go.bits .and .i64 x6_1 a0) == a0) = true := beq_iff_eq.mpr c10
   have c10b1 : ((Go.bits .and .i64 x6_1 a0) != a0) = false := bne_eq_false_iff_eq.mpr c10
   clear c10
   by_cases c11 : x5_1.length < 17592186044416
   rotate_left
   ·rw [if_neg c11] at H
    exact absurd H (by simp)
   rw [if_pos c11] at H
   have LMc11 := Aside0.mk c11
   clear c11
   obtain ⟨y161, hy161⟩ : ∃ y_ : List Int, y_ = (x5_1 ++ [x6_1]) := ⟨_, rfl⟩
   replace H : (hypercuberef8_Parents.l0 k1 a0 a1 y161 (wrap64 (x6_1 + 1))) = some r := by first | (rw [hy161]; with_reducible exact H) | (have H2_ := (Option.bind_some _ _).symm.trans H; rw [hy161]; with_reducible exact H2_) | (have H2_ := (Option.bind_some _ _).symm.trans H; with_reducible exact H2_) | with_reducible exact H | (rw [hy161]; exact H) | exact H
   have Ny161 := Aside0.mk hy161
   clear hy161
   have H' := Aside0.mk H
   clear H
   go_wp2_with (first | ((with_reducible refine gate_callee (f := 46) rfl ?_); refine goesL_ (some 15) rfl rfl Try.func46 (by kernel_rfl) rfl #[.int .i64 x6_1] rfl (by (try simp only [List.map_toArray, List.map_cons, List.map_nil]); first | done | rfl | (simp only [List.length_drop, List.length_take]; rfl)) ?_; (with_reducible refine (hypercuberef8_Level.calls k1 x6_1 t159 _ A7.out).mono ?_); rintro e w' ⟨rfl, ⟨nd, rfl⟩⟩; refine ⟨_, rfl, ?_⟩) | ((with_reducible refine gate_callee (f := 46) rfl ?_); refine goesL_ (some 17) rfl rfl Try.func46 (by kernel_rfl) rfl #[.int .i64 a0] rfl (by (try simp only [List.map_toArray, List.map_cons, List.map_nil]); first | done | rfl | (simp only [List.length_drop, List.length_take]; rfl)) ?_; (with_reducible refine (hypercuberef8_Level.calls k1 a0 t160 _ A8.out).mono ?_); rintro e w' ⟨rfl, ⟨nd, rfl⟩⟩; refine ⟨_, rfl, ?_⟩) | ((with_reducible refine gate_builtin (b := .append) (xs := #[.tmp 27, .tmp 29]) rfl ?_); at_builtin; refine Kd.R_append (Kd.int .i64) (w0 := w) w.heap.size rfl (.tmp 27) (.tmp 29) 24 3 (.int .i64 0) 8 rfl Try.underlying24 info3 rfl (by decide) (by omega) u5 x5_1 x6_1 [.int .i64 x6_1] (fun _ => True) (fun _ => False) rfl rfl ?aP (fun _ hk => hk.elim) ?aF ?aO ?aB ?aS ?aL ?_; (case aP => exact rfl); (case aB => exact (by repeat (first | (with_reducible first | exact HB.out | apply below_alloc | apply pw_below_drewN | apply below_drew1) | exact HB.out))); (case aF => exact (fun _ _ => trivial)); (case aO => exact (by (with_reducible repeat (first | apply Kd.R_alloc | apply Kd.R_drewN | apply Kd.R_drew)); exact HO_5.out)); (case aS => exact (below_size (by repeat (first | (with_reducible first | exact HB.out | apply below_alloc | apply pw_below_drewN | apply below_drew1) | exact HB.out)))); (case aL => have := LMc11.out; omega); intro v162 w12 ho hb hg hat; rw [← Ny161.out] at ho; have n0_ := Aside0.mk (hb); have n1_ := Aside0.mk (ho); clear HB; clear HO_5; have HB := n0_; have HO163 := n1_; clear n0_ n1_; clear ho hb hg hat))
   go_roundg k1
   case measure => have := HK1.out; omega
   case rel => exact ⟨(y161), (wrap64 (x6_1 + 1)), (by first | rfl | (simp; done) | (simp [*]; done)), H', ⟨by have := HK1.out; omega⟩, ⟨by (with_reducible repeat (first | apply Kd.R_alloc | apply Kd.R_drewN | apply Kd.R_drew)); exact HO163.out⟩, ⟨by repeat (first | (with_reducible first | exact HB.out | apply below_alloc | apply pw_below_drewN | apply below_drew1) | exact HB.out)⟩⟩

/-! ### hypercuberef8_Sets: function 45 -/
mutual
def hypercuberef8_Sets.l0 : Nat → Int → List Int → Int → Option (List Int)
 | 0, _, _, _ => none
 | k + 1, x0, x3, x4 => if x4 ≥ 0 then (hypercuberef8_Sets.l1 k x0 x3 x4 0) else (some x3)
def hypercuberef8_Sets.l1 : Nat → Int → List Int → Int → Int → Option (List Int)
 | 0, _, _, _, _ => none
 | k + 1, x0, x3, x4, x5 => if 0 ≤ (IntKind.u64.wrap (x0)) then (if x5 < (shl .i64 1 (IntKind.u64.wrap (x0))) then ((hypercuberef8_Level.f k x5).bind fun t164 => (if t164 = x4 then (if x3.length < 17592186044416 then (hypercuberef8_Sets.l1 k x0 (x3 ++ [x5]) x4 (wrap64 (x5 + 1))) else (none)) else (hypercuberef8_Sets.l1 k x0 x3 x4 (wrap64 (x5 + 1))))) else (hypercuberef8_Sets.l0 k x0 x3 (wrap64 (x4 - 1)))) else (none)
end
def hypercuberef8_Sets.f (k : Nat) (a0 : Int) : Option (List Int) := hypercuberef8_Sets.l0 k a0 ([] : List Int) a0
theorem hypercuberef8_Sets.mono_l : ∀ k, (∀ y0 y1 y2, LeO (hypercuberef8_Sets.l0 k y0 y1 y2) (hypercuberef8_Sets.l0 (k + 1) y0 y1 y2)) ∧ (∀ y0 y1 y2 y3, LeO (hypercuberef8_Sets.l1 k y0 y1 y2 y3) (hypercuberef8_Sets.l1 (k + 1) y0 y1 y2 y3))
 | 0 => ⟨fun _ _ _ r h => by simp [hypercuberef8_Sets.l0] at h, fun _ _ _ _ r h => by simp [hypercuberef8_Sets.l1] at h⟩
 | k + 1 => by
  obtain ⟨ih0, ih1⟩ := hypercuberef8_Sets.mono_l k
  refine ⟨?_, ?_⟩
  ·intro y0 y1 y2
   unfold hypercuberef8_Sets.l0
   repeat' first
   | (with_reducible exact ih0 _ _ _)
   | (with_reducible exact ih1 _ _ _ _)
   | (with_reducible exact hypercuberef8_Level.mono _ _)
   | (with_reducible exact LeO.refl _)
   | (with_reducible exact LeO.none _)
   | (with_reducible refine LeO.ite ?_ ?_)
   | (with_reducible refine LeO.bind ?_ (fun _ => ?_))
   | exact ih0 _ _ _
   | exact ih1 _ _ _ _
   | exact hypercuberef8_Level.mono _ _
   | exact LeO.none _
   | refine LeO.ite ?_ ?_
   | refine LeO.bind ?_ (fun _ => ?_)
  intro y0 y1 y2 y3
  unfold hypercuberef8_Sets.l1
  repeat' first
  | (with_reducible exact ih0 _ _ _)
  | (with_reducible exact ih1 _ _ _ _)
  | (with_reducible exact hypercuberef8_Level.mono _ _)
  | (with_reducible exact LeO.refl _)
  | (with_reducible exact LeO.none _)
  | (with_reducible refine LeO.ite ?_ ?_)
  | (with_reducible refine LeO.bind ?_ (fun _ => ?_))
  | exact ih0 _ _ _
  | exact ih1 _ _ _ _
  | exact hypercuberef8_Level.mono _ _
  | exact LeO.none _
  | refine LeO.ite ?_ ?_
  | refine LeO.bind ?_ (fun _ => ?_)
theorem hypercuberef8_Sets.mono : ∀ a0 k, LeO (hypercuberef8_Sets.f k a0) (hypercuberef8_Sets.f (k + 1) a0) := by
 intro a0 k
 obtain ⟨ih0, ih1⟩ := hypercuberef8_Sets.mono_l k
 unfold hypercuberef8_Sets.f
 repeat' first
  | (with_reducible exact ih0 _ _ _)
  | (with_reducible exact ih1 _ _ _ _)
  | (with_reducible exact hypercuberef8_Level.mono _ _)
  | (with_reducible exact LeO.refl _)
  | (with_reducible exact LeO.none _)
  | (with_reducible refine LeO.ite ?_ ?_)
  | (with_reducible refine LeO.bind ?_ (fun _ => ?_))
  | exact ih0 _ _ _
  | exact ih1 _ _ _ _
  | exact hypercuberef8_Level.mono _ _
  | exact LeO.none _
  | refine LeO.ite ?_ ?_
  | refine LeO.bind ?_ (fun _ => ?_)
set_option maxHeartbeats 8000000 in
set_option maxRecDepth 100000 in
theorem hypercuberef8_Sets.calls (k : Nat) (a0 : Int) (r : List Int) (w : World) (h : hypercuberef8_Sets.f k a0 = some r) :
 Calls Try.prog 45 #[.int .i64 a0] w fun e w' => ∃ v0_ : Value, e = .returned (v0_) ∧ Kd.R (Kd.int .i64) 3 w' w.heap.size (fun _ => True) v0_ r ∧ Below w.heap.size w w' := by
 have HB := Aside0.mk (Below.refl w.heap.size w)
 have H : (hypercuberef8_Sets.l0 k a0 ([] : List Int) a0) = some r := h
 clear h
 have H' := Aside0.mk H
 clear H
 go_enter Try.func45, Try.ntmps45
 go_wp2
 go_loopg [3, 4] k (fun kq v3 v4 w' => ∃ (x3_1 : List Int) (x4_1 : Int), v4 = .int .i64 x4_1 ∧ Aside0 (hypercuberef8_Sets.l0 kq a0 x3_1 x4_1 = some r) ∧ Aside0 (kq ≤ k) ∧ Aside0 (Kd.R (Kd.int .i64) 3 w' w.heap.size (fun _ => True) v3 x3_1) ∧ Aside0 (Below w.heap.size w w'))
 case atStart => exact ⟨(([] : List Int)), (a0), (by first | rfl | (simp; done) | (simp [*]; done)), H', ⟨Nat.le_refl _⟩, ⟨by first | exact Kd.R_nil _ _ _ _ _ | exact Kd.N_nil _ _ _ _ _ | exact Kd.V_nil _ _ _ _ _ | exact Kd.Q_nil _ _ _ _ _ | exact Kd.S_nil _ _ _ _ _⟩, ⟨by repeat (first | (with_reducible first | exact HB.out | apply below_alloc | apply pw_below_drewN | apply below_drew1) | exact HB.out)⟩⟩
 case round =>
  clear H'
  obtain ⟨x3_1, x4_1, rfl, HA, HK1, HO_3, HB⟩ := hrel
  cases gk with
  | zero => exact absurd HA.out (by simp [hypercuberef8_Sets.l0])
  | succ k1 =>
   have H := HA.out
   clear HA
   simp only [hypercuberef8_Sets.l0] at H
   by_cases c2 : x4_1 ≥ 0
   rotate_left
   ·rw [if_neg c2] at H
    have c2b0 : decide (0 ≤ x4_1) = false := decide_eq_false c2
    clear c2
    obtain rfl := Option.some.inj H
    go_wp2
    go_ret
    exact ⟨_, by first | rfl | (simp [errW_none, errW_some] <;> rfl) | (simp [*, errW_none, errW_some] <;> rfl), by (with_reducible repeat (first | apply Kd.R_alloc | apply Kd.R_drewN | apply Kd.R_drew)); exact HO_3.out, by repeat (first | (with_reducible first | exact HB.out | apply below_alloc | apply pw_below_drewN | apply below_drew1) | exact HB.out)⟩
   rw [if_pos c2] at H
   have c2b0 : decide (0 ≤ x4_1) = true := decide_eq_true c2
   clear c2
   have H' := Aside0.mk H
   clear H
   go_wp2
   go_loopg [3, 5] k1 (fun kq v3 v5 w' => ∃ (x3_2 : List Int) (x5_2 : Int), v5 = .int .i64 x5_2 ∧ Aside0 (hypercuberef8_Sets.l1 kq a0 x3_2 x4_1 x5_2 = some r) ∧ Aside0 (kq ≤ k1) ∧ Aside0 (Kd.R (Kd.int .i64) 3 w' w.heap.size (fun _ => True) v3 x3_2) ∧ Aside0 (Below w.heap.size w w'))
   case atStart => exact ⟨(x3_1), (0), (by first | rfl | (simp; done) | (simp [*]; done)), H', ⟨Nat.le_refl _⟩, ⟨by (with_reducible repeat (first | apply Kd.R_alloc | apply Kd.R_drewN | apply Kd.R_drew)); exact HO_3.out⟩, ⟨by repeat (first | (with_reducible first | exact HB.out | apply below_alloc | apply pw_below_drewN | apply below_drew1) | exact HB.out)⟩⟩
   case round =>
    clear H'
    try clear c2
    try clear c2b0
    try clear p2
    obtain ⟨x3_2, x5_2, rfl, HA, HK2, HO_3, HB⟩ := hrel
    cases gk with
    | zero => exact absurd HA.out (by simp [hypercuberef8_Sets.l1])
    | succ k2 =>
     have H := HA.out
     clear HA
     simp only [hypercuberef8_Sets.l1] at H
     obtain ⟨ji3, hji3⟩ : ∃ j_ : Int, (IntKind.u64.wrap (a0)) = j_ := ⟨_, rfl⟩
     replace H : (if 0 ≤ (ji3) then (if x5_2 < (shl .i64 1 (ji3)) then ((hypercuberef8_Level.f k2 x5_2).bind fun t164 => (if t164 = x4_1 then (if x3_2.length < 17592186044416 then (hypercuberef8_Sets.l1 k2 a0 (x3_2 ++ [x5_2]) x4_1 (wrap64 (x5_2 + 1))) else (none)) else (hypercuberef8_Sets.l1 k2 a0 x3_2 x4_1 (wrap64 (x5_2 + 1))))) else (hypercuberef8_Sets.l0 k2 a0 x3_2 (wrap64 (x4_1 - 1)))) else (none)) = some r := by first | (rw [hji3] at H; exact H) | (simp only [hji3] at H ⊢; exact H)
     by_cases c4 : 0 ≤ (ji3)
     rotate_left
     ·rw [if_neg c4] at H
      exact absurd H (by simp)
     rw [if_pos c4] at H
     have c4b0 := eq_true c4
     have c4b1 : decide (0 ≤ (ji3)) = true := decide_eq_true c4
     clear c4
     obtain ⟨ji5, hji5⟩ : ∃ j_ : Int, (shl .i64 1 (ji3)) = j_ := ⟨_, rfl⟩
     replace H : (if x5_2 < (ji5) then ((hypercuberef8_Level.f k2 x5_2).bind fun t164 => (if t164 = x4_1 then (if x3_2.length < 17592186044416 then (hypercuberef8_Sets.l1 k2 a0 (x3_2 ++ [x5_2]) x4_1 (wrap64 (x5_2 + 1))) else (none)) else (hypercuberef8_Sets.l1 k2 a0 x3_2 x4_1 (wrap64 (x5_2 + 1))))) else (hypercuberef8_Sets.l0 k2 a0 x3_2 (wrap64 (x4_1 - 1)))) = some r := by first | (rw [hji5] at H; exact H) | (simp only [hji5] at H ⊢; exact H)
     have hji5_ : (IntKind.i64.wrap (1 * 2 ^ min (ji3).toNat 64)) = ji5 := hji5
     have hji5z : (ji3) ≤ 64 → (IntKind.i64.wrap (1 * 2 ^ (ji3).toNat)) = ji5 := shl_small hji5
     have hji5u : (IntKind.i64.wrap (2 ^ min (ji3).toNat 64)) = ji5 := by have h_ := hji5_; rw [Int.one_mul] at h_; exact h_
     have hji5v : (ji3) ≤ 64 → (IntKind.i64.wrap (2 ^ (ji3).toNat)) = ji5 := fun hle_ => by have h_ := hji5z hle_; rw [Int.one_mul] at h_; exact h_
     have hji5y : (wrap64 (1 * 2 ^ min (ji3).toNat 64)) = ji5 := (i64_w _).symm.trans hji5_
     have hji5x : (ji3) ≤ 64 → (wrap64 (1 * 2 ^ (ji3).toNat)) = ji5 := fun h_ => (i64_w _).symm.trans (hji5z h_)
     by_cases c6 : x5_2 < (ji5)
     rotate_left
     ·rw [if_neg c6] at H
      have c6b0 : decide (x5_2 < (ji5)) = false := decide_eq_false c6
      clear c6
      have H' := Aside0.mk H
      clear H
      go_wp2
      go_roundg k2
      case measure => have := HK1.out; have := HK2.out; omega
      case rel => exact ⟨(x3_2), (wrap64 (x4_1 - 1)), (by first | rfl | (simp; done) | (simp [*]; done)), H', ⟨by have := HK1.out; have := HK2.out; omega⟩, ⟨by (with_reducible repeat (first | apply Kd.R_alloc | apply Kd.R_drewN | apply Kd.R_drew)); exact HO_3.out⟩, ⟨by repeat (first | (with_reducible first | exact HB.out | apply below_alloc | apply pw_below_drewN | apply below_drew1) | exact HB.out)⟩⟩
     rw [if_pos c6] at H
     have c6b0 : decide (x5_2 < (ji5)) = true := decide_eq_true c6
     clear c6
     replace H := Option.bind_eq_some_iff.mp H
     obtain ⟨t164, A70, H⟩ := H
     replace H : (if t164 = x4_1 then (if x3_2.length < 17592186044416 then (hypercuberef8_Sets.l1 k2 a0 (x3_2 ++ [x5_2]) x4_1 (wrap64 (x5_2 + 1))) else (none)) else (hypercuberef8_Sets.l1 k2 a0 x3_2 x4_1 (wrap64 (x5_2 + 1)))) = some r := H
     have A7 := Aside0.mk A70
     clear A70
     by_cases c8 : t164 = x4_1
     rotate_left
     ·rw [if_neg c8] at H
      have c8b0 : (t164 == x4_1) = false := beq_eq_false_iff_ne.mpr c8
      have c8b1 : (t164 != x4_1) = true := bne_iff_ne.mpr c8
      have H' := Aside0.mk H
      clear H
      go_wp2_with (first | ((with_reducible refine gate_callee (f := 46) rfl ?_); refine goesL_ (some 19) rfl rfl Try.func46 (by kernel_rfl) rfl #[.int .i64 x5_2] rfl (by (try simp only [List.map_toArray, List.map_cons, List.map_nil]); first | done | rfl | (simp only [List.length_drop, List.length_take]; rfl)) ?_; (with_reducible refine (hypercuberef8_Level.calls k2 x5_2 t164 _ A7.out).mono ?_); rintro e w' ⟨rfl, ⟨nd, rfl⟩⟩; refine ⟨_, rfl, ?_⟩))
      go_roundg k2
      case measure => have := HK1.out; have := HK2.out; omega
      case rel => exact ⟨(x3_2), (wrap64 (x5_2 + 1)), (by first | rfl | (simp; done) | (simp [*]; done)), H', ⟨by have := HK1.out; have := HK2.out; omega⟩, ⟨by (with_reducible repeat (first | apply Kd.R_alloc | apply Kd.R_drewN | apply Kd.R_drew)); exact HO_3.out⟩, ⟨by repeat (first | (with_reducible first | exact HB.out | apply below_alloc | apply pw_below_drewN | apply below_drew1) | exact HB.out)⟩⟩
     rw [if_pos c8] at H
     have c8b0 : (t164 == x4_1) = true := beq_iff_eq.mpr c8
     have c8b1 : (t164 != x4_1) = false := bne_eq_false_iff_eq.mpr c8
     clear c8
     by_cases c9 : x3_2.length < 17592186044416
     rotate_left
     ·rw [if_neg c9] at H
      exact absurd H (by simp)
     rw [if_pos c9] at H
     have LMc9 := Aside0.mk c9
     clear c9
     obtain ⟨y165, hy165⟩ : ∃ y_ : List Int, y_ = (x3_2 ++ [x5_2]) := ⟨_, rfl⟩
     replace H : (hypercuberef8_Sets.l1 k2 a0 y165 x4_1 (wrap64 (x5_2 + 1))) = some r := by first | (rw [hy165]; with_reducible exact H) | (have H2_ := (Option.bind_some _ _).symm.trans H; rw [hy165]; with_reducible exact H2_) | (have H2_ := (Option.bind_some _ _).symm.trans H; with_reducible exact H2_) | with_reducible exact H | (rw [hy165]; exact H) | exact H
     have Ny165 := Aside0.mk hy165
     clear hy165
     have H' := Aside0.mk H
     clear H
     go_wp2_with (first | ((with_reducible refine gate_callee (f := 46) rfl ?_); refine goesL_ (some 19) rfl rfl Try.func46 (by kernel_rfl) rfl #[.int .i64 x5_2] rfl (by (try simp only [List.map_toArray, List.map_cons, List.map_nil]); first | done | rfl | (simp only [List.length_drop, List.length_take]; rfl)) ?_; (with_reducible refine (hypercuberef8_Level.calls k2 x5_2 t164 _ A7.out).mono ?_); rintro e w' ⟨rfl, ⟨nd, rfl⟩⟩; refine ⟨_, rfl, ?_⟩) | ((with_reducible refine gate_builtin (b := .append) (xs := #[.tmp 22, .tmp 24]) rfl ?_); at_builtin; refine Kd.R_append (Kd.int .i64) (w0 := w) w.heap.size rfl (.tmp 22) (.tmp 24) 24 3 (.int .i64 0) 8 rfl Try.underlying24 info3 rfl (by decide) (by omega) u3 x3_2 x5_2 [.int .i64 x5_2] (fun _ => True) (fun _ => False) rfl rfl ?aP (fun _ hk => hk.elim) ?aF ?aO ?aB ?aS ?aL ?_; (case aP => exact rfl); (case aB => exact (by repeat (first | (with_reducible first | exact HB.out | apply below_alloc | apply pw_below_drewN | apply below_drew1) | exact HB.out))); (case aF => exact (fun _ _ => trivial)); (case aO => exact (by (with_reducible repeat (first | apply Kd.R_alloc | apply Kd.R_drewN | apply Kd.R_drew)); exact HO_3.out)); (case aS => exact (below_size (by repeat (first | (with_reducible first | exact HB.out | apply below_alloc | apply pw_below_drewN | apply below_drew1) | exact HB.out)))); (case aL => have := LMc9.out; omega); intro v166 w10 ho hb hg hat; rw [← Ny165.out] at ho; have n0_ := Aside0.mk (hb); have n1_ := Aside0.mk (ho); clear HB; clear HO_3; have HB := n0_; have HO167 := n1_; clear n0_ n1_; clear ho hb hg hat))
     go_roundg k2
     case measure => have := HK1.out; have := HK2.out; omega
     case rel => exact ⟨(y165), (wrap64 (x5_2 + 1)), (by first | rfl | (simp; done) | (simp [*]; done)), H', ⟨by have := HK1.out; have := HK2.out; omega⟩, ⟨by (with_reducible repeat (first | apply Kd.R_alloc | apply Kd.R_drewN | apply Kd.R_drew)); exact HO167.out⟩, ⟨by repeat (first | (with_reducible first | exact HB.out | apply below_alloc | apply pw_below_drewN | apply below_drew1) | exact HB.out)⟩⟩

end Go.Proofs.Ytlplaidcdocbmaa.PSortsOrders
