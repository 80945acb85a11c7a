-- Laid by dprint.py, a program of this session, with the kit's print.py over a doctored print; not trusted: Lean checks it.
import Derived.Test.YtlplaidcdocbmaaCore19
import Derived.Test.YtlplaidcdocbmaaPTreeManyx0
import Derived.Test.YtlplaidcdocbmaaPTreeManyx1
namespace Go.Proofs.Ytlplaidcdocbmaa.PTreeMany
open Go.RowKit Go.Proofs.YtlplaidcdocbmaaW.PrintWords Go.Proofs.YtlplaidcdocbmaaW.PrintLast Go.Proofs.YtlplaidcdocbmaaW.PrintMore
attribute [local go_sem] max2_int min2_int max_two min_two max_three min_three max_four min_four   -- for this text's walks alone
set_option linter.unusedVariables false
set_option linter.unusedSimpArgs false

attribute [local go_sem high] eqA49
-- NOT PRINTED: function 87 (slices_AppendSeq_int_int)

-- NOT PRINTED: function 60 (slices_Collect_int)

-- NOT PRINTED: function 61 (lattice_below)

/-! ### lattice_count: function 62 -/
def lattice_count.f (a0 : Int) : Option (Int) := some (wrap64 (2 ^ (mn (mx a0 0) 4).toNat))
set_option maxHeartbeats 8000000 in
set_option maxRecDepth 100000 in
theorem lattice_count.calls (a0 : Int) (r : Int) (w : World) (h : lattice_count.f a0 = some r) :
    Calls Try.prog 62 #[.int .i64 a0] w fun e w' => e = .returned (.int .i64 r) ∧ Below w.heap.size w w' := by
  have HB := Aside0.mk (Below.refl w.heap.size w)
  have H : (some (wrap64 (2 ^ (mn (mx a0 0) 4).toNat))) = some r := h
  clear h
  obtain ⟨ji2, hji2⟩ : ∃ j_ : Int, (mx a0 0) = j_ := ⟨_, rfl⟩
  replace H : (some (wrap64 (2 ^ (mn (ji2) 4).toNat))) = some r := by first | (rw [hji2] at H; exact H) | (simp only [hji2] at H ⊢; exact H)
  (try (have hji2l : 0 ≤ ji2 := by (rw [← hji2]; unfold mx; (repeat' split) <;> omega)))
  (try (have hji2m : 0 ≤ ji2 := by omega))
  have hji2_ : (if a0 < 0 then 0 else a0) = ji2 := hji2
  obtain ⟨ji3, hji3⟩ : ∃ j_ : Int, (mn (ji2) 4) = j_ := ⟨_, rfl⟩
  replace H : (some (wrap64 (2 ^ (ji3).toNat))) = some r := by first | (rw [hji3] at H; exact H) | (simp only [hji3] at H ⊢; exact H)
  have hji3_ : (if 4 < (ji2) then 4 else (ji2)) = ji3 := hji3
  obtain rfl := Option.some.inj H
  go_enter Try.func62, Try.ntmps62
  go_wp2
  go_ret
  exact ⟨by first | rfl | (simp [errW_none, errW_some] <;> rfl) | (simp only [← hji2, ← hji3]; first | rfl | (simp [errW_none, errW_some] <;> rfl)) | (simp [*, errW_none, errW_some] <;> rfl), by repeat (first | (with_reducible first | exact HB.out | apply below_alloc | apply pw_below_drewN | apply below_drew1) | exact HB.out)⟩

-- NOT PRINTED: function 104 (slices_insertionSortCmpFunc_int)

-- NOT PRINTED: function 114 (slices_swapRangeCmpFunc_int)

-- NOT PRINTED: function 109 (slices_rotateCmpFunc_int)

-- NOT PRINTED: function 105 (slices_symMergeCmpFunc_int)

-- NOT PRINTED: function 89 (slices_stableCmpFunc_int)

-- NOT PRINTED: function 63 (slices_SortStableFunc_int_int)

-- NOT PRINTED: function 66 (slices_Clone_int_int)

/-! ### lattice_Sets: function 29 -/
def lattice_Sets.f (a0 : Int) : Option (List Int) := if 0 ≤ a0 then (if a0 ≤ 4 then some (Core.setsI a0) else none) else none
theorem lattice_Sets.calls (a0 : Int) (r : List Int) (w : World) (h : lattice_Sets.f a0 = some r) :
    Calls Try.prog 29 #[.int .i64 a0] w fun e w' => ∃ v0_ : Value, e = .returned (v0_) ∧ Kd.R (Kd.int .i64) 3 w' w.heap.size (fun _ => True) v0_ r ∧ Below w.heap.size w w' := by
  unfold lattice_Sets.f at h
  split at h
  · split at h
    · obtain rfl := Option.some.inj h
      exact Core.sets_R a0 ‹_› ‹_› w
    · cases h
  · cases h

-- NOT PRINTED: function 67 (lattice_kept_int)

/-! ### lattice_Parents: function 30 -/
def lattice_Parents.f (a0 : Int) (a1 : Int) : Option (List Int) := if 0 ≤ a0 then (if a0 < 16 then (if 0 ≤ a1 then (if a1 ≤ 4 then some (Core.parI a0 a1) else none) else none) else none) else none
theorem lattice_Parents.calls (a0 : Int) (a1 : Int) (r : List Int) (w : World) (h : lattice_Parents.f a0 a1 = some r) :
    Calls Try.prog 30 #[.int .i64 a0, .int .i64 a1] w fun e w' => ∃ v0_ : Value, e = .returned (v0_) ∧ Kd.R (Kd.int .i64) 3 w' w.heap.size (fun _ => True) v0_ r ∧ Below w.heap.size w w' := by
  unfold lattice_Parents.f at h
  by_cases h1 : 0 ≤ a0
  · by_cases h2 : a0 < 16
    · by_cases h3 : 0 ≤ a1
      · by_cases h4 : a1 ≤ 4
        · rw [if_pos h1, if_pos h2, if_pos h3, if_pos h4] at h
          obtain rfl := Option.some.inj h
          exact Core.parents_R a0 a1 h1 h2 h3 h4 w
        · rw [if_pos h1, if_pos h2, if_pos h3, if_neg h4] at h; cases h
      · rw [if_pos h1, if_pos h2, if_neg h3] at h; cases h
    · rw [if_pos h1, if_neg h2] at h; cases h
  · rw [if_neg h1] at h; cases h

-- NOT PRINTED: function 72 (tree_least_int)

-- NOT PRINTED: function 73 (slices_Values_int_int)

-- NOT PRINTED: function 75 (api_Edge)

/-! ### tree_Plan: function 37 -/
def tree_Plan.f (l0_0 : List Int) (a0_1 : Int) (a1 : Int) : Option ((List (S49))) := if Core.okCards l0_0 = true ∧ (0 ≤ a1 ∧ a1 ≤ 1000000) then some (Core.planL S49.mk l0_0 a1) else none
theorem tree_Plan.calls (A0_0 : Option Addr) (c0_0 : Nat) (l0_0 : List Int) (a0_1 : Int) (a1 : Int) (r : List (S49)) (w : World) (hr0_0 : Kd.C (Kd.int .i64) w A0_0 l0_0.length l0_0) (hc0_0 : l0_0.length ≤ c0_0) (h : tree_Plan.f l0_0 a0_1 a1 = some r) :
    Calls Try.prog 37 #[.agg #[.slice A0_0 l0_0.length c0_0, .int .i64 a0_1], .int .i64 a1] w fun e w' => ∃ v0_ : Value, e = .returned (v0_) ∧ Kd.R k49 49 w' w.heap.size (fun _ => True) v0_ r ∧ Below w.heap.size w w' := by
  unfold tree_Plan.f at h
  by_cases hh : Core.okCards l0_0 = true ∧ (0 ≤ a1 ∧ a1 ≤ 1000000)
  · rw [if_pos hh] at h
    obtain rfl := Option.some.inj h
    exact Core.plan_R k49 rfl S49.mk (fun w base ok a b c => k49_mkM w base ok ⟨a, b, c⟩) A0_0 c0_0 l0_0 a0_1 a1 w hr0_0 hh.1 hh.2
  · rw [if_neg hh] at h; cases h

/-! ### hypercubelaw11_known: function 35 -/
def hypercubelaw11_known.f  : Option (Bool) := (tree_Plan.f (([3] : List Int)) 0 5).bind fun t120 => (if (t120.length : Int) = 2 then (if 0 < (t120.length : Int) then (if ((rd_T49 t120 0).f0) = 1 then (if ((rd_T49 t120 0).f1) = (-1) then (if 1 < (t120.length : Int) then (if ((rd_T49 t120 1).f1) = 1 then (some (!((rd_T49 t120 1).f2))) else (some false)) else (none)) else (some false)) else (some false)) else (none)) else (some false))
set_option maxHeartbeats 8000000 in
set_option maxRecDepth 100000 in
theorem hypercubelaw11_known.calls  (r : Bool) (w : World) (h : hypercubelaw11_known.f  = some r) :
    Calls Try.prog 35 #[] w fun e w' => e = .returned (.bool r) ∧ Below w.heap.size w w' := by
  have hu33 := Try.underlying33
  have HB := Aside0.mk (Below.refl w.heap.size w)
  have H : ((tree_Plan.f (([3] : List Int)) 0 5).bind fun t120 => (if (t120.length : Int) = 2 then (if 0 < (t120.length : Int) then (if ((rd_T49 t120 0).f0) = 1 then (if ((rd_T49 t120 0).f1) = (-1) then (if 1 < (t120.length : Int) then (if ((rd_T49 t120 1).f1) = 1 then (some (!((rd_T49 t120 1).f2))) else (some false)) else (none)) else (some false)) else (some false)) else (none)) else (some false))) = some r := h
  clear h
  obtain ⟨y117, hy117⟩ : ∃ y_ : List Int, y_ = (([3] : List Int)) := ⟨_, rfl⟩
  replace H : ((tree_Plan.f y117 0 5).bind fun t120 => (if (t120.length : Int) = 2 then (if 0 < (t120.length : Int) then (if ((rd_T49 t120 0).f0) = 1 then (if ((rd_T49 t120 0).f1) = (-1) then (if 1 < (t120.length : Int) then (if ((rd_T49 t120 1).f1) = 1 then (some (!((rd_T49 t120 1).f2))) else (some false)) else (none)) else (some false)) else (some false)) else (none)) else (some false))) = some r := by first | (rw [hy117]; with_reducible exact H) | (have H2_ := (Option.bind_some _ _).symm.trans H; rw [hy117]; with_reducible exact H2_) | (have H2_ := (Option.bind_some _ _).symm.trans H; with_reducible exact H2_) | with_reducible exact H | (rw [hy117]; exact H) | exact H
  have Ny117 := Aside0.mk hy117
  clear hy117
  replace H := Option.bind_eq_some_iff.mp H
  obtain ⟨t120, A10, H⟩ := H
  replace H : (if (t120.length : Int) = 2 then (if 0 < (t120.length : Int) then (if ((rd_T49 t120 0).f0) = 1 then (if ((rd_T49 t120 0).f1) = (-1) then (if 1 < (t120.length : Int) then (if ((rd_T49 t120 1).f1) = 1 then (some (!((rd_T49 t120 1).f2))) else (some false)) else (none)) else (some false)) else (some false)) else (none)) else (some false)) = some r := H
  have A1 := Aside0.mk A10
  clear A10
  by_cases c2 : (t120.length : Int) = 2
  · rw [if_pos c2] at H
    have c2b0 : ((t120.length : Int) == 2) = true := beq_iff_eq.mpr c2
    have c2b1 : ((t120.length : Int) != 2) = false := bne_eq_false_iff_eq.mpr c2
    clear c2
    by_cases c3 : 0 < (t120.length : Int)
    · rw [if_pos c3] at H
      have c3b0 : decide (0 < (t120.length : Int)) = true := decide_eq_true c3
      have c3b1 : decide (0 < t120.length) = true := decide_eq_true (by omega)
      clear c3
      by_cases c4 : ((rd_T49 t120 0).f0) = 1
      · rw [if_pos c4] at H
        have c4b0 : (((rd_T49 t120 0).f0) == 1) = true := beq_iff_eq.mpr c4
        have c4b1 : (((rd_T49 t120 0).f0) != 1) = false := bne_eq_false_iff_eq.mpr c4
        clear c4
        by_cases c5 : ((rd_T49 t120 0).f1) = (-1)
        · rw [if_pos c5] at H
          have c5b0 : (((rd_T49 t120 0).f1) == (-1)) = true := beq_iff_eq.mpr c5
          have c5b1 : (((rd_T49 t120 0).f1) != (-1)) = false := bne_eq_false_iff_eq.mpr c5
          clear c5
          by_cases c6 : 1 < (t120.length : Int)
          · rw [if_pos c6] at H
            have c6b0 : decide (1 < (t120.length : Int)) = true := decide_eq_true c6
            have c6b1 : decide (1 < t120.length) = true := decide_eq_true (by omega)
            clear c6
            by_cases c7 : ((rd_T49 t120 1).f1) = 1
            · rw [if_pos c7] at H
              have c7b0 : (((rd_T49 t120 1).f1) == 1) = true := beq_iff_eq.mpr c7
              have c7b1 : (((rd_T49 t120 1).f1) != 1) = false := bne_eq_false_iff_eq.mpr c7
              clear c7
              obtain rfl := Option.some.inj H
              go_enter Try.func35, Try.ntmps35
              go_wp2_with (first | ((with_reducible refine gate_dst (N := 2) rfl ?_); refine Kd.R_lit (Kd.int .i64) _ 3 ?hg (N := 2) ?hd (xs := ([3] : List Int)) (inner := [.int .i64 3]) (ok := fun _ => True) (okp := fun _ => True) ?hr ?hp (fun _ hk => hk) trivial (Below.refl _ _) (Nat.le_refl _) (by simp) ?_; (case hd => rfl); (case hg => rfl); (case hr => first | (go_simp; done) | (go_simp; rfl)); (case hp => exact (Reps.one (show Kd.M (Kd.int .i64) _ _ _ 3 [.int .i64 3] from rfl) (Reps.none _ _))); intro v118 w8 ho9 hb hg_ hnew_; clear hg_ hnew_; (first | rw [← Ny117.out] at ho9 | (simp only [Int.reduceToNat] at ho9; rw [← Ny117.out] at ho9)); have n0_ := Aside0.mk (Kd.R_lower ho9 (below_size (by repeat (first | (with_reducible first | exact HB.out | apply below_alloc | apply pw_below_drewN | apply below_drew1) | exact HB.out)))); have n1_ := Aside0.mk (below_step (by repeat (first | (with_reducible first | exact HB.out | apply below_alloc | apply pw_below_drewN | apply below_drew1) | exact HB.out)) hb); clear HB; have HO119 := n0_; have HB := n1_; clear n0_ n1_; clear hb ho9; obtain ⟨Ao10, co10, eo10⟩ := Kd.R_slice HO119.out; subst eo10) | ((with_reducible refine gate_callee (f := 37) rfl ?_); refine goesL_ (some 4) rfl rfl Try.func37 (by kernel_rfl) rfl #[.agg #[.slice Ao10 y117.length co10, .int .i64 0], .int .i64 5] rfl (by (try simp only [List.map_toArray, List.map_cons, List.map_nil]); first | done | rfl | (simp only [List.length_drop, List.length_take]; rfl)) ?_; (with_reducible refine (tree_Plan.calls _ _ y117 0 5 t120 _ ?side1 ?side2 A1.out).mono ?_); (case side1 => repeat (first | exact (Kd.R_reads' HO119.out).2.2 | (with_reducible refine Kd.C_alloc ?_ _) | (with_reducible refine Kd.C_drewN ?_ _) | (with_reducible refine Kd.C_drew ?_))); (case side2 => exact (Kd.R_reads' HO119.out).2.1); rintro e w11 ⟨v121, rfl, ho0, hb⟩; refine ⟨_, rfl, ?_⟩; have n0_ := Aside0.mk (Kd.R_below (by (with_reducible repeat (first | apply Kd.R_alloc | apply Kd.R_drewN | apply Kd.R_drew)); exact HO119.out) hb); have n1_ := Aside0.mk (Kd.R_lower ho0 (below_size (by repeat (first | (with_reducible first | exact HB.out | apply below_alloc | apply pw_below_drewN | apply below_drew1) | exact HB.out)))); have n2_ := Aside0.mk (below_step (by repeat (first | (with_reducible first | exact HB.out | apply below_alloc | apply pw_below_drewN | apply below_drew1) | exact HB.out)) hb); clear HO119; clear HB; have HO119 := n0_; have HO122 := n1_; have HB := n2_; clear n0_ n1_ n2_; (try clear hb); (try clear hb2); (try clear hk); (try clear hi); (try clear ho0); obtain ⟨Ao12, co12, eo12⟩ := Kd.R_slice HO122.out; subst eo12; have p123 : 0 ≤ (0 : Int) := (by omega); have q123 : 0 < (t120.length : Int) := of_decide_eq_true (by first | (with_reducible assumption) | assumption); obtain ⟨ad123, e123, hx123_0, hx123_1, hx123_2⟩ := at_T49 (Kd.R_reads' HO122.out).2.2 0 p123 q123; cases e123; have qi123 : (0 < t120.length) = True := eq_true (by omega); (try rw [show ((0 : Int)).toNat = 0 from rfl] at hx123_0); (try rw [show 0 * 3 = 0 from rfl] at hx123_0); (try rw [Addr.add_zero'] at hx123_0); (try rw [show ((0 : Int)).toNat = 0 from rfl] at hx123_1); (try rw [show 0 * 3 = 0 from rfl] at hx123_1); (try rw [Addr.add_zero'] at hx123_1); (try rw [show ((0 : Int)).toNat = 0 from rfl] at hx123_2); (try rw [show 0 * 3 = 0 from rfl] at hx123_2); (try rw [Addr.add_zero'] at hx123_2); replace p123 := eq_true p123; replace q123 := eq_true q123; have p124 : 0 ≤ (0 : Int) := (by omega); have q124 : 0 < (t120.length : Int) := of_decide_eq_true (by first | (with_reducible assumption) | assumption); obtain ⟨ad124, e124, hx124_0, hx124_1, hx124_2⟩ := at_T49 (Kd.R_reads' HO122.out).2.2 0 p124 q124; obtain rfl : ad123 = ad124 := (by injection e124); have qi124 : (0 < t120.length) = True := eq_true (by omega); (try rw [show ((0 : Int)).toNat = 0 from rfl] at hx124_0); (try rw [show 0 * 3 = 0 from rfl] at hx124_0); (try rw [Addr.add_zero'] at hx124_0); (try rw [show ((0 : Int)).toNat = 0 from rfl] at hx124_1); (try rw [show 0 * 3 = 0 from rfl] at hx124_1); (try rw [Addr.add_zero'] at hx124_1); (try rw [show ((0 : Int)).toNat = 0 from rfl] at hx124_2); (try rw [show 0 * 3 = 0 from rfl] at hx124_2); (try rw [Addr.add_zero'] at hx124_2); replace p124 := eq_true p124; replace q124 := eq_true q124; have p125 : 0 ≤ (1 : Int) := (by omega); have q125 : 1 < (t120.length : Int) := of_decide_eq_true (by first | (with_reducible assumption) | assumption); obtain ⟨ad125, e125, hx125_0, hx125_1, hx125_2⟩ := at_T49 (Kd.R_reads' HO122.out).2.2 1 p125 q125; obtain rfl : ad123 = ad125 := (by injection e125); (try simp only [show (1 : Int).toNat = 1 from rfl, Nat.reduceMul, Nat.reduceEqDiff, Go.Addr.add, ↓reduceIte] at hx125_0); (try simp only [show (1 : Int).toNat = 1 from rfl, Nat.reduceMul, Nat.reduceEqDiff, Go.Addr.add, ↓reduceIte] at hx125_1); (try simp only [show (1 : Int).toNat = 1 from rfl, Nat.reduceMul, Nat.reduceEqDiff, Go.Addr.add, ↓reduceIte] at hx125_2); have qi125 : (1 < t120.length) = True := eq_true (by omega); (try rw [show ((1 : Int)).toNat = 1 from rfl] at hx125_0); (try rw [show 1 * 3 = 3 from rfl] at hx125_0); (try rw [show ((1 : Int)).toNat = 1 from rfl] at hx125_1); (try rw [show 1 * 3 = 3 from rfl] at hx125_1); (try rw [show ((1 : Int)).toNat = 1 from rfl] at hx125_2); (try rw [show 1 * 3 = 3 from rfl] at hx125_2); replace p125 := eq_true p125; replace q125 := eq_true q125; have p126 : 0 ≤ (1 : Int) := (by omega); have q126 : 1 < (t120.length : Int) := of_decide_eq_true (by first | (with_reducible assumption) | assumption); obtain ⟨ad126, e126, hx126_0, hx126_1, hx126_2⟩ := at_T49 (Kd.R_reads' HO122.out).2.2 1 p126 q126; obtain rfl : ad123 = ad126 := (by injection e126); (try simp only [show (1 : Int).toNat = 1 from rfl, Nat.reduceMul, Nat.reduceEqDiff, Go.Addr.add, ↓reduceIte] at hx126_0); (try simp only [show (1 : Int).toNat = 1 from rfl, Nat.reduceMul, Nat.reduceEqDiff, Go.Addr.add, ↓reduceIte] at hx126_1); (try simp only [show (1 : Int).toNat = 1 from rfl, Nat.reduceMul, Nat.reduceEqDiff, Go.Addr.add, ↓reduceIte] at hx126_2); have qi126 : (1 < t120.length) = True := eq_true (by omega); (try rw [show ((1 : Int)).toNat = 1 from rfl] at hx126_0); (try rw [show 1 * 3 = 3 from rfl] at hx126_0); (try rw [show ((1 : Int)).toNat = 1 from rfl] at hx126_1); (try rw [show 1 * 3 = 3 from rfl] at hx126_1); (try rw [show ((1 : Int)).toNat = 1 from rfl] at hx126_2); (try rw [show 1 * 3 = 3 from rfl] at hx126_2); replace p126 := eq_true p126; replace q126 := eq_true q126))
              go_ret
              exact ⟨by first | rfl | (simp [errW_none, errW_some] <;> rfl) | (simp [*, errW_none, errW_some] <;> rfl), by repeat (first | (with_reducible first | exact HB.out | apply below_alloc | apply pw_below_drewN | apply below_drew1) | exact HB.out)⟩
            · rw [if_neg c7] at H
              have c7b0 : (((rd_T49 t120 1).f1) == 1) = false := beq_eq_false_iff_ne.mpr c7
              have c7b1 : (((rd_T49 t120 1).f1) != 1) = true := bne_iff_ne.mpr c7
              obtain rfl := Option.some.inj H
              go_enter Try.func35, Try.ntmps35
              go_wp2_with (first | ((with_reducible refine gate_dst (N := 2) rfl ?_); refine Kd.R_lit (Kd.int .i64) _ 3 ?hg (N := 2) ?hd (xs := ([3] : List Int)) (inner := [.int .i64 3]) (ok := fun _ => True) (okp := fun _ => True) ?hr ?hp (fun _ hk => hk) trivial (Below.refl _ _) (Nat.le_refl _) (by simp) ?_; (case hd => rfl); (case hg => rfl); (case hr => first | (go_simp; done) | (go_simp; rfl)); (case hp => exact (Reps.one (show Kd.M (Kd.int .i64) _ _ _ 3 [.int .i64 3] from rfl) (Reps.none _ _))); intro v118 w13 ho14 hb hg_ hnew_; clear hg_ hnew_; (first | rw [← Ny117.out] at ho14 | (simp only [Int.reduceToNat] at ho14; rw [← Ny117.out] at ho14)); have n0_ := Aside0.mk (Kd.R_lower ho14 (below_size (by repeat (first | (with_reducible first | exact HB.out | apply below_alloc | apply pw_below_drewN | apply below_drew1) | exact HB.out)))); have n1_ := Aside0.mk (below_step (by repeat (first | (with_reducible first | exact HB.out | apply below_alloc | apply pw_below_drewN | apply below_drew1) | exact HB.out)) hb); clear HB; have HO119 := n0_; have HB := n1_; clear n0_ n1_; clear hb ho14; obtain ⟨Ao15, co15, eo15⟩ := Kd.R_slice HO119.out; subst eo15) | ((with_reducible refine gate_callee (f := 37) rfl ?_); refine goesL_ (some 4) rfl rfl Try.func37 (by kernel_rfl) rfl #[.agg #[.slice Ao15 y117.length co15, .int .i64 0], .int .i64 5] rfl (by (try simp only [List.map_toArray, List.map_cons, List.map_nil]); first | done | rfl | (simp only [List.length_drop, List.length_take]; rfl)) ?_; (with_reducible refine (tree_Plan.calls _ _ y117 0 5 t120 _ ?side1 ?side2 A1.out).mono ?_); (case side1 => repeat (first | exact (Kd.R_reads' HO119.out).2.2 | (with_reducible refine Kd.C_alloc ?_ _) | (with_reducible refine Kd.C_drewN ?_ _) | (with_reducible refine Kd.C_drew ?_))); (case side2 => exact (Kd.R_reads' HO119.out).2.1); rintro e w16 ⟨v121, rfl, ho0, hb⟩; refine ⟨_, rfl, ?_⟩; have n0_ := Aside0.mk (Kd.R_below (by (with_reducible repeat (first | apply Kd.R_alloc | apply Kd.R_drewN | apply Kd.R_drew)); exact HO119.out) hb); have n1_ := Aside0.mk (Kd.R_lower ho0 (below_size (by repeat (first | (with_reducible first | exact HB.out | apply below_alloc | apply pw_below_drewN | apply below_drew1) | exact HB.out)))); have n2_ := Aside0.mk (below_step (by repeat (first | (with_reducible first | exact HB.out | apply below_alloc | apply pw_below_drewN | apply below_drew1) | exact HB.out)) hb); clear HO119; clear HB; have HO119 := n0_; have HO122 := n1_; have HB := n2_; clear n0_ n1_ n2_; (try clear hb); (try clear hb2); (try clear hk); (try clear hi); (try clear ho0); obtain ⟨Ao17, co17, eo17⟩ := Kd.R_slice HO122.out; subst eo17; have p123 : 0 ≤ (0 : Int) := (by omega); have q123 : 0 < (t120.length : Int) := of_decide_eq_true (by first | (with_reducible assumption) | assumption); obtain ⟨ad123, e123, hx123_0, hx123_1, hx123_2⟩ := at_T49 (Kd.R_reads' HO122.out).2.2 0 p123 q123; cases e123; have qi123 : (0 < t120.length) = True := eq_true (by omega); (try rw [show ((0 : Int)).toNat = 0 from rfl] at hx123_0); (try rw [show 0 * 3 = 0 from rfl] at hx123_0); (try rw [Addr.add_zero'] at hx123_0); (try rw [show ((0 : Int)).toNat = 0 from rfl] at hx123_1); (try rw [show 0 * 3 = 0 from rfl] at hx123_1); (try rw [Addr.add_zero'] at hx123_1); (try rw [show ((0 : Int)).toNat = 0 from rfl] at hx123_2); (try rw [show 0 * 3 = 0 from rfl] at hx123_2); (try rw [Addr.add_zero'] at hx123_2); replace p123 := eq_true p123; replace q123 := eq_true q123; have p124 : 0 ≤ (0 : Int) := (by omega); have q124 : 0 < (t120.length : Int) := of_decide_eq_true (by first | (with_reducible assumption) | assumption); obtain ⟨ad124, e124, hx124_0, hx124_1, hx124_2⟩ := at_T49 (Kd.R_reads' HO122.out).2.2 0 p124 q124; obtain rfl : ad123 = ad124 := (by injection e124); have qi124 : (0 < t120.length) = True := eq_true (by omega); (try rw [show ((0 : Int)).toNat = 0 from rfl] at hx124_0); (try rw [show 0 * 3 = 0 from rfl] at hx124_0); (try rw [Addr.add_zero'] at hx124_0); (try rw [show ((0 : Int)).toNat = 0 from rfl] at hx124_1); (try rw [show 0 * 3 = 0 from rfl] at hx124_1); (try rw [Addr.add_zero'] at hx124_1); (try rw [show ((0 : Int)).toNat = 0 from rfl] at hx124_2); (try rw [show 0 * 3 = 0 from rfl] at hx124_2); (try rw [Addr.add_zero'] at hx124_2); replace p124 := eq_true p124; replace q124 := eq_true q124; have p125 : 0 ≤ (1 : Int) := (by omega); have q125 : 1 < (t120.length : Int) := of_decide_eq_true (by first | (with_reducible assumption) | assumption); obtain ⟨ad125, e125, hx125_0, hx125_1, hx125_2⟩ := at_T49 (Kd.R_reads' HO122.out).2.2 1 p125 q125; obtain rfl : ad123 = ad125 := (by injection e125); (try simp only [show (1 : Int).toNat = 1 from rfl, Nat.reduceMul, Nat.reduceEqDiff, Go.Addr.add, ↓reduceIte] at hx125_0); (try simp only [show (1 : Int).toNat = 1 from rfl, Nat.reduceMul, Nat.reduceEqDiff, Go.Addr.add, ↓reduceIte] at hx125_1); (try simp only [show (1 : Int).toNat = 1 from rfl, Nat.reduceMul, Nat.reduceEqDiff, Go.Addr.add, ↓reduceIte] at hx125_2); have qi125 : (1 < t120.length) = True := eq_true (by omega); (try rw [show ((1 : Int)).toNat = 1 from rfl] at hx125_0); (try rw [show 1 * 3 = 3 from rfl] at hx125_0); (try rw [show ((1 : Int)).toNat = 1 from rfl] at hx125_1); (try rw [show 1 * 3 = 3 from rfl] at hx125_1); (try rw [show ((1 : Int)).toNat = 1 from rfl] at hx125_2); (try rw [show 1 * 3 = 3 from rfl] at hx125_2); replace p125 := eq_true p125; replace q125 := eq_true q125))
              go_ret
              exact ⟨by first | rfl | (simp [errW_none, errW_some] <;> rfl) | (simp [*, errW_none, errW_some] <;> rfl), by repeat (first | (with_reducible first | exact HB.out | apply below_alloc | apply pw_below_drewN | apply below_drew1) | exact HB.out)⟩
          · rw [if_neg c6] at H
            exact absurd H (by simp)
        · rw [if_neg c5] at H
          have c5b0 : (((rd_T49 t120 0).f1) == (-1)) = false := beq_eq_false_iff_ne.mpr c5
          have c5b1 : (((rd_T49 t120 0).f1) != (-1)) = true := bne_iff_ne.mpr c5
          obtain rfl := Option.some.inj H
          go_enter Try.func35, Try.ntmps35
          go_wp2_with (first | ((with_reducible refine gate_dst (N := 2) rfl ?_); refine Kd.R_lit (Kd.int .i64) _ 3 ?hg (N := 2) ?hd (xs := ([3] : List Int)) (inner := [.int .i64 3]) (ok := fun _ => True) (okp := fun _ => True) ?hr ?hp (fun _ hk => hk) trivial (Below.refl _ _) (Nat.le_refl _) (by simp) ?_; (case hd => rfl); (case hg => rfl); (case hr => first | (go_simp; done) | (go_simp; rfl)); (case hp => exact (Reps.one (show Kd.M (Kd.int .i64) _ _ _ 3 [.int .i64 3] from rfl) (Reps.none _ _))); intro v118 w18 ho19 hb hg_ hnew_; clear hg_ hnew_; (first | rw [← Ny117.out] at ho19 | (simp only [Int.reduceToNat] at ho19; rw [← Ny117.out] at ho19)); have n0_ := Aside0.mk (Kd.R_lower ho19 (below_size (by repeat (first | (with_reducible first | exact HB.out | apply below_alloc | apply pw_below_drewN | apply below_drew1) | exact HB.out)))); have n1_ := Aside0.mk (below_step (by repeat (first | (with_reducible first | exact HB.out | apply below_alloc | apply pw_below_drewN | apply below_drew1) | exact HB.out)) hb); clear HB; have HO119 := n0_; have HB := n1_; clear n0_ n1_; clear hb ho19; obtain ⟨Ao20, co20, eo20⟩ := Kd.R_slice HO119.out; subst eo20) | ((with_reducible refine gate_callee (f := 37) rfl ?_); refine goesL_ (some 4) rfl rfl Try.func37 (by kernel_rfl) rfl #[.agg #[.slice Ao20 y117.length co20, .int .i64 0], .int .i64 5] rfl (by (try simp only [List.map_toArray, List.map_cons, List.map_nil]); first | done | rfl | (simp only [List.length_drop, List.length_take]; rfl)) ?_; (with_reducible refine (tree_Plan.calls _ _ y117 0 5 t120 _ ?side1 ?side2 A1.out).mono ?_); (case side1 => repeat (first | exact (Kd.R_reads' HO119.out).2.2 | (with_reducible refine Kd.C_alloc ?_ _) | (with_reducible refine Kd.C_drewN ?_ _) | (with_reducible refine Kd.C_drew ?_))); (case side2 => exact (Kd.R_reads' HO119.out).2.1); rintro e w21 ⟨v121, rfl, ho0, hb⟩; refine ⟨_, rfl, ?_⟩; have n0_ := Aside0.mk (Kd.R_below (by (with_reducible repeat (first | apply Kd.R_alloc | apply Kd.R_drewN | apply Kd.R_drew)); exact HO119.out) hb); have n1_ := Aside0.mk (Kd.R_lower ho0 (below_size (by repeat (first | (with_reducible first | exact HB.out | apply below_alloc | apply pw_below_drewN | apply below_drew1) | exact HB.out)))); have n2_ := Aside0.mk (below_step (by repeat (first | (with_reducible first | exact HB.out | apply below_alloc | apply pw_below_drewN | apply below_drew1) | exact HB.out)) hb); clear HO119; clear HB; have HO119 := n0_; have HO122 := n1_; have HB := n2_; clear n0_ n1_ n2_; (try clear hb); (try clear hb2); (try clear hk); (try clear hi); (try clear ho0); obtain ⟨Ao22, co22, eo22⟩ := Kd.R_slice HO122.out; subst eo22; have p123 : 0 ≤ (0 : Int) := (by omega); have q123 : 0 < (t120.length : Int) := of_decide_eq_true (by first | (with_reducible assumption) | assumption); obtain ⟨ad123, e123, hx123_0, hx123_1, hx123_2⟩ := at_T49 (Kd.R_reads' HO122.out).2.2 0 p123 q123; cases e123; have qi123 : (0 < t120.length) = True := eq_true (by omega); (try rw [show ((0 : Int)).toNat = 0 from rfl] at hx123_0); (try rw [show 0 * 3 = 0 from rfl] at hx123_0); (try rw [Addr.add_zero'] at hx123_0); (try rw [show ((0 : Int)).toNat = 0 from rfl] at hx123_1); (try rw [show 0 * 3 = 0 from rfl] at hx123_1); (try rw [Addr.add_zero'] at hx123_1); (try rw [show ((0 : Int)).toNat = 0 from rfl] at hx123_2); (try rw [show 0 * 3 = 0 from rfl] at hx123_2); (try rw [Addr.add_zero'] at hx123_2); replace p123 := eq_true p123; replace q123 := eq_true q123; have p124 : 0 ≤ (0 : Int) := (by omega); have q124 : 0 < (t120.length : Int) := of_decide_eq_true (by first | (with_reducible assumption) | assumption); obtain ⟨ad124, e124, hx124_0, hx124_1, hx124_2⟩ := at_T49 (Kd.R_reads' HO122.out).2.2 0 p124 q124; obtain rfl : ad123 = ad124 := (by injection e124); have qi124 : (0 < t120.length) = True := eq_true (by omega); (try rw [show ((0 : Int)).toNat = 0 from rfl] at hx124_0); (try rw [show 0 * 3 = 0 from rfl] at hx124_0); (try rw [Addr.add_zero'] at hx124_0); (try rw [show ((0 : Int)).toNat = 0 from rfl] at hx124_1); (try rw [show 0 * 3 = 0 from rfl] at hx124_1); (try rw [Addr.add_zero'] at hx124_1); (try rw [show ((0 : Int)).toNat = 0 from rfl] at hx124_2); (try rw [show 0 * 3 = 0 from rfl] at hx124_2); (try rw [Addr.add_zero'] at hx124_2); replace p124 := eq_true p124; replace q124 := eq_true q124))
          go_ret
          exact ⟨by first | rfl | (simp [errW_none, errW_some] <;> rfl) | (simp [*, errW_none, errW_some] <;> rfl), by repeat (first | (with_reducible first | exact HB.out | apply below_alloc | apply pw_below_drewN | apply below_drew1) | exact HB.out)⟩
      · rw [if_neg c4] at H
        have c4b0 : (((rd_T49 t120 0).f0) == 1) = false := beq_eq_false_iff_ne.mpr c4
        have c4b1 : (((rd_T49 t120 0).f0) != 1) = true := bne_iff_ne.mpr c4
        obtain rfl := Option.some.inj H
        go_enter Try.func35, Try.ntmps35
        go_wp2_with (first | ((with_reducible refine gate_dst (N := 2) rfl ?_); refine Kd.R_lit (Kd.int .i64) _ 3 ?hg (N := 2) ?hd (xs := ([3] : List Int)) (inner := [.int .i64 3]) (ok := fun _ => True) (okp := fun _ => True) ?hr ?hp (fun _ hk => hk) trivial (Below.refl _ _) (Nat.le_refl _) (by simp) ?_; (case hd => rfl); (case hg => rfl); (case hr => first | (go_simp; done) | (go_simp; rfl)); (case hp => exact (Reps.one (show Kd.M (Kd.int .i64) _ _ _ 3 [.int .i64 3] from rfl) (Reps.none _ _))); intro v118 w23 ho24 hb hg_ hnew_; clear hg_ hnew_; (first | rw [← Ny117.out] at ho24 | (simp only [Int.reduceToNat] at ho24; rw [← Ny117.out] at ho24)); have n0_ := Aside0.mk (Kd.R_lower ho24 (below_size (by repeat (first | (with_reducible first | exact HB.out | apply below_alloc | apply pw_below_drewN | apply below_drew1) | exact HB.out)))); have n1_ := Aside0.mk (below_step (by repeat (first | (with_reducible first | exact HB.out | apply below_alloc | apply pw_below_drewN | apply below_drew1) | exact HB.out)) hb); clear HB; have HO119 := n0_; have HB := n1_; clear n0_ n1_; clear hb ho24; obtain ⟨Ao25, co25, eo25⟩ := Kd.R_slice HO119.out; subst eo25) | ((with_reducible refine gate_callee (f := 37) rfl ?_); refine goesL_ (some 4) rfl rfl Try.func37 (by kernel_rfl) rfl #[.agg #[.slice Ao25 y117.length co25, .int .i64 0], .int .i64 5] rfl (by (try simp only [List.map_toArray, List.map_cons, List.map_nil]); first | done | rfl | (simp only [List.length_drop, List.length_take]; rfl)) ?_; (with_reducible refine (tree_Plan.calls _ _ y117 0 5 t120 _ ?side1 ?side2 A1.out).mono ?_); (case side1 => repeat (first | exact (Kd.R_reads' HO119.out).2.2 | (with_reducible refine Kd.C_alloc ?_ _) | (with_reducible refine Kd.C_drewN ?_ _) | (with_reducible refine Kd.C_drew ?_))); (case side2 => exact (Kd.R_reads' HO119.out).2.1); rintro e w26 ⟨v121, rfl, ho0, hb⟩; refine ⟨_, rfl, ?_⟩; have n0_ := Aside0.mk (Kd.R_below (by (with_reducible repeat (first | apply Kd.R_alloc | apply Kd.R_drewN | apply Kd.R_drew)); exact HO119.out) hb); have n1_ := Aside0.mk (Kd.R_lower ho0 (below_size (by repeat (first | (with_reducible first | exact HB.out | apply below_alloc | apply pw_below_drewN | apply below_drew1) | exact HB.out)))); have n2_ := Aside0.mk (below_step (by repeat (first | (with_reducible first | exact HB.out | apply below_alloc | apply pw_below_drewN | apply below_drew1) | exact HB.out)) hb); clear HO119; clear HB; have HO119 := n0_; have HO122 := n1_; have HB := n2_; clear n0_ n1_ n2_; (try clear hb); (try clear hb2); (try clear hk); (try clear hi); (try clear ho0); obtain ⟨Ao27, co27, eo27⟩ := Kd.R_slice HO122.out; subst eo27; have p123 : 0 ≤ (0 : Int) := (by omega); have q123 : 0 < (t120.length : Int) := of_decide_eq_true (by first | (with_reducible assumption) | assumption); obtain ⟨ad123, e123, hx123_0, hx123_1, hx123_2⟩ := at_T49 (Kd.R_reads' HO122.out).2.2 0 p123 q123; cases e123; have qi123 : (0 < t120.length) = True := eq_true (by omega); (try rw [show ((0 : Int)).toNat = 0 from rfl] at hx123_0); (try rw [show 0 * 3 = 0 from rfl] at hx123_0); (try rw [Addr.add_zero'] at hx123_0); (try rw [show ((0 : Int)).toNat = 0 from rfl] at hx123_1); (try rw [show 0 * 3 = 0 from rfl] at hx123_1); (try rw [Addr.add_zero'] at hx123_1); (try rw [show ((0 : Int)).toNat = 0 from rfl] at hx123_2); (try rw [show 0 * 3 = 0 from rfl] at hx123_2); (try rw [Addr.add_zero'] at hx123_2); replace p123 := eq_true p123; replace q123 := eq_true q123))
        go_ret
        exact ⟨by first | rfl | (simp [errW_none, errW_some] <;> rfl) | (simp [*, errW_none, errW_some] <;> rfl), by repeat (first | (with_reducible first | exact HB.out | apply below_alloc | apply pw_below_drewN | apply below_drew1) | exact HB.out)⟩
    · rw [if_neg c3] at H
      exact absurd H (by simp)
  · rw [if_neg c2] at H
    have c2b0 : ((t120.length : Int) == 2) = false := beq_eq_false_iff_ne.mpr c2
    have c2b1 : ((t120.length : Int) != 2) = true := bne_iff_ne.mpr c2
    obtain rfl := Option.some.inj H
    go_enter Try.func35, Try.ntmps35
    go_wp2_with (first | ((with_reducible refine gate_dst (N := 2) rfl ?_); refine Kd.R_lit (Kd.int .i64) _ 3 ?hg (N := 2) ?hd (xs := ([3] : List Int)) (inner := [.int .i64 3]) (ok := fun _ => True) (okp := fun _ => True) ?hr ?hp (fun _ hk => hk) trivial (Below.refl _ _) (Nat.le_refl _) (by simp) ?_; (case hd => rfl); (case hg => rfl); (case hr => first | (go_simp; done) | (go_simp; rfl)); (case hp => exact (Reps.one (show Kd.M (Kd.int .i64) _ _ _ 3 [.int .i64 3] from rfl) (Reps.none _ _))); intro v118 w28 ho29 hb hg_ hnew_; clear hg_ hnew_; (first | rw [← Ny117.out] at ho29 | (simp only [Int.reduceToNat] at ho29; rw [← Ny117.out] at ho29)); have n0_ := Aside0.mk (Kd.R_lower ho29 (below_size (by repeat (first | (with_reducible first | exact HB.out | apply below_alloc | apply pw_below_drewN | apply below_drew1) | exact HB.out)))); have n1_ := Aside0.mk (below_step (by repeat (first | (with_reducible first | exact HB.out | apply below_alloc | apply pw_below_drewN | apply below_drew1) | exact HB.out)) hb); clear HB; have HO119 := n0_; have HB := n1_; clear n0_ n1_; clear hb ho29; obtain ⟨Ao30, co30, eo30⟩ := Kd.R_slice HO119.out; subst eo30) | ((with_reducible refine gate_callee (f := 37) rfl ?_); refine goesL_ (some 4) rfl rfl Try.func37 (by kernel_rfl) rfl #[.agg #[.slice Ao30 y117.length co30, .int .i64 0], .int .i64 5] rfl (by (try simp only [List.map_toArray, List.map_cons, List.map_nil]); first | done | rfl | (simp only [List.length_drop, List.length_take]; rfl)) ?_; (with_reducible refine (tree_Plan.calls _ _ y117 0 5 t120 _ ?side1 ?side2 A1.out).mono ?_); (case side1 => repeat (first | exact (Kd.R_reads' HO119.out).2.2 | (with_reducible refine Kd.C_alloc ?_ _) | (with_reducible refine Kd.C_drewN ?_ _) | (with_reducible refine Kd.C_drew ?_))); (case side2 => exact (Kd.R_reads' HO119.out).2.1); rintro e w31 ⟨v121, rfl, ho0, hb⟩; refine ⟨_, rfl, ?_⟩; have n0_ := Aside0.mk (Kd.R_below (by (with_reducible repeat (first | apply Kd.R_alloc | apply Kd.R_drewN | apply Kd.R_drew)); exact HO119.out) hb); have n1_ := Aside0.mk (Kd.R_lower ho0 (below_size (by repeat (first | (with_reducible first | exact HB.out | apply below_alloc | apply pw_below_drewN | apply below_drew1) | exact HB.out)))); have n2_ := Aside0.mk (below_step (by repeat (first | (with_reducible first | exact HB.out | apply below_alloc | apply pw_below_drewN | apply below_drew1) | exact HB.out)) hb); clear HO119; clear HB; have HO119 := n0_; have HO122 := n1_; have HB := n2_; clear n0_ n1_ n2_; (try clear hb); (try clear hb2); (try clear hk); (try clear hi); (try clear ho0); obtain ⟨Ao32, co32, eo32⟩ := Kd.R_slice HO122.out; subst eo32))
    go_ret
    exact ⟨by first | rfl | (simp [errW_none, errW_some] <;> rfl) | (simp [*, errW_none, errW_some] <;> rfl), by repeat (first | (with_reducible first | exact HB.out | apply below_alloc | apply pw_below_drewN | apply below_drew1) | exact HB.out)⟩

/-! ### hypercubelaw11_within: function 36 -/
def hypercubelaw11_within.f (a0 : Int) (a1 : Int) : Option (Int) := if a1 = 0 then (none) else (if (Int.tmod a0 a1) < 0 then (some (wrap64 ((Int.tmod a0 a1) + a1))) else (some (Int.tmod a0 a1)))
set_option maxHeartbeats 8000000 in
set_option maxRecDepth 100000 in
theorem hypercubelaw11_within.calls (a0 : Int) (a1 : Int) (r : Int) (w : World) (h : hypercubelaw11_within.f a0 a1 = some r) :
    Calls Try.prog 36 #[.int .i64 a0, .int .i64 a1] w fun e w' => e = .returned (.int .i64 r) ∧ Drawn0 w w' := by
  have H : (if a1 = 0 then (none) else (if (Int.tmod a0 a1) < 0 then (some (wrap64 ((Int.tmod a0 a1) + a1))) else (some (Int.tmod a0 a1)))) = some r := h
  clear h
  by_cases c3 : a1 = 0
  · rw [if_pos c3] at H
    exact absurd H (by simp)
  · rw [if_neg c3] at H
    have c3b0 : (a1 == 0) = false := beq_eq_false_iff_ne.mpr c3
    have c3b1 : (a1 != 0) = true := bne_iff_ne.mpr c3
    by_cases c4 : (Int.tmod a0 a1) < 0
    · rw [if_pos c4] at H
      have c4b0 : decide ((Int.tmod a0 a1) < 0) = true := decide_eq_true c4
      clear c4
      obtain rfl := Option.some.inj H
      go_enter Try.func36, Try.ntmps36
      go_wp2
      go_ret
      exact ⟨by first | rfl | (simp; done) | (simp [*]; done), by repeat (first | exact Drawn0.refl _ | apply Drawn0.step)⟩
    · rw [if_neg c4] at H
      have c4b0 : decide ((Int.tmod a0 a1) < 0) = false := decide_eq_false c4
      clear c4
      obtain rfl := Option.some.inj H
      go_enter Try.func36, Try.ntmps36
      go_wp2
      go_ret
      exact ⟨by first | rfl | (simp; done) | (simp [*]; done), by repeat (first | exact Drawn0.refl _ | apply Drawn0.step)⟩

/-! ### hypercuberef10_Same: function 38 -/
def hypercuberef10_Same.l0 : Nat → List (S49) → List (S49) → Int → Option (Bool)
  | 0, _, _, _ => none
  | k + 1, x0, x1, x5 => if x5 < (x0.length : Int) then (if 0 ≤ x5 then (if x5 < (x1.length : Int) then (if (!(((rd_T49 x0 x5).f0) == ((rd_T49 x1 x5).f0)) || (!(((rd_T49 x0 x5).f1) == ((rd_T49 x1 x5).f1)) || (!(((rd_T49 x0 x5).f2) == ((rd_T49 x1 x5).f2))))) = true then (some false) else (hypercuberef10_Same.l0 k x0 x1 (wrap64 (x5 + 1)))) else (none)) else (none)) else (some true)
def hypercuberef10_Same.f (k : Nat) (l0 : List (S49)) (l1 : List (S49)) : Option (Bool) := if (l0.length : Int) = (l1.length : Int) then (hypercuberef10_Same.l0 k l0 l1 0) else (some false)
theorem hypercuberef10_Same.mono_l : ∀ k, (∀ y0 y1 y2, LeO (hypercuberef10_Same.l0 k y0 y1 y2) (hypercuberef10_Same.l0 (k + 1) y0 y1 y2))
  | 0 => fun _ _ _ r h => by simp [hypercuberef10_Same.l0] at h
  | k + 1 => by
    have ih0 := hypercuberef10_Same.mono_l k
    · intro y0 y1 y2
      unfold hypercuberef10_Same.l0
      repeat' first
      | (with_reducible exact ih0 _ _ _)
      | (with_reducible exact LeO.refl _)
      | (with_reducible exact LeO.none _)
      | (with_reducible refine LeO.ite ?_ ?_)
      | (with_reducible refine LeO.bind ?_ (fun _ => ?_))
      | exact ih0 _ _ _
      | exact LeO.none _
      | refine LeO.ite ?_ ?_
      | refine LeO.bind ?_ (fun _ => ?_)
theorem hypercuberef10_Same.mono : ∀ a0 a1 k, LeO (hypercuberef10_Same.f k a0 a1) (hypercuberef10_Same.f (k + 1) a0 a1) := by
  intro a0 a1 k
  have ih0 := hypercuberef10_Same.mono_l k
  unfold hypercuberef10_Same.f
  repeat' first
      | (with_reducible exact ih0 _ _ _)
      | (with_reducible exact LeO.refl _)
      | (with_reducible exact LeO.none _)
      | (with_reducible refine LeO.ite ?_ ?_)
      | (with_reducible refine LeO.bind ?_ (fun _ => ?_))
      | exact ih0 _ _ _
      | exact LeO.none _
      | refine LeO.ite ?_ ?_
      | refine LeO.bind ?_ (fun _ => ?_)
set_option maxHeartbeats 8000000 in
set_option maxRecDepth 100000 in
theorem hypercuberef10_Same.calls (k : Nat) (A0 : Option Addr) (c0 : Nat) (l0 : List (S49)) (A1 : Option Addr) (c1 : Nat) (l1 : List (S49)) (r : Bool) (w : World) (hr0 : Kd.C k49 w A0 l0.length l0) (hc0 : l0.length ≤ c0) (hr1 : Kd.C k49 w A1 l1.length l1) (hc1 : l1.length ≤ c1) (h : hypercuberef10_Same.f k l0 l1 = some r) :
    Calls Try.prog 38 #[.slice A0 l0.length c0, .slice A1 l1.length c1] w fun e w' => e = .returned (.bool r) ∧ Drawn0 w w' := by
  have hu49 := Try.underlying49
  have HR0 := Aside0.mk hr0
  have HC0 := Aside0.mk hc0
  clear hr0 hc0
  have HR1 := Aside0.mk hr1
  have HC1 := Aside0.mk hc1
  clear hr1 hc1
  have H : (if (l0.length : Int) = (l1.length : Int) then (hypercuberef10_Same.l0 k l0 l1 0) else (some false)) = some r := h
  clear h
  by_cases c3 : (l0.length : Int) = (l1.length : Int)
  · rw [if_pos c3] at H
    have c3b0 : ((l0.length : Int) == (l1.length : Int)) = true := beq_iff_eq.mpr c3
    have c3b1 : ((l0.length : Int) != (l1.length : Int)) = false := bne_eq_false_iff_eq.mpr c3
    have c3b2 : (l0.length == l1.length) = true := by first | simpa using c3 | (simp at c3 ⊢; omega)
    clear c3
    have H' := Aside0.mk H
    clear H
    go_enter Try.func38, Try.ntmps38
    go_wp2
    repeat (go_quiet (fail); try go_wp2)
    go_loopg [5] k (fun kq v5 w' => ∃ (x5_1 : Int), v5 = .int .i64 x5_1 ∧ Aside0 (hypercuberef10_Same.l0 kq l0 l1 x5_1 = some r) ∧ Aside0 (kq ≤ k) ∧ Drawn0 w w')
    case atStart => exact ⟨(0), (by first | rfl | (simp; done) | (simp [*]; done)), H', ⟨Nat.le_refl _⟩, by repeat (first | exact Drawn0.refl _ | apply Drawn0.step)⟩
    case round =>
      clear H'
      try clear c1
      try clear p2
      try clear c3
      try clear c3b0
      try clear c3b1
      try clear c3b2
      obtain ⟨x5_1, rfl, HA, HK1, ⟨m1, rfl⟩⟩ := hrel
      cases gk with
      | zero => exact absurd HA.out (by simp [hypercuberef10_Same.l0])
      | succ k1 =>
        have H := HA.out
        clear HA
        simp only [hypercuberef10_Same.l0] at H
        by_cases c4 : x5_1 < (l0.length : Int)
        · rw [if_pos c4] at H
          have c4b0 : decide (x5_1 < (l0.length : Int)) = true := decide_eq_true c4
          clear c4
          by_cases c5 : 0 ≤ x5_1
          · rw [if_pos c5] at H
            have c5b0 : decide (0 ≤ x5_1) = true := decide_eq_true c5
            clear c5
            by_cases c6 : x5_1 < (l1.length : Int)
            · rw [if_pos c6] at H
              have c6b0 : decide (x5_1 < (l1.length : Int)) = true := decide_eq_true c6
              clear c6
              by_cases c7 : (!(((rd_T49 l0 x5_1).f0) == ((rd_T49 l1 x5_1).f0)) || (!(((rd_T49 l0 x5_1).f1) == ((rd_T49 l1 x5_1).f1)) || (!(((rd_T49 l0 x5_1).f2) == ((rd_T49 l1 x5_1).f2))))) = true
              · rw [if_pos c7] at H
                have c7b0 : (!(((rd_T49 l0 x5_1).f0) == ((rd_T49 l1 x5_1).f0)) || (!(((rd_T49 l0 x5_1).f1) == ((rd_T49 l1 x5_1).f1)) || (!(((rd_T49 l0 x5_1).f2) == ((rd_T49 l1 x5_1).f2))))) = true := c7
                clear c7
                obtain rfl := Option.some.inj H
                have p127 : 0 ≤ (x5_1 : Int) := of_decide_eq_true (by first | (with_reducible assumption) | assumption)
                have q127 : x5_1 < (l0.length : Int) := of_decide_eq_true (by first | (with_reducible assumption) | assumption)
                obtain ⟨ad127, e127, hx127_0, hx127_1, hx127_2⟩ := at_T49 HR0.out x5_1 p127 q127
                cases e127
                replace p127 := eq_true p127
                replace q127 := eq_true q127
                have p128 : 0 ≤ (x5_1 : Int) := of_decide_eq_true (by first | (with_reducible assumption) | assumption)
                have q128 : x5_1 < (l1.length : Int) := of_decide_eq_true (by first | (with_reducible assumption) | assumption)
                obtain ⟨ad128, e128, hx128_0, hx128_1, hx128_2⟩ := at_T49 HR1.out x5_1 p128 q128
                cases e128
                replace p128 := eq_true p128
                replace q128 := eq_true q128
                go_wp2
                repeat (go_quiet (fail); try go_wp2)
                go_ret
                exact ⟨by first | rfl | (simp; done) | (simp [*]; done), by repeat (first | exact Drawn0.refl _ | apply Drawn0.step)⟩
              · rw [if_neg c7] at H
                have c7b0 : (!(((rd_T49 l0 x5_1).f0) == ((rd_T49 l1 x5_1).f0)) || (!(((rd_T49 l0 x5_1).f1) == ((rd_T49 l1 x5_1).f1)) || (!(((rd_T49 l0 x5_1).f2) == ((rd_T49 l1 x5_1).f2))))) = false := by simpa using c7
                clear c7
                have H' := Aside0.mk H
                clear H
                have p127 : 0 ≤ (x5_1 : Int) := of_decide_eq_true (by first | (with_reducible assumption) | assumption)
                have q127 : x5_1 < (l0.length : Int) := of_decide_eq_true (by first | (with_reducible assumption) | assumption)
                obtain ⟨ad127, e127, hx127_0, hx127_1, hx127_2⟩ := at_T49 HR0.out x5_1 p127 q127
                cases e127
                replace p127 := eq_true p127
                replace q127 := eq_true q127
                have p128 : 0 ≤ (x5_1 : Int) := of_decide_eq_true (by first | (with_reducible assumption) | assumption)
                have q128 : x5_1 < (l1.length : Int) := of_decide_eq_true (by first | (with_reducible assumption) | assumption)
                obtain ⟨ad128, e128, hx128_0, hx128_1, hx128_2⟩ := at_T49 HR1.out x5_1 p128 q128
                cases e128
                replace p128 := eq_true p128
                replace q128 := eq_true q128
                go_wp2
                repeat (go_quiet (fail); try go_wp2)
                go_roundg k1
                case measure => have := HK1.out; omega
                case rel => exact ⟨(wrap64 (x5_1 + 1)), (by first | rfl | (simp; done) | (simp [*]; done)), H', ⟨by have := HK1.out; omega⟩, by repeat (first | exact Drawn0.refl _ | apply Drawn0.step)⟩
            · rw [if_neg c6] at H
              exact absurd H (by simp)
          · rw [if_neg c5] at H
            exact absurd H (by simp)
        · rw [if_neg c4] at H
          have c4b0 : decide (x5_1 < (l0.length : Int)) = false := decide_eq_false c4
          clear c4
          obtain rfl := Option.some.inj H
          go_wp2
          repeat (go_quiet (fail); try go_wp2)
          go_ret
          exact ⟨by first | rfl | (simp; done) | (simp [*]; done), by repeat (first | exact Drawn0.refl _ | apply Drawn0.step)⟩
  · rw [if_neg c3] at H
    have c3b0 : ((l0.length : Int) == (l1.length : Int)) = false := beq_eq_false_iff_ne.mpr c3
    have c3b1 : ((l0.length : Int) != (l1.length : Int)) = true := bne_iff_ne.mpr c3
    have c3b2 : (l0.length == l1.length) = false := by first | simpa using c3 | (simp at c3 ⊢; omega)
    obtain rfl := Option.some.inj H
    go_enter Try.func38, Try.ntmps38
    go_wp2
    repeat (go_quiet (fail); try go_wp2)
    go_ret
    exact ⟨by first | rfl | (simp; done) | (simp [*]; done), by repeat (first | exact Drawn0.refl _ | apply Drawn0.step)⟩

end Go.Proofs.Ytlplaidcdocbmaa.PTreeMany
