-- Laid by dprint.py, a program of this session, with the kit's print.py over a doctored print; not trusted: Lean checks it.
import Derived.Test.YtlplaidcdocbmaaCore11
import Derived.Test.YtlplaidcdocbmaaPLatticeLevelsx0
namespace Go.Proofs.Ytlplaidcdocbmaa.PLatticeLevels
open Go.RowKit Go.Proofs.YtlplaidcdocbmaaW.PrintWords Go.Proofs.YtlplaidcdocbmaaW.PrintLast Go.Proofs.YtlplaidcdocbmaaW.PrintMore
attribute [local go_sem] max2_int min2_int max_two min_two max_three min_three max_four min_four   -- for this text's walks alone
set_option linter.unusedVariables false
set_option linter.unusedSimpArgs false

-- NOT PRINTED: function 87 (slices_AppendSeq_int_int)

-- NOT PRINTED: function 60 (slices_Collect_int)

-- NOT PRINTED: function 61 (lattice_below)

/-! ### lattice_count: function 62 -/
def lattice_count.f (a0 : Int) : Option (Int) := some (wrap64 (2 ^ (mn (mx a0 0) 4).toNat))
set_option maxHeartbeats 8000000 in
set_option maxRecDepth 100000 in
theorem lattice_count.calls (a0 : Int) (r : Int) (w : World) (h : lattice_count.f a0 = some r) :
    Calls Try.prog 62 #[.int .i64 a0] w fun e w' => e = .returned (.int .i64 r) ∧ Below w.heap.size w w' := by
  have HB := Aside0.mk (Below.refl w.heap.size w)
  have H : (some (wrap64 (2 ^ (mn (mx a0 0) 4).toNat))) = some r := h
  clear h
  obtain ⟨ji2, hji2⟩ : ∃ j_ : Int, (mx a0 0) = j_ := ⟨_, rfl⟩
  replace H : (some (wrap64 (2 ^ (mn (ji2) 4).toNat))) = some r := by first | (rw [hji2] at H; exact H) | (simp only [hji2] at H ⊢; exact H)
  (try (have hji2l : 0 ≤ ji2 := by (rw [← hji2]; unfold mx; (repeat' split) <;> omega)))
  (try (have hji2m : 0 ≤ ji2 := by omega))
  have hji2_ : (if a0 < 0 then 0 else a0) = ji2 := hji2
  obtain ⟨ji3, hji3⟩ : ∃ j_ : Int, (mn (ji2) 4) = j_ := ⟨_, rfl⟩
  replace H : (some (wrap64 (2 ^ (ji3).toNat))) = some r := by first | (rw [hji3] at H; exact H) | (simp only [hji3] at H ⊢; exact H)
  have hji3_ : (if 4 < (ji2) then 4 else (ji2)) = ji3 := hji3
  obtain rfl := Option.some.inj H
  go_enter Try.func62, Try.ntmps62
  go_wp2
  go_ret
  exact ⟨by first | rfl | (simp [errW_none, errW_some] <;> rfl) | (simp only [← hji2, ← hji3]; first | rfl | (simp [errW_none, errW_some] <;> rfl)) | (simp [*, errW_none, errW_some] <;> rfl), by repeat (first | (with_reducible first | exact HB.out | apply below_alloc | apply pw_below_drewN | apply below_drew1) | exact HB.out)⟩

-- NOT PRINTED: function 104 (slices_insertionSortCmpFunc_int)

-- NOT PRINTED: function 114 (slices_swapRangeCmpFunc_int)

-- NOT PRINTED: function 109 (slices_rotateCmpFunc_int)

-- NOT PRINTED: function 105 (slices_symMergeCmpFunc_int)

-- NOT PRINTED: function 89 (slices_stableCmpFunc_int)

-- NOT PRINTED: function 63 (slices_SortStableFunc_int_int)

-- NOT PRINTED: function 66 (slices_Clone_int_int)

/-! ### lattice_Sets: function 29 -/
def lattice_Sets.f (a0 : Int) : Option (List Int) := if 0 ≤ a0 then (if a0 ≤ 4 then some (Core.setsI a0) else none) else none
theorem lattice_Sets.calls (a0 : Int) (r : List Int) (w : World) (h : lattice_Sets.f a0 = some r) :
    Calls Try.prog 29 #[.int .i64 a0] w fun e w' => ∃ v0_ : Value, e = .returned (v0_) ∧ Kd.R (Kd.int .i64) 3 w' w.heap.size (fun _ => True) v0_ r ∧ Below w.heap.size w w' := by
  unfold lattice_Sets.f at h
  split at h
  · split at h
    · obtain rfl := Option.some.inj h
      exact Core.sets_R a0 ‹_› ‹_› w
    · cases h
  · cases h

-- NOT PRINTED: function 67 (lattice_kept_int)

/-! ### lattice_Parents: function 30 -/
def lattice_Parents.f (a0 : Int) (a1 : Int) : Option (List Int) := if 0 ≤ a0 then (if a0 < 16 then (if 0 ≤ a1 then (if a1 ≤ 4 then some (Core.parI a0 a1) else none) else none) else none) else none
theorem lattice_Parents.calls (a0 : Int) (a1 : Int) (r : List Int) (w : World) (h : lattice_Parents.f a0 a1 = some r) :
    Calls Try.prog 30 #[.int .i64 a0, .int .i64 a1] w fun e w' => ∃ v0_ : Value, e = .returned (v0_) ∧ Kd.R (Kd.int .i64) 3 w' w.heap.size (fun _ => True) v0_ r ∧ Below w.heap.size w w' := by
  unfold lattice_Parents.f at h
  by_cases h1 : 0 ≤ a0
  · by_cases h2 : a0 < 16
    · by_cases h3 : 0 ≤ a1
      · by_cases h4 : a1 ≤ 4
        · rw [if_pos h1, if_pos h2, if_pos h3, if_pos h4] at h
          obtain rfl := Option.some.inj h
          exact Core.parents_R a0 a1 h1 h2 h3 h4 w
        · rw [if_pos h1, if_pos h2, if_pos h3, if_neg h4] at h; cases h
      · rw [if_pos h1, if_pos h2, if_neg h3] at h; cases h
    · rw [if_pos h1, if_neg h2] at h; cases h
  · rw [if_neg h1] at h; cases h

/-! ### bits_OnesCount32: function 92 -/


/-! ### bits_OnesCount64: function 93 -/


/-! ### bits_OnesCount: function 69 -/


/-! ### lattice_Level: function 31 -/
def lattice_Level.f (a0 : Int) : Option (Int) := if 0 ≤ a0 then (if a0 < 16 then some ((Core.lev a0.toNat : Nat) : Int) else none) else none
theorem lattice_Level.calls (a0 : Int) (r : Int) (w : World) (h : lattice_Level.f a0 = some r) :
    Calls Try.prog 31 #[.int .i64 a0] w fun e w' => e = .returned (.int .i64 r) ∧ Drawn0 w w' := by
  unfold lattice_Level.f at h
  by_cases h1 : 0 ≤ a0
  · by_cases h2 : a0 < 16
    · rw [if_pos h1, if_pos h2] at h
      obtain rfl := Option.some.inj h
      exact Core.level_K a0 h1 h2 w
    · rw [if_pos h1, if_neg h2] at h; cases h
  · rw [if_neg h1] at h; cases h

/-! ### hypercubelaw8_known: function 27 -/
def hypercubelaw8_known.f  : Option (Bool) := (lattice_Sets.f 1).bind fun t115 => ((lattice_Parents.f 1 2).bind fun t118 => (if (t115.length : Int) = 2 then (if 0 < (t115.length : Int) then (if (rd t115 0) = 1 then (if 1 < (t115.length : Int) then (if (rd t115 1) = 0 then ((lattice_Level.f 5).bind fun t123 => (if t123 = 2 then (if (t118.length : Int) = 1 then (if 0 < (t118.length : Int) then (some ((rd t118 0) == 3)) else (none)) else (some false)) else (some false))) else (some false)) else (none)) else (some false)) else (none)) else (some false)))
set_option maxHeartbeats 8000000 in
set_option maxRecDepth 100000 in
theorem hypercubelaw8_known.calls  (r : Bool) (w : World) (h : hypercubelaw8_known.f  = some r) :
    Calls Try.prog 27 #[] w fun e w' => e = .returned (.bool r) ∧ Below w.heap.size w w' := by
  have HB := Aside0.mk (Below.refl w.heap.size w)
  have H : ((lattice_Sets.f 1).bind fun t115 => ((lattice_Parents.f 1 2).bind fun t118 => (if (t115.length : Int) = 2 then (if 0 < (t115.length : Int) then (if (rd t115 0) = 1 then (if 1 < (t115.length : Int) then (if (rd t115 1) = 0 then ((lattice_Level.f 5).bind fun t123 => (if t123 = 2 then (if (t118.length : Int) = 1 then (if 0 < (t118.length : Int) then (some ((rd t118 0) == 3)) else (none)) else (some false)) else (some false))) else (some false)) else (none)) else (some false)) else (none)) else (some false)))) = some r := h
  clear h
  replace H := Option.bind_eq_some_iff.mp H
  obtain ⟨t115, A10, H⟩ := H
  replace H : ((lattice_Parents.f 1 2).bind fun t118 => (if (t115.length : Int) = 2 then (if 0 < (t115.length : Int) then (if (rd t115 0) = 1 then (if 1 < (t115.length : Int) then (if (rd t115 1) = 0 then ((lattice_Level.f 5).bind fun t123 => (if t123 = 2 then (if (t118.length : Int) = 1 then (if 0 < (t118.length : Int) then (some ((rd t118 0) == 3)) else (none)) else (some false)) else (some false))) else (some false)) else (none)) else (some false)) else (none)) else (some false))) = some r := H
  have A1 := Aside0.mk A10
  clear A10
  replace H := Option.bind_eq_some_iff.mp H
  obtain ⟨t118, A20, H⟩ := H
  replace H : (if (t115.length : Int) = 2 then (if 0 < (t115.length : Int) then (if (rd t115 0) = 1 then (if 1 < (t115.length : Int) then (if (rd t115 1) = 0 then ((lattice_Level.f 5).bind fun t123 => (if t123 = 2 then (if (t118.length : Int) = 1 then (if 0 < (t118.length : Int) then (some ((rd t118 0) == 3)) else (none)) else (some false)) else (some false))) else (some false)) else (none)) else (some false)) else (none)) else (some false)) = some r := H
  have A2 := Aside0.mk A20
  clear A20
  by_cases c3 : (t115.length : Int) = 2
  · rw [if_pos c3] at H
    have c3b0 : ((t115.length : Int) == 2) = true := beq_iff_eq.mpr c3
    have c3b1 : ((t115.length : Int) != 2) = false := bne_eq_false_iff_eq.mpr c3
    clear c3
    by_cases c4 : 0 < (t115.length : Int)
    · rw [if_pos c4] at H
      have c4b0 : decide (0 < (t115.length : Int)) = true := decide_eq_true c4
      have c4b1 : decide (0 < t115.length) = true := decide_eq_true (by omega)
      clear c4
      by_cases c5 : (rd t115 0) = 1
      · rw [if_pos c5] at H
        have c5b0 : ((rd t115 0) == 1) = true := beq_iff_eq.mpr c5
        have c5b1 : ((rd t115 0) != 1) = false := bne_eq_false_iff_eq.mpr c5
        clear c5
        by_cases c6 : 1 < (t115.length : Int)
        · rw [if_pos c6] at H
          have c6b0 : decide (1 < (t115.length : Int)) = true := decide_eq_true c6
          have c6b1 : decide (1 < t115.length) = true := decide_eq_true (by omega)
          clear c6
          by_cases c7 : (rd t115 1) = 0
          · rw [if_pos c7] at H
            have c7b0 : ((rd t115 1) == 0) = true := beq_iff_eq.mpr c7
            have c7b1 : ((rd t115 1) != 0) = false := bne_eq_false_iff_eq.mpr c7
            clear c7
            replace H := Option.bind_eq_some_iff.mp H
            obtain ⟨t123, A80, H⟩ := H
            replace H : (if t123 = 2 then (if (t118.length : Int) = 1 then (if 0 < (t118.length : Int) then (some ((rd t118 0) == 3)) else (none)) else (some false)) else (some false)) = some r := H
            have A8 := Aside0.mk A80
            clear A80
            by_cases c9 : t123 = 2
            · rw [if_pos c9] at H
              have c9b0 : (t123 == 2) = true := beq_iff_eq.mpr c9
              have c9b1 : (t123 != 2) = false := bne_eq_false_iff_eq.mpr c9
              clear c9
              by_cases c10 : (t118.length : Int) = 1
              · rw [if_pos c10] at H
                have c10b0 : ((t118.length : Int) == 1) = true := beq_iff_eq.mpr c10
                have c10b1 : ((t118.length : Int) != 1) = false := bne_eq_false_iff_eq.mpr c10
                clear c10
                by_cases c11 : 0 < (t118.length : Int)
                · rw [if_pos c11] at H
                  have c11b0 : decide (0 < (t118.length : Int)) = true := decide_eq_true c11
                  have c11b1 : decide (0 < t118.length) = true := decide_eq_true (by omega)
                  clear c11
                  obtain rfl := Option.some.inj H
                  go_enter Try.func27, Try.ntmps27
                  go_wp2_with (first | ((with_reducible refine gate_callee (f := 29) rfl ?_); refine goesL_ (some 3) rfl rfl Try.func29 (by kernel_rfl) rfl #[.int .i64 1] rfl (by (try simp only [List.map_toArray, List.map_cons, List.map_nil]); first | done | rfl | (simp only [List.length_drop, List.length_take]; rfl)) ?_; (with_reducible refine (lattice_Sets.calls 1 t115 _ A1.out).mono ?_); rintro e w12 ⟨v116, rfl, ho0, hb⟩; refine ⟨_, rfl, ?_⟩; have n0_ := Aside0.mk (Kd.R_lower ho0 (below_size (by repeat (first | (with_reducible first | exact HB.out | apply below_alloc | apply pw_below_drewN | apply below_drew1) | exact HB.out)))); have n1_ := Aside0.mk (below_step (by repeat (first | (with_reducible first | exact HB.out | apply below_alloc | apply pw_below_drewN | apply below_drew1) | exact HB.out)) hb); clear HB; have HO117 := n0_; have HB := n1_; clear n0_ n1_; (try clear hb); (try clear hb2); (try clear hk); (try clear hi); (try clear ho0)) | ((with_reducible refine gate_callee (f := 30) rfl ?_); refine goesL_ (some 4) rfl rfl Try.func30 (by kernel_rfl) rfl #[.int .i64 1, .int .i64 2] rfl (by (try simp only [List.map_toArray, List.map_cons, List.map_nil]); first | done | rfl | (simp only [List.length_drop, List.length_take]; rfl)) ?_; (with_reducible refine (lattice_Parents.calls 1 2 t118 _ A2.out).mono ?_); rintro e w13 ⟨v119, rfl, ho0, hb⟩; refine ⟨_, rfl, ?_⟩; have n0_ := Aside0.mk (Kd.R_elder' (by (with_reducible repeat (first | apply Kd.R_alloc | apply Kd.R_drewN | apply Kd.R_drew)); exact HO117.out) (Kd.R_base ho0) hb); have n1_ := Aside0.mk (Kd.R_lower (Kd.R_new' ho0 (Kd.R_lt (by (with_reducible repeat (first | apply Kd.R_alloc | apply Kd.R_drewN | apply Kd.R_drew)); exact HO117.out))) (below_size (by repeat (first | (with_reducible first | exact HB.out | apply below_alloc | apply pw_below_drewN | apply below_drew1) | exact HB.out)))); have n2_ := Aside0.mk (below_step (by repeat (first | (with_reducible first | exact HB.out | apply below_alloc | apply pw_below_drewN | apply below_drew1) | exact HB.out)) hb); clear HO117; clear HB; have HO117 := n0_; have HO120 := n1_; have HB := n2_; clear n0_ n1_ n2_; (try clear hb); (try clear hb2); (try clear hk); (try clear hi); (try clear ho0); obtain ⟨Ao14, co14, eo14⟩ := Kd.R_slice HO117.out; subst eo14; have p121 : 0 ≤ (0 : Int) := (by omega); have q121 : 0 < (t115.length : Int) := of_decide_eq_true (by first | (with_reducible assumption) | assumption); obtain ⟨ad121, e121, hx121_0⟩ := Kd.at_int (Kd.R_reads' HO117.out).2.2 0 p121 q121; cases e121; have qi121 : (0 < t115.length) = True := eq_true (by omega); (try rw [show ((0 : Int)).toNat = 0 from rfl] at hx121_0); (try rw [Addr.add_zero'] at hx121_0); replace p121 := eq_true p121; replace q121 := eq_true q121; have p122 : 0 ≤ (1 : Int) := (by omega); have q122 : 1 < (t115.length : Int) := of_decide_eq_true (by first | (with_reducible assumption) | assumption); obtain ⟨ad122, e122, hx122_0⟩ := Kd.at_int (Kd.R_reads' HO117.out).2.2 1 p122 q122; obtain rfl : ad121 = ad122 := (by injection e122); (try simp only [show (1 : Int).toNat = 1 from rfl, Nat.reduceMul, Nat.reduceEqDiff, Go.Addr.add, ↓reduceIte] at hx122_0); have qi122 : (1 < t115.length) = True := eq_true (by omega); (try rw [show ((1 : Int)).toNat = 1 from rfl] at hx122_0); replace p122 := eq_true p122; replace q122 := eq_true q122) | (go_at_call 31; (with_reducible refine (lattice_Level.calls 5 t123 _ A8.out).mono ?_); rintro e w' ⟨rfl, ⟨nd, rfl⟩⟩; obtain ⟨Ao15, co15, eo15⟩ := Kd.R_slice HO120.out; subst eo15; have p124 : 0 ≤ (0 : Int) := (by omega); have q124 : 0 < (t118.length : Int) := of_decide_eq_true (by first | (with_reducible assumption) | assumption); obtain ⟨ad124, e124, hx124_0⟩ := Kd.at_int (Kd.R_reads' HO120.out).2.2 0 p124 q124; cases e124; have qi124 : (0 < t118.length) = True := eq_true (by omega); (try rw [show ((0 : Int)).toNat = 0 from rfl] at hx124_0); (try rw [Addr.add_zero'] at hx124_0); replace p124 := eq_true p124; replace q124 := eq_true q124))
                  go_ret
                  exact ⟨by first | rfl | (simp [errW_none, errW_some] <;> rfl) | (simp [*, errW_none, errW_some] <;> rfl), by repeat (first | (with_reducible first | exact HB.out | apply below_alloc | apply pw_below_drewN | apply below_drew1) | exact HB.out)⟩
                · rw [if_neg c11] at H
                  exact absurd H (by simp)
              · rw [if_neg c10] at H
                have c10b0 : ((t118.length : Int) == 1) = false := beq_eq_false_iff_ne.mpr c10
                have c10b1 : ((t118.length : Int) != 1) = true := bne_iff_ne.mpr c10
                obtain rfl := Option.some.inj H
                go_enter Try.func27, Try.ntmps27
                go_wp2_with (first | ((with_reducible refine gate_callee (f := 29) rfl ?_); refine goesL_ (some 3) rfl rfl Try.func29 (by kernel_rfl) rfl #[.int .i64 1] rfl (by (try simp only [List.map_toArray, List.map_cons, List.map_nil]); first | done | rfl | (simp only [List.length_drop, List.length_take]; rfl)) ?_; (with_reducible refine (lattice_Sets.calls 1 t115 _ A1.out).mono ?_); rintro e w16 ⟨v116, rfl, ho0, hb⟩; refine ⟨_, rfl, ?_⟩; have n0_ := Aside0.mk (Kd.R_lower ho0 (below_size (by repeat (first | (with_reducible first | exact HB.out | apply below_alloc | apply pw_below_drewN | apply below_drew1) | exact HB.out)))); have n1_ := Aside0.mk (below_step (by repeat (first | (with_reducible first | exact HB.out | apply below_alloc | apply pw_below_drewN | apply below_drew1) | exact HB.out)) hb); clear HB; have HO117 := n0_; have HB := n1_; clear n0_ n1_; (try clear hb); (try clear hb2); (try clear hk); (try clear hi); (try clear ho0)) | ((with_reducible refine gate_callee (f := 30) rfl ?_); refine goesL_ (some 4) rfl rfl Try.func30 (by kernel_rfl) rfl #[.int .i64 1, .int .i64 2] rfl (by (try simp only [List.map_toArray, List.map_cons, List.map_nil]); first | done | rfl | (simp only [List.length_drop, List.length_take]; rfl)) ?_; (with_reducible refine (lattice_Parents.calls 1 2 t118 _ A2.out).mono ?_); rintro e w17 ⟨v119, rfl, ho0, hb⟩; refine ⟨_, rfl, ?_⟩; have n0_ := Aside0.mk (Kd.R_elder' (by (with_reducible repeat (first | apply Kd.R_alloc | apply Kd.R_drewN | apply Kd.R_drew)); exact HO117.out) (Kd.R_base ho0) hb); have n1_ := Aside0.mk (Kd.R_lower (Kd.R_new' ho0 (Kd.R_lt (by (with_reducible repeat (first | apply Kd.R_alloc | apply Kd.R_drewN | apply Kd.R_drew)); exact HO117.out))) (below_size (by repeat (first | (with_reducible first | exact HB.out | apply below_alloc | apply pw_below_drewN | apply below_drew1) | exact HB.out)))); have n2_ := Aside0.mk (below_step (by repeat (first | (with_reducible first | exact HB.out | apply below_alloc | apply pw_below_drewN | apply below_drew1) | exact HB.out)) hb); clear HO117; clear HB; have HO117 := n0_; have HO120 := n1_; have HB := n2_; clear n0_ n1_ n2_; (try clear hb); (try clear hb2); (try clear hk); (try clear hi); (try clear ho0); obtain ⟨Ao18, co18, eo18⟩ := Kd.R_slice HO117.out; subst eo18; have p121 : 0 ≤ (0 : Int) := (by omega); have q121 : 0 < (t115.length : Int) := of_decide_eq_true (by first | (with_reducible assumption) | assumption); obtain ⟨ad121, e121, hx121_0⟩ := Kd.at_int (Kd.R_reads' HO117.out).2.2 0 p121 q121; cases e121; have qi121 : (0 < t115.length) = True := eq_true (by omega); (try rw [show ((0 : Int)).toNat = 0 from rfl] at hx121_0); (try rw [Addr.add_zero'] at hx121_0); replace p121 := eq_true p121; replace q121 := eq_true q121; have p122 : 0 ≤ (1 : Int) := (by omega); have q122 : 1 < (t115.length : Int) := of_decide_eq_true (by first | (with_reducible assumption) | assumption); obtain ⟨ad122, e122, hx122_0⟩ := Kd.at_int (Kd.R_reads' HO117.out).2.2 1 p122 q122; obtain rfl : ad121 = ad122 := (by injection e122); (try simp only [show (1 : Int).toNat = 1 from rfl, Nat.reduceMul, Nat.reduceEqDiff, Go.Addr.add, ↓reduceIte] at hx122_0); have qi122 : (1 < t115.length) = True := eq_true (by omega); (try rw [show ((1 : Int)).toNat = 1 from rfl] at hx122_0); replace p122 := eq_true p122; replace q122 := eq_true q122) | (go_at_call 31; (with_reducible refine (lattice_Level.calls 5 t123 _ A8.out).mono ?_); rintro e w' ⟨rfl, ⟨nd, rfl⟩⟩; obtain ⟨Ao19, co19, eo19⟩ := Kd.R_slice HO120.out; subst eo19))
                go_ret
                exact ⟨by first | rfl | (simp [errW_none, errW_some] <;> rfl) | (simp [*, errW_none, errW_some] <;> rfl), by repeat (first | (with_reducible first | exact HB.out | apply below_alloc | apply pw_below_drewN | apply below_drew1) | exact HB.out)⟩
            · rw [if_neg c9] at H
              have c9b0 : (t123 == 2) = false := beq_eq_false_iff_ne.mpr c9
              have c9b1 : (t123 != 2) = true := bne_iff_ne.mpr c9
              obtain rfl := Option.some.inj H
              go_enter Try.func27, Try.ntmps27
              go_wp2_with (first | ((with_reducible refine gate_callee (f := 29) rfl ?_); refine goesL_ (some 3) rfl rfl Try.func29 (by kernel_rfl) rfl #[.int .i64 1] rfl (by (try simp only [List.map_toArray, List.map_cons, List.map_nil]); first | done | rfl | (simp only [List.length_drop, List.length_take]; rfl)) ?_; (with_reducible refine (lattice_Sets.calls 1 t115 _ A1.out).mono ?_); rintro e w20 ⟨v116, rfl, ho0, hb⟩; refine ⟨_, rfl, ?_⟩; have n0_ := Aside0.mk (Kd.R_lower ho0 (below_size (by repeat (first | (with_reducible first | exact HB.out | apply below_alloc | apply pw_below_drewN | apply below_drew1) | exact HB.out)))); have n1_ := Aside0.mk (below_step (by repeat (first | (with_reducible first | exact HB.out | apply below_alloc | apply pw_below_drewN | apply below_drew1) | exact HB.out)) hb); clear HB; have HO117 := n0_; have HB := n1_; clear n0_ n1_; (try clear hb); (try clear hb2); (try clear hk); (try clear hi); (try clear ho0)) | ((with_reducible refine gate_callee (f := 30) rfl ?_); refine goesL_ (some 4) rfl rfl Try.func30 (by kernel_rfl) rfl #[.int .i64 1, .int .i64 2] rfl (by (try simp only [List.map_toArray, List.map_cons, List.map_nil]); first | done | rfl | (simp only [List.length_drop, List.length_take]; rfl)) ?_; (with_reducible refine (lattice_Parents.calls 1 2 t118 _ A2.out).mono ?_); rintro e w21 ⟨v119, rfl, ho0, hb⟩; refine ⟨_, rfl, ?_⟩; have n0_ := Aside0.mk (Kd.R_elder' (by (with_reducible repeat (first | apply Kd.R_alloc | apply Kd.R_drewN | apply Kd.R_drew)); exact HO117.out) (Kd.R_base ho0) hb); have n1_ := Aside0.mk (Kd.R_lower (Kd.R_new' ho0 (Kd.R_lt (by (with_reducible repeat (first | apply Kd.R_alloc | apply Kd.R_drewN | apply Kd.R_drew)); exact HO117.out))) (below_size (by repeat (first | (with_reducible first | exact HB.out | apply below_alloc | apply pw_below_drewN | apply below_drew1) | exact HB.out)))); have n2_ := Aside0.mk (below_step (by repeat (first | (with_reducible first | exact HB.out | apply below_alloc | apply pw_below_drewN | apply below_drew1) | exact HB.out)) hb); clear HO117; clear HB; have HO117 := n0_; have HO120 := n1_; have HB := n2_; clear n0_ n1_ n2_; (try clear hb); (try clear hb2); (try clear hk); (try clear hi); (try clear ho0); obtain ⟨Ao22, co22, eo22⟩ := Kd.R_slice HO117.out; subst eo22; have p121 : 0 ≤ (0 : Int) := (by omega); have q121 : 0 < (t115.length : Int) := of_decide_eq_true (by first | (with_reducible assumption) | assumption); obtain ⟨ad121, e121, hx121_0⟩ := Kd.at_int (Kd.R_reads' HO117.out).2.2 0 p121 q121; cases e121; have qi121 : (0 < t115.length) = True := eq_true (by omega); (try rw [show ((0 : Int)).toNat = 0 from rfl] at hx121_0); (try rw [Addr.add_zero'] at hx121_0); replace p121 := eq_true p121; replace q121 := eq_true q121; have p122 : 0 ≤ (1 : Int) := (by omega); have q122 : 1 < (t115.length : Int) := of_decide_eq_true (by first | (with_reducible assumption) | assumption); obtain ⟨ad122, e122, hx122_0⟩ := Kd.at_int (Kd.R_reads' HO117.out).2.2 1 p122 q122; obtain rfl : ad121 = ad122 := (by injection e122); (try simp only [show (1 : Int).toNat = 1 from rfl, Nat.reduceMul, Nat.reduceEqDiff, Go.Addr.add, ↓reduceIte] at hx122_0); have qi122 : (1 < t115.length) = True := eq_true (by omega); (try rw [show ((1 : Int)).toNat = 1 from rfl] at hx122_0); replace p122 := eq_true p122; replace q122 := eq_true q122) | (go_at_call 31; (with_reducible refine (lattice_Level.calls 5 t123 _ A8.out).mono ?_); rintro e w' ⟨rfl, ⟨nd, rfl⟩⟩))
              go_ret
              exact ⟨by first | rfl | (simp [errW_none, errW_some] <;> rfl) | (simp [*, errW_none, errW_some] <;> rfl), by repeat (first | (with_reducible first | exact HB.out | apply below_alloc | apply pw_below_drewN | apply below_drew1) | exact HB.out)⟩
          · rw [if_neg c7] at H
            have c7b0 : ((rd t115 1) == 0) = false := beq_eq_false_iff_ne.mpr c7
            have c7b1 : ((rd t115 1) != 0) = true := bne_iff_ne.mpr c7
            obtain rfl := Option.some.inj H
            go_enter Try.func27, Try.ntmps27
            go_wp2_with (first | ((with_reducible refine gate_callee (f := 29) rfl ?_); refine goesL_ (some 3) rfl rfl Try.func29 (by kernel_rfl) rfl #[.int .i64 1] rfl (by (try simp only [List.map_toArray, List.map_cons, List.map_nil]); first | done | rfl | (simp only [List.length_drop, List.length_take]; rfl)) ?_; (with_reducible refine (lattice_Sets.calls 1 t115 _ A1.out).mono ?_); rintro e w23 ⟨v116, rfl, ho0, hb⟩; refine ⟨_, rfl, ?_⟩; have n0_ := Aside0.mk (Kd.R_lower ho0 (below_size (by repeat (first | (with_reducible first | exact HB.out | apply below_alloc | apply pw_below_drewN | apply below_drew1) | exact HB.out)))); have n1_ := Aside0.mk (below_step (by repeat (first | (with_reducible first | exact HB.out | apply below_alloc | apply pw_below_drewN | apply below_drew1) | exact HB.out)) hb); clear HB; have HO117 := n0_; have HB := n1_; clear n0_ n1_; (try clear hb); (try clear hb2); (try clear hk); (try clear hi); (try clear ho0)) | ((with_reducible refine gate_callee (f := 30) rfl ?_); refine goesL_ (some 4) rfl rfl Try.func30 (by kernel_rfl) rfl #[.int .i64 1, .int .i64 2] rfl (by (try simp only [List.map_toArray, List.map_cons, List.map_nil]); first | done | rfl | (simp only [List.length_drop, List.length_take]; rfl)) ?_; (with_reducible refine (lattice_Parents.calls 1 2 t118 _ A2.out).mono ?_); rintro e w24 ⟨v119, rfl, ho0, hb⟩; refine ⟨_, rfl, ?_⟩; have n0_ := Aside0.mk (Kd.R_elder' (by (with_reducible repeat (first | apply Kd.R_alloc | apply Kd.R_drewN | apply Kd.R_drew)); exact HO117.out) (Kd.R_base ho0) hb); have n1_ := Aside0.mk (Kd.R_lower (Kd.R_new' ho0 (Kd.R_lt (by (with_reducible repeat (first | apply Kd.R_alloc | apply Kd.R_drewN | apply Kd.R_drew)); exact HO117.out))) (below_size (by repeat (first | (with_reducible first | exact HB.out | apply below_alloc | apply pw_below_drewN | apply below_drew1) | exact HB.out)))); have n2_ := Aside0.mk (below_step (by repeat (first | (with_reducible first | exact HB.out | apply below_alloc | apply pw_below_drewN | apply below_drew1) | exact HB.out)) hb); clear HO117; clear HB; have HO117 := n0_; have HO120 := n1_; have HB := n2_; clear n0_ n1_ n2_; (try clear hb); (try clear hb2); (try clear hk); (try clear hi); (try clear ho0); obtain ⟨Ao25, co25, eo25⟩ := Kd.R_slice HO117.out; subst eo25; have p121 : 0 ≤ (0 : Int) := (by omega); have q121 : 0 < (t115.length : Int) := of_decide_eq_true (by first | (with_reducible assumption) | assumption); obtain ⟨ad121, e121, hx121_0⟩ := Kd.at_int (Kd.R_reads' HO117.out).2.2 0 p121 q121; cases e121; have qi121 : (0 < t115.length) = True := eq_true (by omega); (try rw [show ((0 : Int)).toNat = 0 from rfl] at hx121_0); (try rw [Addr.add_zero'] at hx121_0); replace p121 := eq_true p121; replace q121 := eq_true q121; have p122 : 0 ≤ (1 : Int) := (by omega); have q122 : 1 < (t115.length : Int) := of_decide_eq_true (by first | (with_reducible assumption) | assumption); obtain ⟨ad122, e122, hx122_0⟩ := Kd.at_int (Kd.R_reads' HO117.out).2.2 1 p122 q122; obtain rfl : ad121 = ad122 := (by injection e122); (try simp only [show (1 : Int).toNat = 1 from rfl, Nat.reduceMul, Nat.reduceEqDiff, Go.Addr.add, ↓reduceIte] at hx122_0); have qi122 : (1 < t115.length) = True := eq_true (by omega); (try rw [show ((1 : Int)).toNat = 1 from rfl] at hx122_0); replace p122 := eq_true p122; replace q122 := eq_true q122))
            go_ret
            exact ⟨by first | rfl | (simp [errW_none, errW_some] <;> rfl) | (simp [*, errW_none, errW_some] <;> rfl), by repeat (first | (with_reducible first | exact HB.out | apply below_alloc | apply pw_below_drewN | apply below_drew1) | exact HB.out)⟩
        · rw [if_neg c6] at H
          exact absurd H (by simp)
      · rw [if_neg c5] at H
        have c5b0 : ((rd t115 0) == 1) = false := beq_eq_false_iff_ne.mpr c5
        have c5b1 : ((rd t115 0) != 1) = true := bne_iff_ne.mpr c5
        obtain rfl := Option.some.inj H
        go_enter Try.func27, Try.ntmps27
        go_wp2_with (first | ((with_reducible refine gate_callee (f := 29) rfl ?_); refine goesL_ (some 3) rfl rfl Try.func29 (by kernel_rfl) rfl #[.int .i64 1] rfl (by (try simp only [List.map_toArray, List.map_cons, List.map_nil]); first | done | rfl | (simp only [List.length_drop, List.length_take]; rfl)) ?_; (with_reducible refine (lattice_Sets.calls 1 t115 _ A1.out).mono ?_); rintro e w26 ⟨v116, rfl, ho0, hb⟩; refine ⟨_, rfl, ?_⟩; have n0_ := Aside0.mk (Kd.R_lower ho0 (below_size (by repeat (first | (with_reducible first | exact HB.out | apply below_alloc | apply pw_below_drewN | apply below_drew1) | exact HB.out)))); have n1_ := Aside0.mk (below_step (by repeat (first | (with_reducible first | exact HB.out | apply below_alloc | apply pw_below_drewN | apply below_drew1) | exact HB.out)) hb); clear HB; have HO117 := n0_; have HB := n1_; clear n0_ n1_; (try clear hb); (try clear hb2); (try clear hk); (try clear hi); (try clear ho0)) | ((with_reducible refine gate_callee (f := 30) rfl ?_); refine goesL_ (some 4) rfl rfl Try.func30 (by kernel_rfl) rfl #[.int .i64 1, .int .i64 2] rfl (by (try simp only [List.map_toArray, List.map_cons, List.map_nil]); first | done | rfl | (simp only [List.length_drop, List.length_take]; rfl)) ?_; (with_reducible refine (lattice_Parents.calls 1 2 t118 _ A2.out).mono ?_); rintro e w27 ⟨v119, rfl, ho0, hb⟩; refine ⟨_, rfl, ?_⟩; have n0_ := Aside0.mk (Kd.R_elder' (by (with_reducible repeat (first | apply Kd.R_alloc | apply Kd.R_drewN | apply Kd.R_drew)); exact HO117.out) (Kd.R_base ho0) hb); have n1_ := Aside0.mk (Kd.R_lower (Kd.R_new' ho0 (Kd.R_lt (by (with_reducible repeat (first | apply Kd.R_alloc | apply Kd.R_drewN | apply Kd.R_drew)); exact HO117.out))) (below_size (by repeat (first | (with_reducible first | exact HB.out | apply below_alloc | apply pw_below_drewN | apply below_drew1) | exact HB.out)))); have n2_ := Aside0.mk (below_step (by repeat (first | (with_reducible first | exact HB.out | apply below_alloc | apply pw_below_drewN | apply below_drew1) | exact HB.out)) hb); clear HO117; clear HB; have HO117 := n0_; have HO120 := n1_; have HB := n2_; clear n0_ n1_ n2_; (try clear hb); (try clear hb2); (try clear hk); (try clear hi); (try clear ho0); obtain ⟨Ao28, co28, eo28⟩ := Kd.R_slice HO117.out; subst eo28; have p121 : 0 ≤ (0 : Int) := (by omega); have q121 : 0 < (t115.length : Int) := of_decide_eq_true (by first | (with_reducible assumption) | assumption); obtain ⟨ad121, e121, hx121_0⟩ := Kd.at_int (Kd.R_reads' HO117.out).2.2 0 p121 q121; cases e121; have qi121 : (0 < t115.length) = True := eq_true (by omega); (try rw [show ((0 : Int)).toNat = 0 from rfl] at hx121_0); (try rw [Addr.add_zero'] at hx121_0); replace p121 := eq_true p121; replace q121 := eq_true q121))
        go_ret
        exact ⟨by first | rfl | (simp [errW_none, errW_some] <;> rfl) | (simp [*, errW_none, errW_some] <;> rfl), by repeat (first | (with_reducible first | exact HB.out | apply below_alloc | apply pw_below_drewN | apply below_drew1) | exact HB.out)⟩
    · rw [if_neg c4] at H
      exact absurd H (by simp)
  · rw [if_neg c3] at H
    have c3b0 : ((t115.length : Int) == 2) = false := beq_eq_false_iff_ne.mpr c3
    have c3b1 : ((t115.length : Int) != 2) = true := bne_iff_ne.mpr c3
    obtain rfl := Option.some.inj H
    go_enter Try.func27, Try.ntmps27
    go_wp2_with (first | ((with_reducible refine gate_callee (f := 29) rfl ?_); refine goesL_ (some 3) rfl rfl Try.func29 (by kernel_rfl) rfl #[.int .i64 1] rfl (by (try simp only [List.map_toArray, List.map_cons, List.map_nil]); first | done | rfl | (simp only [List.length_drop, List.length_take]; rfl)) ?_; (with_reducible refine (lattice_Sets.calls 1 t115 _ A1.out).mono ?_); rintro e w29 ⟨v116, rfl, ho0, hb⟩; refine ⟨_, rfl, ?_⟩; have n0_ := Aside0.mk (Kd.R_lower ho0 (below_size (by repeat (first | (with_reducible first | exact HB.out | apply below_alloc | apply pw_below_drewN | apply below_drew1) | exact HB.out)))); have n1_ := Aside0.mk (below_step (by repeat (first | (with_reducible first | exact HB.out | apply below_alloc | apply pw_below_drewN | apply below_drew1) | exact HB.out)) hb); clear HB; have HO117 := n0_; have HB := n1_; clear n0_ n1_; (try clear hb); (try clear hb2); (try clear hk); (try clear hi); (try clear ho0)) | ((with_reducible refine gate_callee (f := 30) rfl ?_); refine goesL_ (some 4) rfl rfl Try.func30 (by kernel_rfl) rfl #[.int .i64 1, .int .i64 2] rfl (by (try simp only [List.map_toArray, List.map_cons, List.map_nil]); first | done | rfl | (simp only [List.length_drop, List.length_take]; rfl)) ?_; (with_reducible refine (lattice_Parents.calls 1 2 t118 _ A2.out).mono ?_); rintro e w30 ⟨v119, rfl, ho0, hb⟩; refine ⟨_, rfl, ?_⟩; have n0_ := Aside0.mk (Kd.R_elder' (by (with_reducible repeat (first | apply Kd.R_alloc | apply Kd.R_drewN | apply Kd.R_drew)); exact HO117.out) (Kd.R_base ho0) hb); have n1_ := Aside0.mk (Kd.R_lower (Kd.R_new' ho0 (Kd.R_lt (by (with_reducible repeat (first | apply Kd.R_alloc | apply Kd.R_drewN | apply Kd.R_drew)); exact HO117.out))) (below_size (by repeat (first | (with_reducible first | exact HB.out | apply below_alloc | apply pw_below_drewN | apply below_drew1) | exact HB.out)))); have n2_ := Aside0.mk (below_step (by repeat (first | (with_reducible first | exact HB.out | apply below_alloc | apply pw_below_drewN | apply below_drew1) | exact HB.out)) hb); clear HO117; clear HB; have HO117 := n0_; have HO120 := n1_; have HB := n2_; clear n0_ n1_ n2_; (try clear hb); (try clear hb2); (try clear hk); (try clear hi); (try clear ho0); obtain ⟨Ao31, co31, eo31⟩ := Kd.R_slice HO117.out; subst eo31))
    go_ret
    exact ⟨by first | rfl | (simp [errW_none, errW_some] <;> rfl) | (simp [*, errW_none, errW_some] <;> rfl), by repeat (first | (with_reducible first | exact HB.out | apply below_alloc | apply pw_below_drewN | apply below_drew1) | exact HB.out)⟩

/-! ### hypercubelaw8_within: function 28 -/
def hypercubelaw8_within.f (a0 : Int) (a1 : Int) : Option (Int) := if a1 = 0 then (none) else (if (Int.tmod a0 a1) < 0 then (some (wrap64 ((Int.tmod a0 a1) + a1))) else (some (Int.tmod a0 a1)))
set_option maxHeartbeats 8000000 in
set_option maxRecDepth 100000 in
theorem hypercubelaw8_within.calls (a0 : Int) (a1 : Int) (r : Int) (w : World) (h : hypercubelaw8_within.f a0 a1 = some r) :
    Calls Try.prog 28 #[.int .i64 a0, .int .i64 a1] w fun e w' => e = .returned (.int .i64 r) ∧ Drawn0 w w' := by
  have H : (if a1 = 0 then (none) else (if (Int.tmod a0 a1) < 0 then (some (wrap64 ((Int.tmod a0 a1) + a1))) else (some (Int.tmod a0 a1)))) = some r := h
  clear h
  by_cases c3 : a1 = 0
  · rw [if_pos c3] at H
    exact absurd H (by simp)
  · rw [if_neg c3] at H
    have c3b0 : (a1 == 0) = false := beq_eq_false_iff_ne.mpr c3
    have c3b1 : (a1 != 0) = true := bne_iff_ne.mpr c3
    by_cases c4 : (Int.tmod a0 a1) < 0
    · rw [if_pos c4] at H
      have c4b0 : decide ((Int.tmod a0 a1) < 0) = true := decide_eq_true c4
      clear c4
      obtain rfl := Option.some.inj H
      go_enter Try.func28, Try.ntmps28
      go_wp2
      go_ret
      exact ⟨by first | rfl | (simp; done) | (simp [*]; done), by repeat (first | exact Drawn0.refl _ | apply Drawn0.step)⟩
    · rw [if_neg c4] at H
      have c4b0 : decide ((Int.tmod a0 a1) < 0) = false := decide_eq_false c4
      clear c4
      obtain rfl := Option.some.inj H
      go_enter Try.func28, Try.ntmps28
      go_wp2
      go_ret
      exact ⟨by first | rfl | (simp; done) | (simp [*]; done), by repeat (first | exact Drawn0.refl _ | apply Drawn0.step)⟩

/-! ### hypercubelaw8_LatticeLevels: function 4 -/
mutual
def hypercubelaw8_LatticeLevels.l0 : Nat → Int → List Int → List Int → Int → Option (Bool)
  | 0, _, _, _, _ => none
  | k + 1, x5, x7, x8, x9 => if x9 < (x8.length : Int) then (if 0 ≤ x9 then ((lattice_Level.f (rd x8 x9)).bind fun t137 => (if t137 < 0 then (some false) else (if t137 > x5 then (some false) else (if 0 ≤ t137 then (if t137 < (x7.length : Int) then (hypercubelaw8_LatticeLevels.l0 k x5 (x7.set (t137 : Int).toNat (wrap64 ((rd x7 t137) + 1))) x8 (wrap64 (x9 + 1))) else (none)) else (none))))) else (none)) else (hypercubelaw8_LatticeLevels.l1 k x5 x7 1 0)
def hypercubelaw8_LatticeLevels.l1 : Nat → Int → List Int → Int → Int → Option (Bool)
  | 0, _, _, _, _ => none
  | k + 1, x5, x7, x11, x12 => if x12 ≤ x5 then (if 0 ≤ x12 then (if x12 < (x7.length : Int) then (if (rd x7 x12) = x11 then (if (wrap64 (x12 + 1)) = 0 then (none) else (hypercubelaw8_LatticeLevels.l1 k x5 x7 (wrap64 (Int.tdiv (wrap64 (x11 * (wrap64 (x5 - x12)))) (wrap64 (x12 + 1)))) (wrap64 (x12 + 1)))) else (some false)) else (none)) else (none)) else (some true)
end
def hypercubelaw8_LatticeLevels.f (k : Nat) (a0 : Int) (a1 : Int) : Option (Bool) := (hypercubelaw8_known.f).bind fun t125 => (if t125 = true then ((hypercubelaw8_within.f a0 4).bind fun t126 => (if 0 ≤ (IntKind.u64.wrap (wrap64 (1 + t126))) then ((hypercubelaw8_within.f a1 (shl .i64 1 (IntKind.u64.wrap (wrap64 (1 + t126))))).bind fun t127 => ((lattice_Level.f t127).bind fun t128 => ((lattice_Level.f (wrap64 ((wrap64 ((shl .i64 1 (IntKind.u64.wrap (wrap64 (1 + t126)))) - 1)) - t127))).bind fun t129 => (if (wrap64 (t128 + t129)) = (wrap64 (1 + t126)) then (if 0 ≤ (wrap64 ((wrap64 (1 + t126)) + 1)) then (if (wrap64 ((wrap64 (1 + t126)) + 1) : Int).toNat ≤ 35184372088832 then ((lattice_Sets.f (wrap64 (1 + t126))).bind fun t133 => (hypercubelaw8_LatticeLevels.l0 k (wrap64 (1 + t126)) (List.replicate (wrap64 ((wrap64 (1 + t126)) + 1) : Int).toNat 0) t133 0)) else (none)) else (none)) else (some false))))) else (none))) else (some false))
theorem hypercubelaw8_LatticeLevels.mono_l : ∀ k, (∀ y0 y1 y2 y3, LeO (hypercubelaw8_LatticeLevels.l0 k y0 y1 y2 y3) (hypercubelaw8_LatticeLevels.l0 (k + 1) y0 y1 y2 y3)) ∧ (∀ y0 y1 y2 y3, LeO (hypercubelaw8_LatticeLevels.l1 k y0 y1 y2 y3) (hypercubelaw8_LatticeLevels.l1 (k + 1) y0 y1 y2 y3))
  | 0 => ⟨fun _ _ _ _ r h => by simp [hypercubelaw8_LatticeLevels.l0] at h, fun _ _ _ _ r h => by simp [hypercubelaw8_LatticeLevels.l1] at h⟩
  | k + 1 => by
    obtain ⟨ih0, ih1⟩ := hypercubelaw8_LatticeLevels.mono_l k
    refine ⟨?_, ?_⟩
    · intro y0 y1 y2 y3
      unfold hypercubelaw8_LatticeLevels.l0
      repeat' first
      | (with_reducible exact ih0 _ _ _ _)
      | (with_reducible exact ih1 _ _ _ _)
      | (with_reducible exact LeO.refl _)
      | (with_reducible exact LeO.none _)
      | (with_reducible refine LeO.ite ?_ ?_)
      | (with_reducible refine LeO.bind ?_ (fun _ => ?_))
      | exact ih0 _ _ _ _
      | exact ih1 _ _ _ _
      | exact LeO.none _
      | refine LeO.ite ?_ ?_
      | refine LeO.bind ?_ (fun _ => ?_)
    · intro y0 y1 y2 y3
      unfold hypercubelaw8_LatticeLevels.l1
      repeat' first
      | (with_reducible exact ih0 _ _ _ _)
      | (with_reducible exact ih1 _ _ _ _)
      | (with_reducible exact LeO.refl _)
      | (with_reducible exact LeO.none _)
      | (with_reducible refine LeO.ite ?_ ?_)
      | (with_reducible refine LeO.bind ?_ (fun _ => ?_))
      | exact ih0 _ _ _ _
      | exact ih1 _ _ _ _
      | exact LeO.none _
      | refine LeO.ite ?_ ?_
      | refine LeO.bind ?_ (fun _ => ?_)
theorem hypercubelaw8_LatticeLevels.mono : ∀ a0 a1 k, LeO (hypercubelaw8_LatticeLevels.f k a0 a1) (hypercubelaw8_LatticeLevels.f (k + 1) a0 a1) := by
  intro a0 a1 k
  obtain ⟨ih0, ih1⟩ := hypercubelaw8_LatticeLevels.mono_l k
  unfold hypercubelaw8_LatticeLevels.f
  repeat' first
      | (with_reducible exact ih0 _ _ _ _)
      | (with_reducible exact ih1 _ _ _ _)
      | (with_reducible exact LeO.refl _)
      | (with_reducible exact LeO.none _)
      | (with_reducible refine LeO.ite ?_ ?_)
      | (with_reducible refine LeO.bind ?_ (fun _ => ?_))
      | exact ih0 _ _ _ _
      | exact ih1 _ _ _ _
      | exact LeO.none _
      | refine LeO.ite ?_ ?_
      | refine LeO.bind ?_ (fun _ => ?_)
set_option maxHeartbeats 8000000 in
set_option maxRecDepth 100000 in
theorem hypercubelaw8_LatticeLevels.calls (k : Nat) (a0 : Int) (a1 : Int) (r : Bool) (w : World) (h : hypercubelaw8_LatticeLevels.f k a0 a1 = some r) :
    Calls Try.prog 4 #[.int .i64 a0, .int .i64 a1] w fun e w' => e = .returned (.bool r) ∧ Below w.heap.size w w' := by
  have HB := Aside0.mk (Below.refl w.heap.size w)
  have H : ((hypercubelaw8_known.f).bind fun t125 => (if t125 = true then ((hypercubelaw8_within.f a0 4).bind fun t126 => (if 0 ≤ (IntKind.u64.wrap (wrap64 (1 + t126))) then ((hypercubelaw8_within.f a1 (shl .i64 1 (IntKind.u64.wrap (wrap64 (1 + t126))))).bind fun t127 => ((lattice_Level.f t127).bind fun t128 => ((lattice_Level.f (wrap64 ((wrap64 ((shl .i64 1 (IntKind.u64.wrap (wrap64 (1 + t126)))) - 1)) - t127))).bind fun t129 => (if (wrap64 (t128 + t129)) = (wrap64 (1 + t126)) then (if 0 ≤ (wrap64 ((wrap64 (1 + t126)) + 1)) then (if (wrap64 ((wrap64 (1 + t126)) + 1) : Int).toNat ≤ 35184372088832 then ((lattice_Sets.f (wrap64 (1 + t126))).bind fun t133 => (hypercubelaw8_LatticeLevels.l0 k (wrap64 (1 + t126)) (List.replicate (wrap64 ((wrap64 (1 + t126)) + 1) : Int).toNat 0) t133 0)) else (none)) else (none)) else (some false))))) else (none))) else (some false))) = some r := h
  clear h
  replace H := Option.bind_eq_some_iff.mp H
  obtain ⟨t125, A30, H⟩ := H
  replace H : (if t125 = true then ((hypercubelaw8_within.f a0 4).bind fun t126 => (if 0 ≤ (IntKind.u64.wrap (wrap64 (1 + t126))) then ((hypercubelaw8_within.f a1 (shl .i64 1 (IntKind.u64.wrap (wrap64 (1 + t126))))).bind fun t127 => ((lattice_Level.f t127).bind fun t128 => ((lattice_Level.f (wrap64 ((wrap64 ((shl .i64 1 (IntKind.u64.wrap (wrap64 (1 + t126)))) - 1)) - t127))).bind fun t129 => (if (wrap64 (t128 + t129)) = (wrap64 (1 + t126)) then (if 0 ≤ (wrap64 ((wrap64 (1 + t126)) + 1)) then (if (wrap64 ((wrap64 (1 + t126)) + 1) : Int).toNat ≤ 35184372088832 then ((lattice_Sets.f (wrap64 (1 + t126))).bind fun t133 => (hypercubelaw8_LatticeLevels.l0 k (wrap64 (1 + t126)) (List.replicate (wrap64 ((wrap64 (1 + t126)) + 1) : Int).toNat 0) t133 0)) else (none)) else (none)) else (some false))))) else (none))) else (some false)) = some r := H
  have A3 := Aside0.mk A30
  clear A30
  by_cases c4 : t125 = true
  · subst c4
    have H1 : ((hypercubelaw8_within.f a0 4).bind fun t126 => (if 0 ≤ (IntKind.u64.wrap (wrap64 (1 + t126))) then ((hypercubelaw8_within.f a1 (shl .i64 1 (IntKind.u64.wrap (wrap64 (1 + t126))))).bind fun t127 => ((lattice_Level.f t127).bind fun t128 => ((lattice_Level.f (wrap64 ((wrap64 ((shl .i64 1 (IntKind.u64.wrap (wrap64 (1 + t126)))) - 1)) - t127))).bind fun t129 => (if (wrap64 (t128 + t129)) = (wrap64 (1 + t126)) then (if 0 ≤ (wrap64 ((wrap64 (1 + t126)) + 1)) then (if (wrap64 ((wrap64 (1 + t126)) + 1) : Int).toNat ≤ 35184372088832 then ((lattice_Sets.f (wrap64 (1 + t126))).bind fun t133 => (hypercubelaw8_LatticeLevels.l0 k (wrap64 (1 + t126)) (List.replicate (wrap64 ((wrap64 (1 + t126)) + 1) : Int).toNat 0) t133 0)) else (none)) else (none)) else (some false))))) else (none))) = some r := by rw [if_pos rfl] at H; exact H
    clear H
    have H := H1
    clear H1
    replace H := Option.bind_eq_some_iff.mp H
    obtain ⟨t126, A50, H⟩ := H
    replace H : (if 0 ≤ (IntKind.u64.wrap (wrap64 (1 + t126))) then ((hypercubelaw8_within.f a1 (shl .i64 1 (IntKind.u64.wrap (wrap64 (1 + t126))))).bind fun t127 => ((lattice_Level.f t127).bind fun t128 => ((lattice_Level.f (wrap64 ((wrap64 ((shl .i64 1 (IntKind.u64.wrap (wrap64 (1 + t126)))) - 1)) - t127))).bind fun t129 => (if (wrap64 (t128 + t129)) = (wrap64 (1 + t126)) then (if 0 ≤ (wrap64 ((wrap64 (1 + t126)) + 1)) then (if (wrap64 ((wrap64 (1 + t126)) + 1) : Int).toNat ≤ 35184372088832 then ((lattice_Sets.f (wrap64 (1 + t126))).bind fun t133 => (hypercubelaw8_LatticeLevels.l0 k (wrap64 (1 + t126)) (List.replicate (wrap64 ((wrap64 (1 + t126)) + 1) : Int).toNat 0) t133 0)) else (none)) else (none)) else (some false))))) else (none)) = some r := H
    have A5 := Aside0.mk A50
    clear A50
    obtain ⟨ji6, hji6⟩ : ∃ j_ : Int, (IntKind.u64.wrap (wrap64 (1 + t126))) = j_ := ⟨_, rfl⟩
    replace H : (if 0 ≤ (ji6) then ((hypercubelaw8_within.f a1 (shl .i64 1 (ji6))).bind fun t127 => ((lattice_Level.f t127).bind fun t128 => ((lattice_Level.f (wrap64 ((wrap64 ((shl .i64 1 (ji6)) - 1)) - t127))).bind fun t129 => (if (wrap64 (t128 + t129)) = (wrap64 (1 + t126)) then (if 0 ≤ (wrap64 ((wrap64 (1 + t126)) + 1)) then (if (wrap64 ((wrap64 (1 + t126)) + 1) : Int).toNat ≤ 35184372088832 then ((lattice_Sets.f (wrap64 (1 + t126))).bind fun t133 => (hypercubelaw8_LatticeLevels.l0 k (wrap64 (1 + t126)) (List.replicate (wrap64 ((wrap64 (1 + t126)) + 1) : Int).toNat 0) t133 0)) else (none)) else (none)) else (some false))))) else (none)) = some r := by first | (rw [hji6] at H; exact H) | (simp only [hji6] at H ⊢; exact H)
    (try rw [hji6] at A3)
    (try rw [hji6] at A5)
    by_cases c7 : 0 ≤ (ji6)
    · rw [if_pos c7] at H
      have c7b0 := eq_true c7
      have c7b1 : decide (0 ≤ (ji6)) = true := decide_eq_true c7
      clear c7
      obtain ⟨ji8, hji8⟩ : ∃ j_ : Int, (shl .i64 1 (ji6)) = j_ := ⟨_, rfl⟩
      replace H : ((hypercubelaw8_within.f a1 (ji8)).bind fun t127 => ((lattice_Level.f t127).bind fun t128 => ((lattice_Level.f (wrap64 ((wrap64 ((ji8) - 1)) - t127))).bind fun t129 => (if (wrap64 (t128 + t129)) = (wrap64 (1 + t126)) then (if 0 ≤ (wrap64 ((wrap64 (1 + t126)) + 1)) then (if (wrap64 ((wrap64 (1 + t126)) + 1) : Int).toNat ≤ 35184372088832 then ((lattice_Sets.f (wrap64 (1 + t126))).bind fun t133 => (hypercubelaw8_LatticeLevels.l0 k (wrap64 (1 + t126)) (List.replicate (wrap64 ((wrap64 (1 + t126)) + 1) : Int).toNat 0) t133 0)) else (none)) else (none)) else (some false))))) = some r := by first | (rw [hji8] at H; exact H) | (simp only [hji8] at H ⊢; exact H)
      (try rw [hji8] at A3)
      (try rw [hji8] at A5)
      have hji8_ : (IntKind.i64.wrap (1 * 2 ^ min (ji6).toNat 64)) = ji8 := hji8
      have hji8z : (ji6) ≤ 64 → (IntKind.i64.wrap (1 * 2 ^ (ji6).toNat)) = ji8 := shl_small hji8
      have hji8u : (IntKind.i64.wrap (2 ^ min (ji6).toNat 64)) = ji8 := by have h_ := hji8_; rw [Int.one_mul] at h_; exact h_
      have hji8v : (ji6) ≤ 64 → (IntKind.i64.wrap (2 ^ (ji6).toNat)) = ji8 := fun hle_ => by have h_ := hji8z hle_; rw [Int.one_mul] at h_; exact h_
      have hji8y : (wrap64 (1 * 2 ^ min (ji6).toNat 64)) = ji8 := (i64_w _).symm.trans hji8_
      have hji8x : (ji6) ≤ 64 → (wrap64 (1 * 2 ^ (ji6).toNat)) = ji8 := fun h_ => (i64_w _).symm.trans (hji8z h_)
      replace H := Option.bind_eq_some_iff.mp H
      obtain ⟨t127, A90, H⟩ := H
      replace H : ((lattice_Level.f t127).bind fun t128 => ((lattice_Level.f (wrap64 ((wrap64 ((ji8) - 1)) - t127))).bind fun t129 => (if (wrap64 (t128 + t129)) = (wrap64 (1 + t126)) then (if 0 ≤ (wrap64 ((wrap64 (1 + t126)) + 1)) then (if (wrap64 ((wrap64 (1 + t126)) + 1) : Int).toNat ≤ 35184372088832 then ((lattice_Sets.f (wrap64 (1 + t126))).bind fun t133 => (hypercubelaw8_LatticeLevels.l0 k (wrap64 (1 + t126)) (List.replicate (wrap64 ((wrap64 (1 + t126)) + 1) : Int).toNat 0) t133 0)) else (none)) else (none)) else (some false)))) = some r := H
      have A9 := Aside0.mk A90
      clear A90
      replace H := Option.bind_eq_some_iff.mp H
      obtain ⟨t128, A100, H⟩ := H
      replace H : ((lattice_Level.f (wrap64 ((wrap64 ((ji8) - 1)) - t127))).bind fun t129 => (if (wrap64 (t128 + t129)) = (wrap64 (1 + t126)) then (if 0 ≤ (wrap64 ((wrap64 (1 + t126)) + 1)) then (if (wrap64 ((wrap64 (1 + t126)) + 1) : Int).toNat ≤ 35184372088832 then ((lattice_Sets.f (wrap64 (1 + t126))).bind fun t133 => (hypercubelaw8_LatticeLevels.l0 k (wrap64 (1 + t126)) (List.replicate (wrap64 ((wrap64 (1 + t126)) + 1) : Int).toNat 0) t133 0)) else (none)) else (none)) else (some false))) = some r := H
      have A10 := Aside0.mk A100
      clear A100
      have c11b0 := eq_true (of_decide_eq_true (by first | (with_reducible assumption) | assumption) : 0 ≤ (ji6))
      replace H := Option.bind_eq_some_iff.mp H
      obtain ⟨t129, A130, H⟩ := H
      replace H : (if (wrap64 (t128 + t129)) = (wrap64 (1 + t126)) then (if 0 ≤ (wrap64 ((wrap64 (1 + t126)) + 1)) then (if (wrap64 ((wrap64 (1 + t126)) + 1) : Int).toNat ≤ 35184372088832 then ((lattice_Sets.f (wrap64 (1 + t126))).bind fun t133 => (hypercubelaw8_LatticeLevels.l0 k (wrap64 (1 + t126)) (List.replicate (wrap64 ((wrap64 (1 + t126)) + 1) : Int).toNat 0) t133 0)) else (none)) else (none)) else (some false)) = some r := H
      have A13 := Aside0.mk A130
      clear A130
      by_cases c14 : (wrap64 (t128 + t129)) = (wrap64 (1 + t126))
      · rw [if_pos c14] at H
        have c14b0 : ((wrap64 (t128 + t129)) == (wrap64 (1 + t126))) = true := beq_iff_eq.mpr c14
        have c14b1 : ((wrap64 (t128 + t129)) != (wrap64 (1 + t126))) = false := bne_eq_false_iff_eq.mpr c14
        clear c14
        obtain ⟨ji15, hji15⟩ : ∃ j_ : Int, (wrap64 ((wrap64 (1 + t126)) + 1)) = j_ := ⟨_, rfl⟩
        replace H : (if 0 ≤ (ji15) then (if (ji15 : Int).toNat ≤ 35184372088832 then ((lattice_Sets.f (wrap64 (1 + t126))).bind fun t133 => (hypercubelaw8_LatticeLevels.l0 k (wrap64 (1 + t126)) (List.replicate (ji15 : Int).toNat 0) t133 0)) else (none)) else (none)) = some r := by first | (rw [hji15] at H; exact H) | (simp only [hji15] at H ⊢; exact H)
        (try rw [hji15] at A3)
        (try rw [hji15] at A5)
        (try rw [hji15] at A9)
        (try rw [hji15] at A10)
        (try rw [hji15] at A13)
        have hji15w : (IntKind.i64.wrap ((wrap64 (1 + t126)) + 1)) = ji15 := (i64_w _).trans hji15
        by_cases c16 : 0 ≤ (ji15)
        · rw [if_pos c16] at H
          have c16b0 := eq_true c16
          have c16b1 : decide (0 ≤ (ji15)) = true := decide_eq_true c16
          clear c16
          by_cases c17 : (ji15 : Int).toNat ≤ 35184372088832
          · rw [if_pos c17] at H
            have c17b0 := eq_true c17
            have c17b1 : decide ((ji15 : Int).toNat ≤ 35184372088832) = true := decide_eq_true c17
            clear c17
            obtain ⟨y130, hy130⟩ : ∃ y_ : List Int, y_ = (List.replicate (ji15 : Int).toNat 0) := ⟨_, rfl⟩
            replace H : ((lattice_Sets.f (wrap64 (1 + t126))).bind fun t133 => (hypercubelaw8_LatticeLevels.l0 k (wrap64 (1 + t126)) y130 t133 0)) = some r := by first | (rw [hy130]; with_reducible exact H) | (have H2_ := (Option.bind_some _ _).symm.trans H; rw [hy130]; with_reducible exact H2_) | (have H2_ := (Option.bind_some _ _).symm.trans H; with_reducible exact H2_) | with_reducible exact H | (rw [hy130]; exact H) | exact H
            have Ny130 := Aside0.mk hy130
            clear hy130
            replace H := Option.bind_eq_some_iff.mp H
            obtain ⟨t133, A180, H⟩ := H
            replace H : (hypercubelaw8_LatticeLevels.l0 k (wrap64 (1 + t126)) y130 t133 0) = some r := H
            have A18 := Aside0.mk A180
            clear A180
            have H' := Aside0.mk H
            clear H
            go_enter Try.func4, Try.ntmps4
            go_wp2_with (first | ((with_reducible refine gate_callee (f := 27) rfl ?_); refine goesL_ (some 13) rfl rfl Try.func27 (by kernel_rfl) rfl #[] rfl (by (try simp only [List.map_toArray, List.map_cons, List.map_nil]); first | done | rfl | (simp only [List.length_drop, List.length_take]; rfl)) ?_; (with_reducible refine (hypercubelaw8_known.calls  true _ A3.out).mono ?_); rintro e w19 ⟨rfl, hb⟩; refine ⟨_, rfl, ?_⟩; have n0_ := Aside0.mk (below_step (by repeat (first | (with_reducible first | exact HB.out | apply below_alloc | apply pw_below_drewN | apply below_drew1) | exact HB.out)) hb); clear HB; have HB := n0_; clear n0_; (try clear hb); (try clear hb2); (try clear hk); (try clear hi)) | ((with_reducible refine gate_callee (f := 28) rfl ?_); refine goesL_ (some 16) rfl rfl Try.func28 (by kernel_rfl) rfl #[.int .i64 a0, .int .i64 4] rfl (by (try simp only [List.map_toArray, List.map_cons, List.map_nil]); first | done | rfl | (simp only [List.length_drop, List.length_take]; rfl)) ?_; (with_reducible refine (hypercubelaw8_within.calls a0 4 t126 _ A5.out).mono ?_); rintro e w' ⟨rfl, ⟨nd, rfl⟩⟩; refine ⟨_, rfl, ?_⟩) | ((with_reducible refine gate_callee (f := 28) rfl ?_); refine goesL_ (some 22) rfl rfl Try.func28 (by kernel_rfl) rfl #[.int .i64 a1, .int .i64 ji8] rfl (by (try simp only [List.map_toArray, List.map_cons, List.map_nil]); first | done | (simp only [hji8]; rfl) | rfl | (simp only [List.length_drop, List.length_take]; rfl)) ?_; (with_reducible refine (hypercubelaw8_within.calls a1 ji8 t127 _ A9.out).mono ?_); rintro e w' ⟨rfl, ⟨nd, rfl⟩⟩; refine ⟨_, rfl, ?_⟩) | ((with_reducible refine gate_callee (f := 31) rfl ?_); refine goesL_ (some 24) rfl rfl Try.func31 (by kernel_rfl) rfl #[.int .i64 t127] rfl (by (try simp only [List.map_toArray, List.map_cons, List.map_nil]); first | done | rfl | (simp only [List.length_drop, List.length_take]; rfl)) ?_; (with_reducible refine (lattice_Level.calls t127 t128 _ A10.out).mono ?_); rintro e w' ⟨rfl, ⟨nd, rfl⟩⟩; refine ⟨_, rfl, ?_⟩) | ((with_reducible refine gate_callee (f := 31) rfl ?_); refine goesL_ (some 31) rfl rfl Try.func31 (by kernel_rfl) rfl #[.int .i64 (wrap64 ((wrap64 ((ji8) - 1)) - t127))] rfl (by (try simp only [List.map_toArray, List.map_cons, List.map_nil]); first | done | (simp only [hji8]; rfl) | rfl | (simp only [List.length_drop, List.length_take]; rfl)) ?_; (with_reducible refine (lattice_Level.calls (wrap64 ((wrap64 ((ji8) - 1)) - t127)) t129 _ A13.out).mono ?_); rintro e w' ⟨rfl, ⟨nd, rfl⟩⟩; refine ⟨_, rfl, ?_⟩) | ((with_reducible refine gate_dst (N := 37) rfl ?_); refine Kd.R_make (Kd.int .i64) _ 3 rfl (N := 37) rfl 24 _ _ rfl ji15 rfl rfl Try.underlying24 (.int .i64 0) 8 info3 rfl (by decide) (by omega) 0 (ok := fun _ => True) (okp := fun _ => True) rfl (fun _ hk => hk) trivial (of_decide_eq_true (by first | (with_reducible assumption) | assumption)) (Nat.le_trans (Nat.mul_le_mul_right _ (of_decide_eq_true (by first | (with_reducible assumption) | assumption) : ji15.toNat ≤ 35184372088832)) (by omega)) (Below.refl _ _) (Nat.le_refl _) ?_; intro v131 w20 ho21 hb hg_ hnew_; clear hg_ hnew_; (first | rw [← Ny130.out] at ho21 | (simp only [Int.reduceToNat] at ho21; rw [← Ny130.out] at ho21)); have n0_ := Aside0.mk (Kd.R_lower ho21 (below_size (by repeat (first | (with_reducible first | exact HB.out | apply below_alloc | apply pw_below_drewN | apply below_drew1) | exact HB.out)))); have n1_ := Aside0.mk (below_step (by repeat (first | (with_reducible first | exact HB.out | apply below_alloc | apply pw_below_drewN | apply below_drew1) | exact HB.out)) hb); clear HB; have HO132 := n0_; have HB := n1_; clear n0_ n1_; clear hb ho21) | ((with_reducible refine gate_callee (f := 29) rfl ?_); refine goesL_ (some 39) rfl rfl Try.func29 (by kernel_rfl) rfl #[.int .i64 (wrap64 (1 + t126))] rfl (by (try simp only [List.map_toArray, List.map_cons, List.map_nil]); first | done | rfl | (simp only [List.length_drop, List.length_take]; rfl)) ?_; (with_reducible refine (lattice_Sets.calls (wrap64 (1 + t126)) t133 _ A18.out).mono ?_); rintro e w22 ⟨v134, rfl, ho0, hb⟩; refine ⟨_, rfl, ?_⟩; have n0_ := Aside0.mk (Kd.R_elder' (by (with_reducible repeat (first | apply Kd.R_alloc | apply Kd.R_drewN | apply Kd.R_drew)); exact HO132.out) (Kd.R_base ho0) hb); have n1_ := Aside0.mk (Kd.R_lower (Kd.R_new' ho0 (Kd.R_lt (by (with_reducible repeat (first | apply Kd.R_alloc | apply Kd.R_drewN | apply Kd.R_drew)); exact HO132.out))) (below_size (by repeat (first | (with_reducible first | exact HB.out | apply below_alloc | apply pw_below_drewN | apply below_drew1) | exact HB.out)))); have n2_ := Aside0.mk (below_step (by repeat (first | (with_reducible first | exact HB.out | apply below_alloc | apply pw_below_drewN | apply below_drew1) | exact HB.out)) hb); clear HO132; clear HB; have HO132 := n0_; have HO135 := n1_; have HB := n2_; clear n0_ n1_ n2_; (try clear hb); (try clear hb2); (try clear hk); (try clear hi); (try clear ho0)))
            go_loopg [9] k (fun kq v9 w' => ∃ (x7_1 : List Int) (x9_1 : Int), v9 = .int .i64 x9_1 ∧ Aside0 (hypercubelaw8_LatticeLevels.l0 kq (wrap64 (1 + t126)) x7_1 t133 x9_1 = some r) ∧ Aside0 (kq ≤ k) ∧ Aside0 (Kd.R (Kd.int .i64) 3 w' w.heap.size (fun k_ => some k_ ≠ (v134 : Value).ownBlock) v131 x7_1) ∧ Aside0 (Kd.R (Kd.int .i64) 3 w' w.heap.size (fun k_ => some k_ ≠ (v131 : Value).ownBlock) v134 t133) ∧ Aside0 (Below w.heap.size w w'))
            case atStart => exact ⟨(y130), (0), (by first | rfl | (simp; done) | (simp [*]; done)), H', ⟨Nat.le_refl _⟩, ⟨by (with_reducible repeat (first | apply Kd.R_alloc | apply Kd.R_drewN | apply Kd.R_drew)); exact Kd.R_mono HO132.out (fun _ hk => hk.2)⟩, ⟨by (with_reducible repeat (first | apply Kd.R_alloc | apply Kd.R_drewN | apply Kd.R_drew)); exact Kd.R_mono HO135.out (fun _ hk => hk.2)⟩, ⟨by repeat (first | (with_reducible first | exact HB.out | apply below_alloc | apply pw_below_drewN | apply below_drew1) | exact HB.out)⟩⟩
            case round =>
              clear H'
              try clear c1
              try clear c2
              try clear p2
              try clear c3
              try clear c4
              try clear p6
              try clear c7
              try clear c7b0
              try clear c7b1
              try clear c11
              try clear c11b0
              try clear c12
              try clear c12b0
              try clear c14
              try clear c14b0
              try clear c14b1
              try clear c16
              try clear c16b0
              try clear c16b1
              try clear c17
              try clear c17b0
              try clear c17b1
              obtain ⟨x7_1, x9_1, rfl, HA, HK1, HO_7, HO_8, HB⟩ := hrel
              cases gk with
              | zero => exact absurd HA.out (by simp [hypercubelaw8_LatticeLevels.l0])
              | succ k1 =>
                have H := HA.out
                clear HA
                simp only [hypercubelaw8_LatticeLevels.l0] at H
                by_cases c23 : x9_1 < (t133.length : Int)
                · rw [if_pos c23] at H
                  have c23b0 : decide (x9_1 < (t133.length : Int)) = true := decide_eq_true c23
                  clear c23
                  by_cases c24 : 0 ≤ x9_1
                  · rw [if_pos c24] at H
                    have c24b0 : decide (0 ≤ x9_1) = true := decide_eq_true c24
                    clear c24
                    replace H := Option.bind_eq_some_iff.mp H
                    obtain ⟨t137, A250, H⟩ := H
                    replace H : (if t137 < 0 then (some false) else (if t137 > (wrap64 (1 + t126)) then (some false) else (if 0 ≤ t137 then (if t137 < (x7_1.length : Int) then (hypercubelaw8_LatticeLevels.l0 k1 (wrap64 (1 + t126)) (x7_1.set (t137 : Int).toNat (wrap64 ((rd x7_1 t137) + 1))) t133 (wrap64 (x9_1 + 1))) else (none)) else (none)))) = some r := H
                    have A25 := Aside0.mk A250
                    clear A250
                    by_cases c26 : t137 < 0
                    · rw [if_pos c26] at H
                      have c26b0 : decide (t137 < 0) = true := decide_eq_true c26
                      clear c26
                      obtain rfl := Option.some.inj H
                      obtain ⟨Ao27, co27, eo27⟩ := Kd.R_slice HO_8.out
                      subst eo27
                      have p136 : 0 ≤ (x9_1 : Int) := of_decide_eq_true (by first | (with_reducible assumption) | assumption)
                      have q136 : x9_1 < (t133.length : Int) := of_decide_eq_true (by first | (with_reducible assumption) | assumption)
                      obtain ⟨ad136, e136, hx136_0⟩ := Kd.at_int (Kd.R_reads' HO_8.out).2.2 x9_1 p136 q136
                      cases e136
                      replace p136 := eq_true p136
                      replace q136 := eq_true q136
                      go_wp2_with (first | ((with_reducible refine gate_callee (f := 31) rfl ?_); refine goesL_ (some 50) rfl rfl Try.func31 (by kernel_rfl) rfl #[.int .i64 (rd t133 x9_1)] rfl (by (try simp only [List.map_toArray, List.map_cons, List.map_nil]); first | done | rfl | (simp only [List.length_drop, List.length_take]; rfl)) ?_; (with_reducible refine (lattice_Level.calls (rd t133 x9_1) t137 _ A25.out).mono ?_); rintro e w' ⟨rfl, ⟨nd, rfl⟩⟩; refine ⟨_, rfl, ?_⟩))
                      go_ret
                      exact ⟨by first | rfl | (simp [errW_none, errW_some] <;> rfl) | (simp only [← hji6, ← hji8, ← hji15]; first | rfl | (simp [errW_none, errW_some] <;> rfl)) | (simp [*, errW_none, errW_some] <;> rfl), by repeat (first | (with_reducible first | exact HB.out | apply below_alloc | apply pw_below_drewN | apply below_drew1) | exact HB.out)⟩
                    · rw [if_neg c26] at H
                      have c26b0 : decide (t137 < 0) = false := decide_eq_false c26
                      clear c26
                      by_cases c28 : t137 > (wrap64 (1 + t126))
                      · rw [if_pos c28] at H
                        have c28b0 : decide ((wrap64 (1 + t126)) < t137) = true := decide_eq_true c28
                        clear c28
                        obtain rfl := Option.some.inj H
                        obtain ⟨Ao29, co29, eo29⟩ := Kd.R_slice HO_8.out
                        subst eo29
                        have p136 : 0 ≤ (x9_1 : Int) := of_decide_eq_true (by first | (with_reducible assumption) | assumption)
                        have q136 : x9_1 < (t133.length : Int) := of_decide_eq_true (by first | (with_reducible assumption) | assumption)
                        obtain ⟨ad136, e136, hx136_0⟩ := Kd.at_int (Kd.R_reads' HO_8.out).2.2 x9_1 p136 q136
                        cases e136
                        replace p136 := eq_true p136
                        replace q136 := eq_true q136
                        go_wp2_with (first | ((with_reducible refine gate_callee (f := 31) rfl ?_); refine goesL_ (some 50) rfl rfl Try.func31 (by kernel_rfl) rfl #[.int .i64 (rd t133 x9_1)] rfl (by (try simp only [List.map_toArray, List.map_cons, List.map_nil]); first | done | rfl | (simp only [List.length_drop, List.length_take]; rfl)) ?_; (with_reducible refine (lattice_Level.calls (rd t133 x9_1) t137 _ A25.out).mono ?_); rintro e w' ⟨rfl, ⟨nd, rfl⟩⟩; refine ⟨_, rfl, ?_⟩))
                        go_ret
                        exact ⟨by first | rfl | (simp [errW_none, errW_some] <;> rfl) | (simp only [← hji6, ← hji8, ← hji15]; first | rfl | (simp [errW_none, errW_some] <;> rfl)) | (simp [*, errW_none, errW_some] <;> rfl), by repeat (first | (with_reducible first | exact HB.out | apply below_alloc | apply pw_below_drewN | apply below_drew1) | exact HB.out)⟩
                      · rw [if_neg c28] at H
                        have c28b0 : decide ((wrap64 (1 + t126)) < t137) = false := decide_eq_false c28
                        clear c28
                        by_cases c30 : 0 ≤ t137
                        · rw [if_pos c30] at H
                          have c30b0 : decide (0 ≤ t137) = true := decide_eq_true c30
                          clear c30
                          by_cases c31 : t137 < (x7_1.length : Int)
                          · rw [if_pos c31] at H
                            have c31b0 : decide (t137 < (x7_1.length : Int)) = true := decide_eq_true c31
                            clear c31
                            obtain ⟨y139, hy139⟩ : ∃ y_ : List Int, y_ = (x7_1.set (t137 : Int).toNat (wrap64 ((rd x7_1 t137) + 1))) := ⟨_, rfl⟩
                            replace H : (hypercubelaw8_LatticeLevels.l0 k1 (wrap64 (1 + t126)) y139 t133 (wrap64 (x9_1 + 1))) = some r := by first | (rw [hy139]; with_reducible exact H) | (have H2_ := (Option.bind_some _ _).symm.trans H; rw [hy139]; with_reducible exact H2_) | (have H2_ := (Option.bind_some _ _).symm.trans H; with_reducible exact H2_) | with_reducible exact H | (rw [hy139]; exact H) | exact H
                            have Ny139 := Aside0.mk hy139
                            clear hy139
                            have H' := Aside0.mk H
                            clear H
                            obtain ⟨Ao33, co33, eo33⟩ := Kd.R_slice HO_8.out
                            subst eo33
                            have p136 : 0 ≤ (x9_1 : Int) := of_decide_eq_true (by first | (with_reducible assumption) | assumption)
                            have q136 : x9_1 < (t133.length : Int) := of_decide_eq_true (by first | (with_reducible assumption) | assumption)
                            obtain ⟨ad136, e136, hx136_0⟩ := Kd.at_int (Kd.R_reads' HO_8.out).2.2 x9_1 p136 q136
                            cases e136
                            replace p136 := eq_true p136
                            replace q136 := eq_true q136
                            go_wp2_with (first | ((with_reducible refine gate_callee (f := 31) rfl ?_); refine goesL_ (some 50) rfl rfl Try.func31 (by kernel_rfl) rfl #[.int .i64 (rd t133 x9_1)] rfl (by (try simp only [List.map_toArray, List.map_cons, List.map_nil]); first | done | rfl | (simp only [List.length_drop, List.length_take]; rfl)) ?_; (with_reducible refine (lattice_Level.calls (rd t133 x9_1) t137 _ A25.out).mono ?_); rintro e w' ⟨rfl, ⟨nd, rfl⟩⟩; refine ⟨_, rfl, ?_⟩; (try (rw [drewN_self wr]; generalize hq_ : World.drewN wr _ = wr; have n0_ : Aside0 (Kd.R (Kd.int .i64) 3 wr w.heap.size (fun k_ => some k_ ≠ (.slice (some ad136) t133.length co33 : Value).ownBlock) v131 x7_1) := ⟨by rw [← hq_]; exact (by (with_reducible repeat (first | apply Kd.R_alloc | apply Kd.R_drewN | apply Kd.R_drew)); exact HO_7.out)⟩; have n1_ : Aside0 (Kd.R (Kd.int .i64) 3 wr w.heap.size (fun k_ => some k_ ≠ (v131 : Value).ownBlock) (.slice (some ad136) t133.length co33) t133) := ⟨by rw [← hq_]; exact (by (with_reducible repeat (first | apply Kd.R_alloc | apply Kd.R_drewN | apply Kd.R_drew)); exact HO_8.out)⟩; have n2_ : Aside0 (Below w.heap.size w wr) := ⟨by rw [← hq_]; exact (by repeat (first | (with_reducible first | exact HB.out | apply below_alloc | apply pw_below_drewN | apply below_drew1) | exact HB.out))⟩; clear HO_7 HO_8 HB hq_; have HO_7 := n0_; have HO_8 := n1_; have HB := n2_; clear n0_ n1_ n2_)); obtain ⟨Ao34, co34, eo34⟩ := Kd.R_slice HO_7.out; subst eo34; have p138 : 0 ≤ (t137 : Int) := of_decide_eq_true (by first | (with_reducible assumption) | assumption); have q138 : t137 < (x7_1.length : Int) := of_decide_eq_true (by first | (with_reducible assumption) | assumption); obtain ⟨ad138, e138, hx138_0⟩ := Kd.at_int (Kd.R_reads' HO_7.out).2.2 t137 p138 q138; cases e138; replace p138 := eq_true p138; replace q138 := eq_true q138; have p32 : 0 ≤ (t137 : Int) := of_decide_eq_true (by first | (with_reducible assumption) | assumption); have q32 : (t137 : Int) < ((x7_1.length : Int) : Int) := of_decide_eq_true (by first | (with_reducible assumption) | assumption); obtain ⟨go32, co32, eo32, gb32, gl32, cl32, HG32⟩ := Kd.R_form HO_7.out (by omega); (first | cases eo32 | (injection eo32 with ea_ en_ ec_; (first | subst ea_ | (injection ea_ with ea_; subst ea_)); subst ec_; clear en_)); have GB32 := Aside0.mk gb32; have GG32 := Aside0.mk HG32; clear gb32 gl32 HG32; (first | simp only [add_plain] at hx138_0 | skip); obtain ⟨hx32_0, hf32_0⟩ := Kd.R_celln 0 HO_7.out (t137 : Int) p32 q32; replace p32 := eq_true p32; replace q32 := eq_true q32; obtain ⟨hy35_, hz35_⟩ := Kd.R_celln 0 HO_7.out (t137 : Int) (of_decide_eq_true (by first | (with_reducible assumption) | assumption)) (of_decide_eq_true (by first | (with_reducible assumption) | assumption)); have HP35 := Kd.R_putg HO_7.out (t137 : Int) (wrap64 ((rd x7_1 t137) + 1))) | ((with_reducible refine gate_store (t := 3) (p := 63) rfl ?_); refine store_event (t := 3) (p := 63) (v := ?vo_w36) (w1 := (wr.setCell ⟨go32, (t137 : Int).toNat, none⟩ (.int .i64 (wrap64 ((rd x7_1 t137) + 1))))) ?hg ?ho ?hn ?hr ?_; (case ho => rfl); (case hg => rfl); (case hn => rfl); (case hr => first | (go_simp; done) | (go_simp; rfl)); intro w36 hw; have hg : wr.grownBy w36 (some go32) := (by rw [hw]; exact HP35.2); have hp_ : Kd.R (Kd.int .i64) 3 w36 w.heap.size (fun k_ => some k_ ≠ (.slice (some ad136) t133.length co33 : Value).ownBlock) (.slice (some ⟨go32, 0, none⟩) x7_1.length co34) y139 := (by rw [hw, Ny139.out]; exact HP35.1); clear HP35; have n0_ := Aside0.mk (hp_); have n1_ := Aside0.mk (Kd.R_after (v := (.slice (some ⟨go32, 0, none⟩) x7_1.length co34)) (v1 := (.slice (some ⟨go32, 0, none⟩) x7_1.length co34)) (ok := (fun _ => True)) (by (with_reducible repeat (first | apply Kd.R_alloc | apply Kd.R_drewN | apply Kd.R_drew)); exact Kd.R_mono HO_8.out (fun _ hk => ⟨trivial, hk⟩)) hg (.inl rfl)); have n2_ := Aside0.mk ((by rw [hw]; exact below_set (HB.out) GB32.out : Below w.heap.size w w36)); clear HO_7; clear HO_8; clear HB; have HO_7 := n0_; have HO_8 := n1_; have HB := n2_; clear n0_ n1_ n2_; clear hg hw hp_))
                            go_roundg k1
                            case measure => have := HK1.out; omega
                            case rel => exact ⟨(y139), (wrap64 (x9_1 + 1)), (by first | rfl | (simp; done) | (simp [*]; done)), H', ⟨by have := HK1.out; omega⟩, ⟨by (with_reducible repeat (first | apply Kd.R_alloc | apply Kd.R_drewN | apply Kd.R_drew)); exact HO_7.out⟩, ⟨by (with_reducible repeat (first | apply Kd.R_alloc | apply Kd.R_drewN | apply Kd.R_drew)); exact Kd.R_mono HO_8.out (fun _ hk => hk.2)⟩, ⟨by repeat (first | (with_reducible first | exact HB.out | apply below_alloc | apply pw_below_drewN | apply below_drew1) | exact HB.out)⟩⟩
                          · rw [if_neg c31] at H
                            exact absurd H (by simp)
                        · rw [if_neg c30] at H
                          exact absurd H (by simp)
                  · rw [if_neg c24] at H
                    exact absurd H (by simp)
                · rw [if_neg c23] at H
                  have c23b0 : decide (x9_1 < (t133.length : Int)) = false := decide_eq_false c23
                  clear c23
                  have H' := Aside0.mk H
                  clear H
                  obtain ⟨Ao37, co37, eo37⟩ := Kd.R_slice HO_8.out
                  subst eo37
                  go_wp2
                  go_loopg [11, 12] k1 (fun kq v11 v12 w' => ∃ (x11_2 : Int) (x12_2 : Int), v11 = .int .i64 x11_2 ∧ v12 = .int .i64 x12_2 ∧ Aside0 (hypercubelaw8_LatticeLevels.l1 kq (wrap64 (1 + t126)) x7_1 x11_2 x12_2 = some r) ∧ Aside0 (kq ≤ k1) ∧ Aside0 (Kd.R (Kd.int .i64) 3 w' w.heap.size (fun _ => True) v131 x7_1) ∧ Aside0 (Below w.heap.size w w'))
                  case atStart => exact ⟨(1), (0), (by first | rfl | (simp; done) | (simp [*]; done)), (by first | rfl | (simp; done) | (simp [*]; done)), H', ⟨Nat.le_refl _⟩, ⟨by (with_reducible repeat (first | apply Kd.R_alloc | apply Kd.R_drewN | apply Kd.R_drew)); exact Kd.R_mono HO_7.out (fun _ hk => trivial)⟩, ⟨by repeat (first | (with_reducible first | exact HB.out | apply below_alloc | apply pw_below_drewN | apply below_drew1) | exact HB.out)⟩⟩
                  case round =>
                    clear H'
                    try clear c1
                    try clear p1
                    try clear q1
                    try clear hx1
                    try clear c2
                    try clear p2
                    try clear c3
                    try clear p3
                    try clear q3
                    try clear hx3
                    try clear hf3
                    try clear c4
                    try clear p6
                    try clear c7
                    try clear c7b0
                    try clear c7b1
                    try clear c11
                    try clear c11b0
                    try clear c12
                    try clear c12b0
                    try clear p13
                    try clear q13
                    try clear hx13
                    try clear c14
                    try clear c14b0
                    try clear c14b1
                    try clear c16
                    try clear c16b0
                    try clear c16b1
                    try clear c17
                    try clear c17b0
                    try clear c17b1
                    try clear c23
                    try clear c23b0
                    try clear c24
                    try clear c24b0
                    try clear c26
                    try clear c26b0
                    try clear c27
                    try clear c28
                    try clear c28b0
                    try clear c29
                    try clear c30
                    try clear c30b0
                    try clear c31
                    try clear c31b0
                    try clear p32
                    try clear q32
                    try clear hx32
                    try clear hf32
                    try clear hx136_0
                    try clear hx138_0
                    try clear hx32_0
                    try clear p136
                    try clear p138
                    try clear p2
                    try clear p32
                    try clear p6
                    try clear q136
                    try clear q138
                    try clear q32
                    obtain ⟨x11_2, x12_2, rfl, rfl, HA, HK2, HO_7, HB⟩ := hrel
                    cases gk with
                    | zero => exact absurd HA.out (by simp [hypercubelaw8_LatticeLevels.l1])
                    | succ k2 =>
                      have H := HA.out
                      clear HA
                      simp only [hypercubelaw8_LatticeLevels.l1] at H
                      by_cases c38 : x12_2 ≤ (wrap64 (1 + t126))
                      · rw [if_pos c38] at H
                        have c38b0 : decide (x12_2 ≤ (wrap64 (1 + t126))) = true := decide_eq_true c38
                        clear c38
                        by_cases c39 : 0 ≤ x12_2
                        · rw [if_pos c39] at H
                          have c39b0 : decide (0 ≤ x12_2) = true := decide_eq_true c39
                          clear c39
                          by_cases c40 : x12_2 < (x7_1.length : Int)
                          · rw [if_pos c40] at H
                            have c40b0 : decide (x12_2 < (x7_1.length : Int)) = true := decide_eq_true c40
                            clear c40
                            by_cases c41 : (rd x7_1 x12_2) = x11_2
                            · rw [if_pos c41] at H
                              have c41b0 : ((rd x7_1 x12_2) == x11_2) = true := beq_iff_eq.mpr c41
                              have c41b1 : ((rd x7_1 x12_2) != x11_2) = false := bne_eq_false_iff_eq.mpr c41
                              clear c41
                              by_cases c42 : (wrap64 (x12_2 + 1)) = 0
                              · rw [if_pos c42] at H
                                exact absurd H (by simp)
                              · rw [if_neg c42] at H
                                have c42b0 : ((wrap64 (x12_2 + 1)) == 0) = false := beq_eq_false_iff_ne.mpr c42
                                have c42b1 : ((wrap64 (x12_2 + 1)) != 0) = true := bne_iff_ne.mpr c42
                                have H' := Aside0.mk H
                                clear H
                                obtain ⟨Ao43, co43, eo43⟩ := Kd.R_slice HO_7.out
                                subst eo43
                                have p140 : 0 ≤ (x12_2 : Int) := of_decide_eq_true (by first | (with_reducible assumption) | assumption)
                                have q140 : x12_2 < (x7_1.length : Int) := of_decide_eq_true (by first | (with_reducible assumption) | assumption)
                                obtain ⟨ad140, e140, hx140_0⟩ := Kd.at_int (Kd.R_reads' HO_7.out).2.2 x12_2 p140 q140
                                cases e140
                                replace p140 := eq_true p140
                                replace q140 := eq_true q140
                                go_wp2
                                go_roundg k2
                                case measure => have := HK1.out; have := HK2.out; omega
                                case rel => exact ⟨(wrap64 (Int.tdiv (wrap64 (x11_2 * (wrap64 ((wrap64 (1 + t126)) - x12_2)))) (wrap64 (x12_2 + 1)))), (wrap64 (x12_2 + 1)), (by first | rfl | (simp; done) | (simp [*]; done)), (by first | rfl | (simp; done) | (simp [*]; done)), H', ⟨by have := HK1.out; have := HK2.out; omega⟩, ⟨by (with_reducible repeat (first | apply Kd.R_alloc | apply Kd.R_drewN | apply Kd.R_drew)); exact HO_7.out⟩, ⟨by repeat (first | (with_reducible first | exact HB.out | apply below_alloc | apply pw_below_drewN | apply below_drew1) | exact HB.out)⟩⟩
                            · rw [if_neg c41] at H
                              have c41b0 : ((rd x7_1 x12_2) == x11_2) = false := beq_eq_false_iff_ne.mpr c41
                              have c41b1 : ((rd x7_1 x12_2) != x11_2) = true := bne_iff_ne.mpr c41
                              obtain rfl := Option.some.inj H
                              obtain ⟨Ao44, co44, eo44⟩ := Kd.R_slice HO_7.out
                              subst eo44
                              have p140 : 0 ≤ (x12_2 : Int) := of_decide_eq_true (by first | (with_reducible assumption) | assumption)
                              have q140 : x12_2 < (x7_1.length : Int) := of_decide_eq_true (by first | (with_reducible assumption) | assumption)
                              obtain ⟨ad140, e140, hx140_0⟩ := Kd.at_int (Kd.R_reads' HO_7.out).2.2 x12_2 p140 q140
                              cases e140
                              replace p140 := eq_true p140
                              replace q140 := eq_true q140
                              go_wp2
                              go_ret
                              exact ⟨by first | rfl | (simp [errW_none, errW_some] <;> rfl) | (simp only [← hji6, ← hji8, ← hji15]; first | rfl | (simp [errW_none, errW_some] <;> rfl)) | (simp [*, errW_none, errW_some] <;> rfl), by repeat (first | (with_reducible first | exact HB.out | apply below_alloc | apply pw_below_drewN | apply below_drew1) | exact HB.out)⟩
                          · rw [if_neg c40] at H
                            exact absurd H (by simp)
                        · rw [if_neg c39] at H
                          exact absurd H (by simp)
                      · rw [if_neg c38] at H
                        have c38b0 : decide (x12_2 ≤ (wrap64 (1 + t126))) = false := decide_eq_false c38
                        clear c38
                        obtain rfl := Option.some.inj H
                        go_wp2
                        go_ret
                        exact ⟨by first | rfl | (simp [errW_none, errW_some] <;> rfl) | (simp only [← hji6, ← hji8, ← hji15]; first | rfl | (simp [errW_none, errW_some] <;> rfl)) | (simp [*, errW_none, errW_some] <;> rfl), by repeat (first | (with_reducible first | exact HB.out | apply below_alloc | apply pw_below_drewN | apply below_drew1) | exact HB.out)⟩
          · rw [if_neg c17] at H
            exact absurd H (by simp)
        · rw [if_neg c16] at H
          exact absurd H (by simp)
      · rw [if_neg c14] at H
        have c14b0 : ((wrap64 (t128 + t129)) == (wrap64 (1 + t126))) = false := beq_eq_false_iff_ne.mpr c14
        have c14b1 : ((wrap64 (t128 + t129)) != (wrap64 (1 + t126))) = true := bne_iff_ne.mpr c14
        obtain rfl := Option.some.inj H
        go_enter Try.func4, Try.ntmps4
        go_wp2_with (first | ((with_reducible refine gate_callee (f := 27) rfl ?_); refine goesL_ (some 13) rfl rfl Try.func27 (by kernel_rfl) rfl #[] rfl (by (try simp only [List.map_toArray, List.map_cons, List.map_nil]); first | done | rfl | (simp only [List.length_drop, List.length_take]; rfl)) ?_; (with_reducible refine (hypercubelaw8_known.calls  true _ A3.out).mono ?_); rintro e w45 ⟨rfl, hb⟩; refine ⟨_, rfl, ?_⟩; have n0_ := Aside0.mk (below_step (by repeat (first | (with_reducible first | exact HB.out | apply below_alloc | apply pw_below_drewN | apply below_drew1) | exact HB.out)) hb); clear HB; have HB := n0_; clear n0_; (try clear hb); (try clear hb2); (try clear hk); (try clear hi)) | ((with_reducible refine gate_callee (f := 28) rfl ?_); refine goesL_ (some 16) rfl rfl Try.func28 (by kernel_rfl) rfl #[.int .i64 a0, .int .i64 4] rfl (by (try simp only [List.map_toArray, List.map_cons, List.map_nil]); first | done | rfl | (simp only [List.length_drop, List.length_take]; rfl)) ?_; (with_reducible refine (hypercubelaw8_within.calls a0 4 t126 _ A5.out).mono ?_); rintro e w' ⟨rfl, ⟨nd, rfl⟩⟩; refine ⟨_, rfl, ?_⟩) | ((with_reducible refine gate_callee (f := 28) rfl ?_); refine goesL_ (some 22) rfl rfl Try.func28 (by kernel_rfl) rfl #[.int .i64 a1, .int .i64 ji8] rfl (by (try simp only [List.map_toArray, List.map_cons, List.map_nil]); first | done | (simp only [hji8]; rfl) | rfl | (simp only [List.length_drop, List.length_take]; rfl)) ?_; (with_reducible refine (hypercubelaw8_within.calls a1 ji8 t127 _ A9.out).mono ?_); rintro e w' ⟨rfl, ⟨nd, rfl⟩⟩; refine ⟨_, rfl, ?_⟩) | ((with_reducible refine gate_callee (f := 31) rfl ?_); refine goesL_ (some 24) rfl rfl Try.func31 (by kernel_rfl) rfl #[.int .i64 t127] rfl (by (try simp only [List.map_toArray, List.map_cons, List.map_nil]); first | done | rfl | (simp only [List.length_drop, List.length_take]; rfl)) ?_; (with_reducible refine (lattice_Level.calls t127 t128 _ A10.out).mono ?_); rintro e w' ⟨rfl, ⟨nd, rfl⟩⟩; refine ⟨_, rfl, ?_⟩) | ((with_reducible refine gate_callee (f := 31) rfl ?_); refine goesL_ (some 31) rfl rfl Try.func31 (by kernel_rfl) rfl #[.int .i64 (wrap64 ((wrap64 ((ji8) - 1)) - t127))] rfl (by (try simp only [List.map_toArray, List.map_cons, List.map_nil]); first | done | (simp only [hji8]; rfl) | rfl | (simp only [List.length_drop, List.length_take]; rfl)) ?_; (with_reducible refine (lattice_Level.calls (wrap64 ((wrap64 ((ji8) - 1)) - t127)) t129 _ A13.out).mono ?_); rintro e w' ⟨rfl, ⟨nd, rfl⟩⟩; refine ⟨_, rfl, ?_⟩))
        go_ret
        exact ⟨by first | rfl | (simp [errW_none, errW_some] <;> rfl) | (simp only [← hji6, ← hji8]; first | rfl | (simp [errW_none, errW_some] <;> rfl)) | (simp [*, errW_none, errW_some] <;> rfl), by repeat (first | (with_reducible first | exact HB.out | apply below_alloc | apply pw_below_drewN | apply below_drew1) | exact HB.out)⟩
    · rw [if_neg c7] at H
      exact absurd H (by simp)
  · replace c4 := Bool.eq_false_iff.mpr c4
    subst c4
    have H1 : (some false) = some r := by rw [if_neg (show ¬ (false = true) by decide)] at H; exact H
    clear H
    have H := H1
    clear H1
    obtain rfl := Option.some.inj H
    go_enter Try.func4, Try.ntmps4
    go_wp2_with (first | ((with_reducible refine gate_callee (f := 27) rfl ?_); refine goesL_ (some 13) rfl rfl Try.func27 (by kernel_rfl) rfl #[] rfl (by (try simp only [List.map_toArray, List.map_cons, List.map_nil]); first | done | rfl | (simp only [List.length_drop, List.length_take]; rfl)) ?_; (with_reducible refine (hypercubelaw8_known.calls  false _ A3.out).mono ?_); rintro e w46 ⟨rfl, hb⟩; refine ⟨_, rfl, ?_⟩; have n0_ := Aside0.mk (below_step (by repeat (first | (with_reducible first | exact HB.out | apply below_alloc | apply pw_below_drewN | apply below_drew1) | exact HB.out)) hb); clear HB; have HB := n0_; clear n0_; (try clear hb); (try clear hb2); (try clear hk); (try clear hi)))
    go_ret
    exact ⟨by first | rfl | (simp [errW_none, errW_some] <;> rfl) | (simp [*, errW_none, errW_some] <;> rfl), by repeat (first | (with_reducible first | exact HB.out | apply below_alloc | apply pw_below_drewN | apply below_drew1) | exact HB.out)⟩

/-- THE ONE PURE STATEMENT of hypercubelaw8_LatticeLevels: yours. -/
def hypercubelaw8_LatticeLevels.Pure : Prop := ∀ (a0 : Int) (a1 : Int), (Lit.int .i64 a0).wf = true → (Lit.int .i64 a1).wf = true → ∃ k, hypercubelaw8_LatticeLevels.f k a0 a1 = some true
theorem hypercubelaw8_LatticeLevels.walk (P : hypercubelaw8_LatticeLevels.Pure) (a0 : Int) (a1 : Int) (w : World) (w0 : (Lit.int .i64 a0).wf = true) (w1 : (Lit.int .i64 a1).wf = true) :
    Calls Try.prog 4 #[.int .i64 a0, .int .i64 a1] w fun e w' => e = .returned (.bool true) ∧ Below w.heap.size w w' := by
  obtain ⟨k, h⟩ := P a0 a1 w0 w1
  refine (hypercubelaw8_LatticeLevels.calls k a0 a1 true w h).mono ?_
  rintro e w' ⟨rfl, hd⟩
  exact ⟨rfl, hd⟩

end Go.Proofs.Ytlplaidcdocbmaa.PLatticeLevels
