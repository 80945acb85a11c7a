-- Cut by pack.py, a program of this session; not trusted: Lean checks it.
import Derived.Test.YtlplaidcdocbmaaZG0
import Derived.Test.YtlplaidcdocbmaaZPSortsAllx3
import Derived.Test.YtlplaidcdocbmaaZPSortsAllx4
import Derived.Test.YtlplaidcdocbmaaZPSortsAllx11
import Derived.Test.YtlplaidcdocbmaaZPSortsAllx12
import Derived.Test.YtlplaidcdocbmaaZPSortsAllx13

namespace Go.Proofs.Ytlplaidcdocbmaa.PSortsAll
open Go.RowKit Go.Proofs.YtlplaidcdocbmaaW.PrintWords Go.Proofs.YtlplaidcdocbmaaW.PrintLast Go.Proofs.YtlplaidcdocbmaaW.PrintMore
private abbrev fl_ (a b : Nat) : Array Bool := (List.replicate a true ++ List.replicate b false).toArray
private abbrev Y : Bool := true
private abbrev Z : Bool := false
open List renaming setIfInBounds_toArray → sl0, set_cons_zero → sl1, set_cons_succ → sl2
attribute [local go_sem] max2_int min2_int max_two min_two max_three min_three max_four min_four
set_option linter.unusedVariables false
set_option linter.unusedSimpArgs false
def hypercubelaw10_SortsAll.j0 : Nat → List (S49) → List (S49) → Int → Bool → Option (Bool)
 | 0, _, _, _, _ => none
 | k + 1, x10, x11, x12, x54 => if x54 = true then (some false) else ((sorts_Orders.f x10 x12).bind fun t394 => ((hypercuberef10_Orders.f k x11 x12).bind fun t397 => ((hypercubelaw10_same.f k t394 t397).bind fun t400 => (some t400))))
def hypercubelaw10_SortsAll.f (k : Nat) (a0 : Int) (l1 : List Int) (a2 : Int) : Option (Bool) := (hypercubelaw10_known.f).bind fun t374 => (if t374 = true then ((hypercubelaw1_Facts.f k a0 l1 0 ([] : List Int)).bind fun bt375 => ((hypercubelaw10_within.f a2 301).bind fun t383 => ((sorts_Plan.f bt375.1 bt375.2.1 t383).bind fun t384 => ((hypercuberef10_Plan.f k bt375.1 bt375.2.1 t383).bind fun t387 => ((hypercuberef10_Same.f k t384 t387).bind fun t390 => (if t390 = true then ((sorts_Right.f t384 (bt375.1.length : Int)).bind fun t391 => (if t391 = true then ((sorts_Cost.f bt375.1 bt375.2.1 t383 t384).bind fun t392 => ((hypercuberef10_Cost.f k bt375.1 bt375.2.1 t383 t387).bind fun t393 => (hypercubelaw10_SortsAll.j0 k t384 t387 (bt375.1.length : Int) (t392 != t393)))) else (hypercubelaw10_SortsAll.j0 k t384 t387 (bt375.1.length : Int) true))) else (hypercubelaw10_SortsAll.j0 k t384 t387 (bt375.1.length : Int) true))))))) else (some false))
def hypercubelaw10_SortsAll.T5 : Bool × List (List Nat × List Nat) := (true, [([], []), ([], []), ([0, 1], [0, 1]), ([], []), ([], []), ([3, 4, 2], [3, 4]), ([2, 5, 0, 1, 2], [2]), ([5, 6, 0, 1, 2, 3, 4, 5, 6], [5])])
def hypercubelaw10_SortsAll.B5 : List Nat := [0, 0, 3, 0, 0, 31, 63, 127]
theorem hypercubelaw10_SortsAll.tab5 : rtab .any (opsOf Try.f26 5) = hypercubelaw10_SortsAll.T5 := by kernel_rfl
theorem hypercubelaw10_SortsAll.bits5 : waitsOk hypercubelaw10_SortsAll.T5.2 hypercubelaw10_SortsAll.B5 = true := by kernel_rfl
def hypercubelaw10_SortsAll.T7 : Bool × List (List Nat × List Nat) := (true, [([], []), ([], []), ([0, 1], [0, 1]), ([2], [2]), ([3, 2], [3]), ([4], [4]), ([4], [4]), ([5, 6, 4, 4], [4, 5, 6]), ([7, 4], [4, 7]), ([4, 8], [4, 8]), ([9, 7], [9]), ([10], [10]), ([10], [10]), ([10], [10]), ([11, 12, 13, 10, 10], [10, 11, 12, 13]), ([10], [10]), ([10], [10]), ([10], [10]), ([15, 16, 17, 14, 10], [10, 15, 16, 17]), ([14, 18, 10], [10, 14, 18]), ([10, 19], [10, 19])])
def hypercubelaw10_SortsAll.B7 : List Nat := [0, 0, 3, 7, 15, 31, 31, 127, 255, 511, 1023, 2047, 2047, 2047, 16383, 2047, 2047, 2047, 262143, 524287, 1048575]
theorem hypercubelaw10_SortsAll.tab7 : rtab .any (opsOf Try.f26 7) = hypercubelaw10_SortsAll.T7 := by kernel_rfl
theorem hypercubelaw10_SortsAll.bits7 : waitsOk hypercubelaw10_SortsAll.T7.2 hypercubelaw10_SortsAll.B7 = true := by kernel_rfl
set_option maxHeartbeats 8000000 in
set_option maxRecDepth 100000 in
theorem hypercubelaw10_SortsAll.calls (k : Nat) (a0 : Int) (A1 : Option Addr) (c1 : Nat) (l1 : List Int) (a2 : Int) (r : Bool) (w : World) (hr1 : Kd.C (Kd.int .i64) w A1 l1.length l1) (hc1 : l1.length ≤ c1) (h : hypercubelaw10_SortsAll.f k a0 l1 a2 = some r) :
 Calls Try.prog 26 #[.int .i64 a0, .slice A1 l1.length c1, .int .i64 a2] w fun e w' => e = .returned (.bool r) ∧ Below w.heap.size w w' := by
 have hu33 := Try.underlying33
 have HR1 := Aside0.mk hr1
 have HC1 := Aside0.mk hc1
 clear hr1 hc1
 have HB := Aside0.mk (Below.refl w.heap.size w)
 have H : ((hypercubelaw10_known.f).bind fun t374 => (if t374 = true then ((hypercubelaw1_Facts.f k a0 l1 0 ([] : List Int)).bind fun bt375 => ((hypercubelaw10_within.f a2 301).bind fun t383 => ((sorts_Plan.f bt375.1 bt375.2.1 t383).bind fun t384 => ((hypercuberef10_Plan.f k bt375.1 bt375.2.1 t383).bind fun t387 => ((hypercuberef10_Same.f k t384 t387).bind fun t390 => (if t390 = true then ((sorts_Right.f t384 (bt375.1.length : Int)).bind fun t391 => (if t391 = true then ((sorts_Cost.f bt375.1 bt375.2.1 t383 t384).bind fun t392 => ((hypercuberef10_Cost.f k bt375.1 bt375.2.1 t383 t387).bind fun t393 => (hypercubelaw10_SortsAll.j0 k t384 t387 (bt375.1.length : Int) (t392 != t393)))) else (hypercubelaw10_SortsAll.j0 k t384 t387 (bt375.1.length : Int) true))) else (hypercubelaw10_SortsAll.j0 k t384 t387 (bt375.1.length : Int) true))))))) else (some false))) = some r := h
 clear h
 replace H := Option.bind_eq_some_iff.mp H
 obtain ⟨t374, A40, H⟩ := H
 replace H : (if t374 = true then ((hypercubelaw1_Facts.f k a0 l1 0 ([] : List Int)).bind fun bt375 => ((hypercubelaw10_within.f a2 301).bind fun t383 => ((sorts_Plan.f bt375.1 bt375.2.1 t383).bind fun t384 => ((hypercuberef10_Plan.f k bt375.1 bt375.2.1 t383).bind fun t387 => ((hypercuberef10_Same.f k t384 t387).bind fun t390 => (if t390 = true then ((sorts_Right.f t384 (bt375.1.length : Int)).bind fun t391 => (if t391 = true then ((sorts_Cost.f bt375.1 bt375.2.1 t383 t384).bind fun t392 => ((hypercuberef10_Cost.f k bt375.1 bt375.2.1 t383 t387).bind fun t393 => (hypercubelaw10_SortsAll.j0 k t384 t387 (bt375.1.length : Int) (t392 != t393)))) else (hypercubelaw10_SortsAll.j0 k t384 t387 (bt375.1.length : Int) true))) else (hypercubelaw10_SortsAll.j0 k t384 t387 (bt375.1.length : Int) true))))))) else (some false)) = some r := H
 have A4 := Aside0.mk A40
 clear A40
 by_cases c5 : t374 = true
 rotate_left
 ·replace c5 := Bool.eq_false_iff.mpr c5
  subst c5
  have H1 : (some false) = some r := by rw [if_neg (show ¬ (false = true) by decide)] at H; exact H
  clear H
  have H := H1
  clear H1
  obtain rfl := Option.some.inj H
  go_enter Try.func26, Try.ntmps26
  go_wp2_with (first | ((with_reducible refine gate_callee (f := 51) rfl ?_); refine goesL_ (some 15) rfl rfl Try.func51 (by kernel_rfl) rfl #[] rfl (by (try simp only [List.map_toArray, List.map_cons, List.map_nil]); first | done | rfl | (simp only [List.length_drop, List.length_take]; rfl)) ?_; (with_reducible refine (hypercubelaw10_known.calls  false _ A4.out).mono ?_); rintro e w50 ⟨rfl, hb⟩; refine ⟨_, rfl, ?_⟩; have n0_ := Aside0.mk (below_step (by repeat (first | (with_reducible first | exact HB.out | apply below_alloc | apply pw_below_drewN | apply below_drew1) | exact HB.out)) hb); clear HB; have HB := n0_; clear n0_; (try clear hb); (try clear hb2); (try clear hk); (try clear hi)))
  go_ret
  exact ⟨by first | rfl | (simp [errW_none, errW_some] <;> rfl) | (simp [*, errW_none, errW_some] <;> rfl), by repeat (first | (with_reducible first | exact HB.out | apply below_alloc | apply pw_below_drewN | apply below_drew1) | exact HB.out)⟩
 subst c5
 have H1 : ((hypercubelaw1_Facts.f k a0 l1 0 ([] : List Int)).bind fun bt375 => ((hypercubelaw10_within.f a2 301).bind fun t383 => ((sorts_Plan.f bt375.1 bt375.2.1 t383).bind fun t384 => ((hypercuberef10_Plan.f k bt375.1 bt375.2.1 t383).bind fun t387 => ((hypercuberef10_Same.f k t384 t387).bind fun t390 => (if t390 = true then ((sorts_Right.f t384 (bt375.1.length : Int)).bind fun t391 => (if t391 = true then ((sorts_Cost.f bt375.1 bt375.2.1 t383 t384).bind fun t392 => ((hypercuberef10_Cost.f k bt375.1 bt375.2.1 t383 t387).bind fun t393 => (hypercubelaw10_SortsAll.j0 k t384 t387 (bt375.1.length : Int) (t392 != t393)))) else (hypercubelaw10_SortsAll.j0 k t384 t387 (bt375.1.length : Int) true))) else (hypercubelaw10_SortsAll.j0 k t384 t387 (bt375.1.length : Int) true))))))) = some r := by rw [if_pos rfl] at H; exact H
 clear H
 have H := H1
 clear H1
 replace H := Option.bind_eq_some_iff.mp H
 obtain ⟨⟨t375, t378, t379⟩, A60, H⟩ := H
 replace H : ((hypercubelaw10_within.f a2 301).bind fun t383 => ((sorts_Plan.f t375 t378 t383).bind fun t384 => ((hypercuberef10_Plan.f k t375 t378 t383).bind fun t387 => ((hypercuberef10_Same.f k t384 t387).bind fun t390 => (if t390 = true then ((sorts_Right.f t384 (t375.length : Int)).bind fun t391 => (if t391 = true then ((sorts_Cost.f t375 t378 t383 t384).bind fun t392 => ((hypercuberef10_Cost.f k t375 t378 t383 t387).bind fun t393 => (hypercubelaw10_SortsAll.j0 k t384 t387 (t375.length : Int) (t392 != t393)))) else (hypercubelaw10_SortsAll.j0 k t384 t387 (t375.length : Int) true))) else (hypercubelaw10_SortsAll.j0 k t384 t387 (t375.length : Int) true)))))) = some r := H
 have A6 := Aside0.mk A60
 clear A60
 replace H := Option.bind_eq_some_iff.mp H
 obtain ⟨t383, A70, H⟩ := H
 replace H : ((sorts_Plan.f t375 t378 t383).bind fun t384 => ((hypercuberef10_Plan.f k t375 t378 t383).bind fun t387 => ((hypercuberef10_Same.f k t384 t387).bind fun t390 => (if t390 = true then ((sorts_Right.f t384 (t375.length : Int)).bind fun t391 => (if t391 = true then ((sorts_Cost.f t375 t378 t383 t384).bind fun t392 => ((hypercuberef10_Cost.f k t375 t378 t383 t387).bind fun t393 => (hypercubelaw10_SortsAll.j0 k t384 t387 (t375.length : Int) (t392 != t393)))) else (hypercubelaw10_SortsAll.j0 k t384 t387 (t375.length : Int) true))) else (hypercubelaw10_SortsAll.j0 k t384 t387 (t375.length : Int) true))))) = some r := H
 have A7 := Aside0.mk A70
 clear A70
 replace H := Option.bind_eq_some_iff.mp H
 obtain ⟨t384, A80, H⟩ := H
 replace H : ((hypercuberef10_Plan.f k t375 t378 t383).bind fun t387 => ((hypercuberef10_Same.f k t384 t387).bind fun t390 => (if t390 = true then ((sorts_Right.f t384 (t375.length : Int)).bind fun t391 => (if t391 = true then ((sorts_Cost.f t375 t378 t383 t384).bind fun t392 => ((hypercuberef10_Cost.f k t375 t378 t383 t387).bind fun t393 => (hypercubelaw10_SortsAll.j0 k t384 t387 (t375.length : Int) (t392 != t393)))) else (hypercubelaw10_SortsAll.j0 k t384 t387 (t375.length : Int) true))) else (hypercubelaw10_SortsAll.j0 k t384 t387 (t375.length : Int) true)))) = some r := H
 have A8 := Aside0.mk A80
 clear A80
 replace H := Option.bind_eq_some_iff.mp H
 obtain ⟨t387, A90, H⟩ := H
 replace H : ((hypercuberef10_Same.f k t384 t387).bind fun t390 => (if t390 = true then ((sorts_Right.f t384 (t375.length : Int)).bind fun t391 => (if t391 = true then ((sorts_Cost.f t375 t378 t383 t384).bind fun t392 => ((hypercuberef10_Cost.f k t375 t378 t383 t387).bind fun t393 => (hypercubelaw10_SortsAll.j0 k t384 t387 (t375.length : Int) (t392 != t393)))) else (hypercubelaw10_SortsAll.j0 k t384 t387 (t375.length : Int) true))) else (hypercubelaw10_SortsAll.j0 k t384 t387 (t375.length : Int) true))) = some r := H
 have A9 := Aside0.mk A90
 clear A90
 have HC10 := Aside0.mk H
 clear H
 go_enter Try.func26, Try.ntmps26
 try go_wp2_with (first | ((with_reducible refine gate_callee (f := 51) rfl ?_); refine goesL_ (some 15) rfl rfl Try.func51 (by kernel_rfl) rfl #[] rfl (by (try simp only [List.map_toArray, List.map_cons, List.map_nil]); first | done | rfl | (simp only [List.length_drop, List.length_take]; rfl)) ?_; (with_reducible refine (hypercubelaw10_known.calls  true _ A4.out).mono ?_); rintro e w11 ⟨rfl, hb⟩; refine ⟨_, rfl, ?_⟩; have n0_ := Aside0.mk (below_step (by repeat (first | (with_reducible first | exact HB.out | apply below_alloc | apply pw_below_drewN | apply below_drew1) | exact HB.out)) hb); clear HB; have HB := n0_; clear n0_; (try clear hb); (try clear hb2); (try clear hk); (try clear hi)) | ((with_reducible refine gate_callee (f := 32) rfl ?_); refine goesL_ (some 20) rfl rfl Try.func32 (by kernel_rfl) rfl #[.int .i64 a0, .slice A1 l1.length c1, .int .i64 0, .slice none 0 0] rfl (by (try simp only [List.map_toArray, List.map_cons, List.map_nil]); first | done | rfl | (simp only [List.length_drop, List.length_take]; rfl)) ?_; (refine (hypercubelaw1_Facts.calls k a0 _ _ l1 0 _ _ ([] : List Int) t375 t378 t379 _ ?side1 ?side2 ?side3 ?side4 A6.out).mono ?_); (case side1 => repeat (first | exact (Kd.C_below HR1.out HB.out) | (with_reducible refine Kd.C_alloc ?_ _) | (with_reducible refine Kd.C_drewN ?_ _) | (with_reducible refine Kd.C_drew ?_))); (case side2 => exact HC1.out); (case side3 => exact Kd.C_nil _ _); (case side4 => exact Nat.le_refl _); rintro e w12 ⟨v376, v380, rfl, ho0, ho1, hb⟩; refine ⟨_, rfl, ?_⟩; have n0_ := Aside0.mk (Kd.R_lower ho0 (below_size (by repeat (first | (with_reducible first | exact HB.out | apply below_alloc | apply pw_below_drewN | apply below_drew1) | exact HB.out)))); have n1_ := Aside0.mk (Kd.S_lower ho1 (below_size (by repeat (first | (with_reducible first | exact HB.out | apply below_alloc | apply pw_below_drewN | apply below_drew1) | exact HB.out)))); have n2_ := Aside0.mk (below_step (by repeat (first | (with_reducible first | exact HB.out | apply below_alloc | apply pw_below_drewN | apply below_drew1) | exact HB.out)) hb); clear HB; have HO377 := n0_; have HO381 := n1_; have HB := n2_; clear n0_ n1_ n2_; (try clear hb); (try clear hb2); (try clear hk); (try clear hi); (try clear ho0); (try clear ho1)) | ((with_reducible refine gate_dst (N := 7) rfl ?_); refine box_event ?hg (N := 7) ?hd (cs := #[.slice none 0 0, .int .i64 0]) (t := 33) ?hr ?_; (case hd => rfl); (case hg => rfl); (case hr => first | (go_simp; done) | (go_simp; rfl)); intro gb382 hg w13 hbox hb; have n0_ := Aside0.mk (Kd.R_below (by (with_reducible repeat (first | apply Kd.R_alloc | apply Kd.R_drewN | apply Kd.R_drew)); exact HO377.out) hb); have n1_ := Aside0.mk (Kd.S_below (by (with_reducible repeat (first | apply Kd.S_alloc | apply Kd.S_drewN | apply Kd.S_drew)); exact HO381.out) hb); have n2_ := Aside0.mk (below_step (by repeat (first | (with_reducible first | exact HB.out | apply below_alloc | apply pw_below_drewN | apply below_drew1) | exact HB.out)) hb); have n3_ := Aside0.mk (hbox); have n4_ := Aside0.mk ((by rw [hg]; exact (below_size (by repeat (first | (with_reducible first | exact HB.out | apply below_alloc | apply pw_below_drewN | apply below_drew1) | exact HB.out))) : w.heap.size ≤ gb382)); have n5_ := Aside0.mk ((by rw [hg]; exact (below_size (by repeat (first | (with_reducible first | exact HB.out | apply below_alloc | apply pw_below_drewN | apply below_drew1) | exact HB.out))) : w.heap.size ≤ gb382)); clear HO377; clear HO381; clear HB; have HO377 := n0_; have HO381 := n1_; have HB := n2_; have BK382 := n3_; have GW382 := n4_; have GE382 := n5_; clear n0_ n1_ n2_ n3_ n4_ n5_; clear hb hbox hg; obtain ⟨Ao14, co14, eo14⟩ := Kd.R_slice HO377.out; subst eo14; have hcz15_0 : w13.cell? ⟨gb382, 0, none⟩ = some (.slice none 0 0) := (blk_cell BK382.out 0).trans rfl; have hcz15_1 : w13.cell? ⟨gb382, 1, none⟩ = some (.int .i64 0) := (blk_cell BK382.out 1).trans rfl; have hfz15_0 := blk_frozen BK382.out 0; have hfz15_1 := blk_frozen BK382.out 1) | ((with_reducible refine gate_callee (f := 52) rfl ?_); refine goesL_ (some 24) rfl rfl Try.func52 (by kernel_rfl) rfl #[.int .i64 a2, .int .i64 301] rfl (by (try simp only [List.map_toArray, List.map_cons, List.map_nil]); first | done | rfl | (simp only [List.length_drop, List.length_take]; rfl)) ?_; (with_reducible refine (hypercubelaw10_within.calls a2 301 t383 _ A7.out).mono ?_); rintro e w' ⟨rfl, ⟨nd, rfl⟩⟩; refine ⟨_, rfl, ?_⟩))
 have n0_ : Aside0 (Kd.R (Kd.int .i64) 3 ((w13.setCell ⟨gb382, 0, none⟩ (.slice Ao14 t375.length co14)).setCell ⟨gb382, 1, none⟩ (.int .i64 t378)) w.heap.size (fun _ => True) (.slice Ao14 t375.length co14) t375) := ⟨by (with_reducible repeat (first | apply Kd.R_alloc | apply Kd.R_drewN | apply Kd.R_drew)); exact Kd.R_mono (Kd.R_far (p := ⟨gb382, 1, none⟩) (Kd.R_far (p := ⟨gb382, 0, none⟩) (Kd.R_types HO377.out BK382.out (by decide)) (fun _ hk => hk.2) (.slice Ao14 t375.length co14)) (fun _ hk => hk.2) (.int .i64 t378)) (fun _ hk => trivial)⟩
 have n1_ : Aside0 (Kd.S k39 39 ((w13.setCell ⟨gb382, 0, none⟩ (.slice Ao14 t375.length co14)).setCell ⟨gb382, 1, none⟩ (.int .i64 t378)) w.heap.size (fun k_ => some k_ ≠ (.slice Ao14 t375.length co14 : Value).ownBlock) v380 t379) := ⟨by (with_reducible repeat (first | apply Kd.S_alloc | apply Kd.S_drewN | apply Kd.S_drew)); exact Kd.S_mono (Kd.S_far (p := ⟨gb382, 1, none⟩) (Kd.S_far (p := ⟨gb382, 0, none⟩) (Kd.S_types HO381.out BK382.out (by decide)) (fun _ hk => hk.2) (.slice Ao14 t375.length co14)) (fun _ hk => hk.2) (.int .i64 t378)) (fun _ hk => hk.1)⟩
 have n2_ : Aside0 (((w13.setCell ⟨gb382, 0, none⟩ (.slice Ao14 t375.length co14)).setCell ⟨gb382, 1, none⟩ (.int .i64 t378)).heap[gb382]? = some (.cells #[.slice Ao14 t375.length co14, .int .i64 t378] 33 (0, 0))) := ⟨by (with_reducible repeat (first | refine blk_drewN ?_ _ | refine blk_drew ?_ | refine blk_alloc ?_ _)); refine blk_put (cs := #[.slice Ao14 t375.length co14, .int .i64 0]) ?_ 1 _ rfl; (with_reducible repeat (first | refine blk_drewN ?_ _ | refine blk_drew ?_ | refine blk_alloc ?_ _)); refine blk_put (cs := #[.slice none 0 0, .int .i64 0]) ?_ 0 _ rfl; (with_reducible repeat (first | refine blk_drewN ?_ _ | refine blk_drew ?_ | refine blk_alloc ?_ _)); exact BK382.out⟩
 have n3_ : Aside0 (Below w.heap.size w ((w13.setCell ⟨gb382, 0, none⟩ (.slice Ao14 t375.length co14)).setCell ⟨gb382, 1, none⟩ (.int .i64 t378))) := ⟨by repeat (first | (with_reducible first | exact HB.out | apply below_alloc | apply pw_below_drewN | apply below_drew1 | refine below_set ?_ GE382.out) | exact HB.out)⟩
 generalize ((w13.setCell ⟨gb382, 0, none⟩ (.slice Ao14 t375.length co14)).setCell ⟨gb382, 1, none⟩ (.int .i64 t378)) = w16 at n0_ n1_ n2_ n3_ ⊢
 have HO377 := n0_
 have HO381 := n1_
 have BK382 := n2_
 have HB := n3_
 clear n0_ n1_ n2_ n3_
 (try (rw [drewN_self w16]; generalize hq_ : World.drewN w16 _ = w16; have n0_ : Aside0 (Kd.R (Kd.int .i64) 3 w16 w.heap.size (fun _ => True) (.slice Ao14 t375.length co14) t375) := ⟨by rw [← hq_]; exact (by (with_reducible repeat (first | apply Kd.R_alloc | apply Kd.R_drewN | apply Kd.R_drew)); exact HO377.out)⟩; have n1_ : Aside0 (Kd.S k39 39 w16 w.heap.size (fun k_ => some k_ ≠ (.slice Ao14 t375.length co14 : Value).ownBlock) v380 t379) := ⟨by rw [← hq_]; exact (by (with_reducible repeat (first | apply Kd.S_alloc | apply Kd.S_drewN | apply Kd.S_drew)); exact HO381.out)⟩; have n2_ : Aside0 (w16.heap[gb382]? = some (.cells #[.slice Ao14 t375.length co14, .int .i64 t378] 33 (0, 0))) := ⟨by rw [← hq_]; exact (by (with_reducible repeat (first | refine blk_drewN ?_ _ | refine blk_drew ?_ | refine blk_alloc ?_ _)); exact BK382.out)⟩; have n3_ : Aside0 (Below w.heap.size w w16) := ⟨by rw [← hq_]; exact (by repeat (first | (with_reducible first | exact HB.out | apply below_alloc | apply pw_below_drewN | apply below_drew1 | refine below_set ?_ GE382.out) | exact HB.out))⟩; clear HO377 HO381 BK382 HB hq_; have HO377 := n0_; have HO381 := n1_; have BK382 := n2_; have HB := n3_; clear n0_ n1_ n2_ n3_))
 have n0_ := Aside0.mk (Kd.R_drew HO377.out)
 have n1_ := Aside0.mk (Kd.S_drew HO381.out)
 have n2_ := Aside0.mk (blk_drew BK382.out)
 have n3_ := Aside0.mk (below_drew1 HB.out)
 clear HO377 HO381 BK382 HB
 have HO377 := n0_
 have HO381 := n1_
 have BK382 := n2_
 have HB := n3_
 clear n0_ n1_ n2_ n3_
 refine start_ (n := 8) (S := fun w' => w'.cell? ⟨gb382, 0, none⟩ = some (.slice Ao14 t375.length co14) ∧ w'.cell? ⟨gb382, 1, none⟩ = some (.int .i64 t378)) (ds := []) (fl_ 0 8) (by kernel_rfl) rfl rfl ⟨(blk_cell BK382.out 0).trans rfl, (blk_cell BK382.out 1).trans rfl⟩ (fun hHeld => ?_); refine with_tabW hypercubelaw10_SortsAll.tab5 hypercubelaw10_SortsAll.bits5 (fun HT_ HW_ => ?_)
 generalize w16.drew = w17 at HO377 HO381 BK382 HB hHeld ⊢
 refine pure_ (i := 1) (N := some 26) (v := ?_) (a' := ?_) #[Z,Y,Z,Z,Z,Z,Z,Z] rfl rfl (any_of HT_.out (by kernel_rfl)) (fun _ _ _ h => h) (Or.inl ⟨by rfl, ?_⟩) ?_ ?_
 rotate_left
 ·intro w'
  go_simp
  with_reducible rfl
 rotate_left
 ·simp only [Act.put, sl0, sl1, sl2, i64_w, i32_w]
  rfl
 refine pure_ (i := 4) (N := some 29) (v := ?_) (a' := ?_) #[Z,Y,Z,Z,Y,Z,Z,Z] rfl rfl (any_of HT_.out (by kernel_rfl)) (fun _ _ _ h => h) (Or.inl ⟨by rfl, ?_⟩) ?_ ?_
 rotate_left
 ·intro w'
  go_simp
  with_reducible rfl
 rotate_left
 ·simp only [Act.put, sl0, sl1, sl2, i64_w, i32_w]
  rfl
 refine take_ (i := 0) (N := some 25) (v := ?_) (a' := ?_) #[Y,Y,Z,Z,Y,Z,Z,Z] rfl rfl (take_ofW HT_.out HW_.out (by kernel_rfl)) (fun _ _ _ h => h) (Or.inl ⟨by rfl, ?_⟩) hHeld ?_ ?_
 rotate_left
 ·rintro w' ⟨s0, s1⟩
  go_simp
  with_reducible rfl
 rotate_left
 ·simp only [Act.put, sl0, sl1, sl2, i64_w, i32_w]
  rfl
 refine take_ (i := 3) (N := some 28) (v := ?_) (a' := ?_) #[Y,Y,Z,Y,Y,Z,Z,Z] rfl rfl (take_ofW HT_.out HW_.out (by kernel_rfl)) (fun _ _ _ h => h) (Or.inl ⟨by rfl, ?_⟩) hHeld ?_ ?_
 rotate_left
 ·rintro w' ⟨s0, s1⟩
  go_simp
  with_reducible rfl
 rotate_left
 ·simp only [Act.put, sl0, sl1, sl2, i64_w, i32_w]
  rfl
 refine one_ (i := 2) (N := some 27) (fl_ 5 3) rfl rfl (one_of HT_.out (by kernel_rfl)) (by decide) (fun K hK => ?_)
 refine goes_ Try.func55 (by kernel_rfl) rfl #[.agg #[.slice Ao14 t375.length co14, .int .i64 t378], .int .i64 t383] (by rfl) rfl rfl (by (try simp only [List.map_toArray, List.map_cons, List.map_nil]); first | done | rfl | (simp only [List.length_drop, List.length_take]; rfl)) ?_
 with_reducible refine (sorts_Plan.calls _ _ t375 t378 t383 t384 _ ?side1 ?side2 A8.out).mono ?_
 (case side1 => repeat (first | exact (Kd.R_reads' HO377.out).2.2 | (with_reducible refine Kd.C_alloc ?_ _) | (with_reducible refine Kd.C_drewN ?_ _) | (with_reducible refine Kd.C_drew ?_)))
 (case side2 => exact (Kd.R_reads' HO377.out).2.1)
 rintro e w18 ⟨v385, rfl, ho0, hb⟩
 refine ⟨_, rfl, ?_⟩
 have n0_ := Aside0.mk (Kd.R_below (by (with_reducible repeat (first | apply Kd.R_alloc | apply Kd.R_drewN | apply Kd.R_drew)); exact HO377.out) hb)
 have n1_ := Aside0.mk (Kd.S_below (by (with_reducible repeat (first | apply Kd.S_alloc | apply Kd.S_drewN | apply Kd.S_drew)); exact HO381.out) hb)
 have n2_ := Aside0.mk (Kd.R_lower ho0 (below_size (by repeat (first | (with_reducible first | exact HB.out | apply below_alloc | apply pw_below_drewN | apply below_drew1 | refine below_set ?_ GE382.out) | exact HB.out))))
 have n3_ := Aside0.mk (blk_below (g := gb382) (o := .cells #[.slice Ao14 t375.length co14, .int .i64 t378] 33 (0, 0)) (by (with_reducible repeat (first | refine blk_drewN ?_ _ | refine blk_drew ?_ | refine blk_alloc ?_ _)); exact BK382.out) hb)
 have n4_ := Aside0.mk (below_step (by repeat (first | (with_reducible first | exact HB.out | apply below_alloc | apply pw_below_drewN | apply below_drew1 | refine below_set ?_ GE382.out) | exact HB.out)) hb)
 clear HO377 HO381 BK382 HB
 have HO377 := n0_
 have HO381 := n1_
 have HO386 := n2_
 have BK382 := n3_
 have HB := n4_
 clear n0_ n1_ n2_ n3_ n4_
 refine hK.out _ _ ⟨(blk_cell BK382.out 0).trans rfl, (blk_cell BK382.out 1).trans rfl⟩ (fun hHeld => ?_)
 clear hK K
 refine norm_ (a' := ?_) ?_ ?_
 rotate_left
 ·show Act.put _ (some 27) _ = _
  simp only [Act.put, sl0, sl1, sl2, i64_w, i32_w]
  rfl
 refine one_ (i := 5) (N := some 30) (fl_ 6 2) rfl rfl (one_of HT_.out (by kernel_rfl)) (by decide) (fun K hK => ?_)
 refine goes_ Try.func44 (by kernel_rfl) rfl #[.agg #[.slice Ao14 t375.length co14, .int .i64 t378], .int .i64 t383] (by rfl) rfl rfl (by (try simp only [List.map_toArray, List.map_cons, List.map_nil]); first | done | rfl | (simp only [List.length_drop, List.length_take]; rfl)) ?_
 with_reducible refine (hypercuberef10_Plan.calls k _ _ t375 t378 t383 t387 _ ?side1 ?side2 A9.out).mono ?_
 (case side1 => repeat (first | exact (Kd.R_reads' HO377.out).2.2 | (with_reducible refine Kd.C_alloc ?_ _) | (with_reducible refine Kd.C_drewN ?_ _) | (with_reducible refine Kd.C_drew ?_)))
 (case side2 => exact (Kd.R_reads' HO377.out).2.1)
 rintro e w19 ⟨v388, rfl, ho0, hb⟩
 refine ⟨_, rfl, ?_⟩
 have n0_ := Aside0.mk (Kd.R_below (by (with_reducible repeat (first | apply Kd.R_alloc | apply Kd.R_drewN | apply Kd.R_drew)); exact HO377.out) hb)
 have n1_ := Aside0.mk (Kd.S_below (by (with_reducible repeat (first | apply Kd.S_alloc | apply Kd.S_drewN | apply Kd.S_drew)); exact HO381.out) hb)
 have n2_ := Aside0.mk (Kd.R_elder' (by (with_reducible repeat (first | apply Kd.R_alloc | apply Kd.R_drewN | apply Kd.R_drew)); exact HO386.out) (Kd.R_base ho0) hb)
 have n3_ := Aside0.mk (Kd.R_lower (Kd.R_new' ho0 (Kd.R_lt (by (with_reducible repeat (first | apply Kd.R_alloc | apply Kd.R_drewN | apply Kd.R_drew)); exact HO386.out))) (below_size (by repeat (first | (with_reducible first | exact HB.out | apply below_alloc | apply pw_below_drewN | apply below_drew1 | refine below_set ?_ GE382.out) | exact HB.out))))
 have n4_ := Aside0.mk (blk_below (g := gb382) (o := .cells #[.slice Ao14 t375.length co14, .int .i64 t378] 33 (0, 0)) (by (with_reducible repeat (first | refine blk_drewN ?_ _ | refine blk_drew ?_ | refine blk_alloc ?_ _)); exact BK382.out) hb)
 have n5_ := Aside0.mk (below_step (by repeat (first | (with_reducible first | exact HB.out | apply below_alloc | apply pw_below_drewN | apply below_drew1 | refine below_set ?_ GE382.out) | exact HB.out)) hb)
 clear HO377 HO381 HO386 BK382 HB
 have HO377 := n0_
 have HO381 := n1_
 have HO386 := n2_
 have HO389 := n3_
 have BK382 := n4_
 have HB := n5_
 clear n0_ n1_ n2_ n3_ n4_ n5_
 refine hK.out _ _ ⟨(blk_cell BK382.out 0).trans rfl, (blk_cell BK382.out 1).trans rfl⟩ (fun hHeld => ?_)
 clear hK K
 refine norm_ (a' := ?_) ?_ ?_
 rotate_left
 ·show Act.put _ (some 30) _ = _
  simp only [Act.put, sl0, sl1, sl2, i64_w, i32_w]
  rfl
 refine pure_ (i := 6) (N := some 10) (v := ?_) (a' := ?_) (fl_ 7 1) rfl rfl (any_of HT_.out (by kernel_rfl)) (fun _ _ _ h => h) (Or.inl ⟨by rfl, ?_⟩) ?_ ?_
 rotate_left
 ·intro w'
  go_simp
  with_reducible rfl
 rotate_left
 ·simp only [Act.put, sl0, sl1, sl2, i64_w, i32_w]
  rfl
 refine pure_ (i := 7) (N := some 11) (v := ?_) (a' := ?_) (fl_ 8 0) rfl rfl (any_of HT_.out (by kernel_rfl)) (fun _ _ _ h => h) (Or.inl ⟨by rfl, ?_⟩) ?_ ?_
 rotate_left
 ·intro w'
  go_simp
  with_reducible rfl
 rotate_left
 ·simp only [Act.put, sl0, sl1, sl2, i64_w, i32_w]
  rfl
 refine done_ (done_of HT_.out (by kernel_rfl)) ?_
 have hcz20_0 : w19.cell? ⟨gb382, 0, none⟩ = some (.slice Ao14 t375.length co14) := (blk_cell BK382.out 0).trans rfl
 have hcz20_1 : w19.cell? ⟨gb382, 1, none⟩ = some (.int .i64 t378) := (blk_cell BK382.out 1).trans rfl
 have hfz20_0 := blk_frozen BK382.out 0
 have hfz20_1 := blk_frozen BK382.out 1
 go_upto_region 7 with (fail)
 go_cut [54] (fun v54 wc => ∃ (kq : Nat) (x54_9 : Bool), v54 = .bool x54_9 ∧ Aside0 (hypercubelaw10_SortsAll.j0 kq t384 t387 (t375.length : Int) x54_9 = some r) ∧ Aside0 (kq ≤ k) ∧ Aside0 (Kd.R k49 49 wc w.heap.size (fun k_ => some k_ ≠ (v388 : Value).ownBlock) v385 t384) ∧ Aside0 (Kd.R k49 49 wc w.heap.size (fun k_ => some k_ ≠ (v385 : Value).ownBlock) v388 t387) ∧ Aside0 (Kd.R (Kd.int .i64) 3 wc w.heap.size (fun _ => True) (.slice Ao14 t375.length co14) t375) ∧ Aside0 (wc.heap[gb382]? = some (.cells #[(.slice Ao14 t375.length co14), .int .i64 t378] 33 (0, 0))) ∧ Aside0 (Below w.heap.size w wc))
 case first =>
  have H := HC10.out
  clear HC10
  replace H := Option.bind_eq_some_iff.mp H
  obtain ⟨t390, A210, H⟩ := H
  replace H : (if t390 = true then ((sorts_Right.f t384 (t375.length : Int)).bind fun t391 => (if t391 = true then ((sorts_Cost.f t375 t378 t383 t384).bind fun t392 => ((hypercuberef10_Cost.f k t375 t378 t383 t387).bind fun t393 => (hypercubelaw10_SortsAll.j0 k t384 t387 (t375.length : Int) (t392 != t393)))) else (hypercubelaw10_SortsAll.j0 k t384 t387 (t375.length : Int) true))) else (hypercubelaw10_SortsAll.j0 k t384 t387 (t375.length : Int) true)) = some r := H
  have A21 := Aside0.mk A210
  clear A210
  by_cases c22 : t390 = true
  rotate_left
  ·replace c22 := Bool.eq_false_iff.mpr c22
   subst c22
   have H1 : (hypercubelaw10_SortsAll.j0 k t384 t387 (t375.length : Int) true) = some r := by rw [if_neg (show ¬ (false = true) by decide)] at H; exact H
   clear H
   have H := H1
   clear H1
   have H' := Aside0.mk H
   clear H
   try go_wp2
   have n0_ := Aside0.mk (Kd.R_drew HO377.out)
   have n1_ := Aside0.mk (Kd.S_drew HO381.out)
   have n2_ := Aside0.mk (Kd.R_drew HO386.out)
   have n3_ := Aside0.mk (Kd.R_drew HO389.out)
   have n4_ := Aside0.mk (blk_drew BK382.out)
   have n5_ := Aside0.mk (below_drew1 HB.out)
   clear HO377 HO381 HO386 HO389 BK382 HB
   have HO377 := n0_
   have HO381 := n1_
   have HO386 := n2_
   have HO389 := n3_
   have BK382 := n4_
   have HB := n5_
   clear n0_ n1_ n2_ n3_ n4_ n5_
   obtain ⟨Ao38, co38, eo38⟩ := Kd.R_slice HO386.out
   (first | subst eo38 | (injection eo38 with f1_ f2_ f3_; have f4_ := f1_.symm; have f5_ := f3_.symm; clear f1_ f2_ f3_; subst f4_; subst f5_))
   obtain ⟨Ao39, co39, eo39⟩ := Kd.R_slice HO389.out
   (first | subst eo39 | (injection eo39 with f1_ f2_ f3_; have f4_ := f1_.symm; have f5_ := f3_.symm; clear f1_ f2_ f3_; subst f4_; subst f5_))
   refine start_ (n := 21) (S := fun w' => True) (ds := []) (fl_ 0 21) (by kernel_rfl) rfl rfl trivial (fun hHeld => ?_); refine with_tabW hypercubelaw10_SortsAll.tab7 hypercubelaw10_SortsAll.bits7 (fun HT_ HW_ => ?_)
   generalize w19.drew = w37 at HO377 HO381 HO386 HO389 BK382 HB hHeld ⊢
   refine pure_ (i := 0) (N := some 34) (v := ?_) (a' := ?_) (fl_ 1 20) rfl rfl (any_of HT_.out (by kernel_rfl)) (fun _ _ _ h => h) (Or.inl ⟨by rfl, ?_⟩) ?_ ?_
   rotate_left
   ·intro w'
    go_simp
    with_reducible rfl
   rotate_left
   ·simp only [Act.put, sl0, sl1, sl2, i64_w, i32_w]
    rfl
   refine pure_ (i := 1) (N := some 35) (v := ?_) (a' := ?_) (fl_ 2 19) rfl rfl (any_of HT_.out (by kernel_rfl)) (fun _ _ _ h => h) (Or.inl ⟨by rfl, ?_⟩) ?_ ?_
   rotate_left
   ·intro w'
    go_simp
    with_reducible rfl
   rotate_left
   ·simp only [Act.put, sl0, sl1, sl2, i64_w, i32_w]
    rfl
   refine one_ (i := 2) (N := some 36) (fl_ 3 18) rfl rfl (one_of HT_.out (by kernel_rfl)) (by decide) (fun K hK => ?_)
   refine goes_ Try.func38 (by kernel_rfl) rfl #[.slice Ao38 t384.length co38, .slice Ao39 t387.length co39] (by rfl) rfl rfl (by (try simp only [List.map_toArray, List.map_cons, List.map_nil]); first | done | rfl | (simp only [List.length_drop, List.length_take]; rfl)) ?_
   with_reducible refine (hypercuberef10_Same.calls k _ _ t384 _ _ t387 false _ ?side1 ?side2 ?side3 ?side4 A21.out).mono ?_
   (case side1 => repeat (first | exact (Kd.R_reads' HO386.out).2.2 | (with_reducible refine Kd.C_alloc ?_ _) | (with_reducible refine Kd.C_drewN ?_ _) | (with_reducible refine Kd.C_drew ?_)))
   (case side2 => exact (Kd.R_reads' HO386.out).2.1)
   (case side3 => repeat (first | exact (Kd.R_reads' HO389.out).2.2 | (with_reducible refine Kd.C_alloc ?_ _) | (with_reducible refine Kd.C_drewN ?_ _) | (with_reducible refine Kd.C_drew ?_)))
   (case side4 => exact (Kd.R_reads' HO389.out).2.1)
   rintro e w' ⟨rfl, ⟨nd, rfl⟩⟩
   refine ⟨_, rfl, ?_⟩
   refine hK.out _ _ trivial (fun hHeld => ?_)
   clear hK K
   refine norm_ (a' := ?_) ?_ ?_
   rotate_left
   ·show Act.put _ (some 36) _ = _
    simp only [Act.put, sl0, sl1, sl2, i64_w, i32_w]
    rfl
   refine pure_ (i := 3) (N := some 37) (v := ?_) (a' := ?_) (fl_ 4 17) rfl rfl (any_of HT_.out (by kernel_rfl)) (fun _ _ _ h => h) (Or.inl ⟨by rfl, ?_⟩) ?_ ?_
   rotate_left
   ·intro w'
    go_simp
    with_reducible rfl
   rotate_left
   ·simp only [Act.put, sl0, sl1, sl2, i64_w, i32_w]
    rfl
   refine pure_ (i := 4) (N := some 38) (v := ?_) (a' := ?_) (fl_ 5 16) rfl rfl (any_of HT_.out (by kernel_rfl)) (fun _ _ _ h => h) (Or.inl ⟨by rfl, ?_⟩) ?_ ?_
   rotate_left
   ·intro w'
    go_simp
    with_reducible rfl
   rotate_left
   ·simp only [Act.put, sl0, sl1, sl2, i64_w, i32_w]
    rfl
   refine pure_ (i := 5) (N := some 39) (v := undef) (a' := ?_) (fl_ 6 15) rfl rfl (any_of HT_.out (by kernel_rfl)) (fun _ _ _ h => h) (Or.inr ⟨by rfl, rfl⟩) ?_ ?_
   rotate_left
   ·simp only [Act.put, sl0, sl1, sl2, i64_w, i32_w]
    rfl
   refine pure_ (i := 6) (N := some 40) (v := undef) (a' := ?_) (fl_ 7 14) rfl rfl (any_of HT_.out (by kernel_rfl)) (fun _ _ _ h => h) (Or.inr ⟨by rfl, rfl⟩) ?_ ?_
   rotate_left
   ·simp only [Act.put, sl0, sl1, sl2, i64_w, i32_w]
    rfl
   refine pure_ (i := 7) (N := some 41) (v := undef) (a' := ?_) (fl_ 8 13) rfl rfl (any_of HT_.out (by kernel_rfl)) (fun _ _ _ h => h) (Or.inr ⟨by rfl, rfl⟩) ?_ ?_
   rotate_left
   ·simp only [Act.put, sl0, sl1, sl2, i64_w, i32_w]
    rfl
   refine pure_ (i := 8) (N := some 42) (v := undef) (a' := ?_) (fl_ 9 12) rfl rfl (any_of HT_.out (by kernel_rfl)) (fun _ _ _ h => h) (Or.inr ⟨by rfl, rfl⟩) ?_ ?_
   rotate_left
   ·simp only [Act.put, sl0, sl1, sl2, i64_w, i32_w]
    rfl
   refine pure_ (i := 9) (N := some 43) (v := ?_) (a' := ?_) (fl_ 10 11) rfl rfl (any_of HT_.out (by kernel_rfl)) (fun _ _ _ h => h) (Or.inl ⟨by rfl, ?_⟩) ?_ ?_
   rotate_left
   ·intro w'
    go_simp
    with_reducible rfl
   rotate_left
   ·simp only [Act.put, sl0, sl1, sl2, i64_w, i32_w]
    rfl
   refine pure_ (i := 10) (N := some 44) (v := ?_) (a' := ?_) (fl_ 11 10) rfl rfl (any_of HT_.out (by kernel_rfl)) (fun _ _ _ h => h) (Or.inl ⟨by rfl, ?_⟩) ?_ ?_
   rotate_left
   ·intro w'
    go_simp
    with_reducible rfl
   rotate_left
   ·simp only [Act.put, sl0, sl1, sl2, i64_w, i32_w]
    rfl
   refine pure_ (i := 11) (N := some 45) (v := undef) (a' := ?_) (fl_ 12 9) rfl rfl (any_of HT_.out (by kernel_rfl)) (fun _ _ _ h => h) (Or.inr ⟨by rfl, rfl⟩) ?_ ?_
   rotate_left
   ·simp only [Act.put, sl0, sl1, sl2, i64_w, i32_w]
    rfl
   refine pure_ (i := 12) (N := some 46) (v := undef) (a' := ?_) (fl_ 13 8) rfl rfl (any_of HT_.out (by kernel_rfl)) (fun _ _ _ h => h) (Or.inr ⟨by rfl, rfl⟩) ?_ ?_
   rotate_left
   ·simp only [Act.put, sl0, sl1, sl2, i64_w, i32_w]
    rfl
   refine pure_ (i := 13) (N := some 47) (v := undef) (a' := ?_) (fl_ 14 7) rfl rfl (any_of HT_.out (by kernel_rfl)) (fun _ _ _ h => h) (Or.inr ⟨by rfl, rfl⟩) ?_ ?_
   rotate_left
   ·simp only [Act.put, sl0, sl1, sl2, i64_w, i32_w]
    rfl
   refine pure_ (i := 14) (N := some 48) (v := undef) (a' := ?_) (fl_ 15 6) rfl rfl (any_of HT_.out (by kernel_rfl)) (fun _ _ _ h => h) (Or.inr ⟨by rfl, rfl⟩) ?_ ?_
   rotate_left
   ·simp only [Act.put, sl0, sl1, sl2, i64_w, i32_w]
    rfl
   refine pure_ (i := 15) (N := some 49) (v := undef) (a' := ?_) (fl_ 16 5) rfl rfl (any_of HT_.out (by kernel_rfl)) (fun _ _ _ h => h) (Or.inr ⟨by rfl, rfl⟩) ?_ ?_
   rotate_left
   ·simp only [Act.put, sl0, sl1, sl2, i64_w, i32_w]
    rfl
   refine pure_ (i := 16) (N := some 50) (v := undef) (a' := ?_) (fl_ 17 4) rfl rfl (any_of HT_.out (by kernel_rfl)) (fun _ _ _ h => h) (Or.inr ⟨by rfl, rfl⟩) ?_ ?_
   rotate_left
   ·simp only [Act.put, sl0, sl1, sl2, i64_w, i32_w]
    rfl
   refine pure_ (i := 17) (N := some 51) (v := undef) (a' := ?_) (fl_ 18 3) rfl rfl (any_of HT_.out (by kernel_rfl)) (fun _ _ _ h => h) (Or.inr ⟨by rfl, rfl⟩) ?_ ?_
   rotate_left
   ·simp only [Act.put, sl0, sl1, sl2, i64_w, i32_w]
    rfl
   refine pure_ (i := 18) (N := some 52) (v := undef) (a' := ?_) (fl_ 19 2) rfl rfl (any_of HT_.out (by kernel_rfl)) (fun _ _ _ h => h) (Or.inr ⟨by rfl, rfl⟩) ?_ ?_
   rotate_left
   ·simp only [Act.put, sl0, sl1, sl2, i64_w, i32_w]
    rfl
   refine pure_ (i := 19) (N := some 53) (v := undef) (a' := ?_) (fl_ 20 1) rfl rfl (any_of HT_.out (by kernel_rfl)) (fun _ _ _ h => h) (Or.inr ⟨by rfl, rfl⟩) ?_ ?_
   rotate_left
   ·simp only [Act.put, sl0, sl1, sl2, i64_w, i32_w]
    rfl
   refine pure_ (i := 20) (N := some 54) (v := ?_) (a' := ?_) (fl_ 21 0) rfl rfl (any_of HT_.out (by kernel_rfl)) (fun _ _ _ h => h) (Or.inl ⟨by rfl, ?_⟩) ?_ ?_
   rotate_left
   ·intro w'
    go_simp
    with_reducible rfl
   rotate_left
   ·simp only [Act.put, sl0, sl1, sl2, i64_w, i32_w]
    rfl
   refine done_ (done_of HT_.out (by kernel_rfl)) ?_
   try go_wp2
   go_meet
   case rel => exact ⟨_, (true), (by first | rfl | (simp; done) | (simp [*]; done)), H', ⟨by first | omega | exact Nat.le_refl _⟩, ⟨by (with_reducible repeat (first | apply Kd.R_alloc | apply Kd.R_drewN | apply Kd.R_drew)); exact Kd.R_mono HO386.out (fun _ hk => hk.2)⟩, ⟨by (with_reducible repeat (first | apply Kd.R_alloc | apply Kd.R_drewN | apply Kd.R_drew)); exact Kd.R_mono HO389.out (fun _ hk => hk.2)⟩, ⟨by (with_reducible repeat (first | apply Kd.R_alloc | apply Kd.R_drewN | apply Kd.R_drew)); exact HO377.out⟩, ⟨by (with_reducible repeat (first | refine blk_drewN ?_ _ | refine blk_drew ?_ | refine blk_alloc ?_ _)); exact BK382.out⟩, ⟨by repeat (first | (with_reducible first | exact HB.out | apply below_alloc | apply pw_below_drewN | apply below_drew1 | refine below_set ?_ GE382.out) | exact HB.out)⟩⟩
  subst c22
  have H1 : ((sorts_Right.f t384 (t375.length : Int)).bind fun t391 => (if t391 = true then ((sorts_Cost.f t375 t378 t383 t384).bind fun t392 => ((hypercuberef10_Cost.f k t375 t378 t383 t387).bind fun t393 => (hypercubelaw10_SortsAll.j0 k t384 t387 (t375.length : Int) (t392 != t393)))) else (hypercubelaw10_SortsAll.j0 k t384 t387 (t375.length : Int) true))) = some r := by rw [if_pos rfl] at H; exact H
  clear H
  have H := H1
  clear H1
  replace H := Option.bind_eq_some_iff.mp H
  obtain ⟨t391, A230, H⟩ := H
  replace H : (if t391 = true then ((sorts_Cost.f t375 t378 t383 t384).bind fun t392 => ((hypercuberef10_Cost.f k t375 t378 t383 t387).bind fun t393 => (hypercubelaw10_SortsAll.j0 k t384 t387 (t375.length : Int) (t392 != t393)))) else (hypercubelaw10_SortsAll.j0 k t384 t387 (t375.length : Int) true)) = some r := H
  have A23 := Aside0.mk A230
  clear A230
  by_cases c24 : t391 = true
  rotate_left
  ·replace c24 := Bool.eq_false_iff.mpr c24
   subst c24
   have H1 : (hypercubelaw10_SortsAll.j0 k t384 t387 (t375.length : Int) true) = some r := by rw [if_neg (show ¬ (false = true) by decide)] at H; exact H
   clear H
   have H := H1
   clear H1
   have H' := Aside0.mk H
   clear H
   try go_wp2
   have n0_ := Aside0.mk (Kd.R_drew HO377.out)
   have n1_ := Aside0.mk (Kd.S_drew HO381.out)
   have n2_ := Aside0.mk (Kd.R_drew HO386.out)
   have n3_ := Aside0.mk (Kd.R_drew HO389.out)
   have n4_ := Aside0.mk (blk_drew BK382.out)
   have n5_ := Aside0.mk (below_drew1 HB.out)
   clear HO377 HO381 HO386 HO389 BK382 HB
   have HO377 := n0_
   have HO381 := n1_
   have HO386 := n2_
   have HO389 := n3_
   have BK382 := n4_
   have HB := n5_
   clear n0_ n1_ n2_ n3_ n4_ n5_
   obtain ⟨Ao34, co34, eo34⟩ := Kd.R_slice HO386.out
   (first | subst eo34 | (injection eo34 with f1_ f2_ f3_; have f4_ := f1_.symm; have f5_ := f3_.symm; clear f1_ f2_ f3_; subst f4_; subst f5_))
   obtain ⟨Ao35, co35, eo35⟩ := Kd.R_slice HO389.out
   (first | subst eo35 | (injection eo35 with f1_ f2_ f3_; have f4_ := f1_.symm; have f5_ := f3_.symm; clear f1_ f2_ f3_; subst f4_; subst f5_))
   refine start_ (n := 21) (S := fun w' => True) (ds := []) (fl_ 0 21) (by kernel_rfl) rfl rfl trivial (fun hHeld => ?_); refine with_tabW hypercubelaw10_SortsAll.tab7 hypercubelaw10_SortsAll.bits7 (fun HT_ HW_ => ?_)
   generalize w19.drew = w33 at HO377 HO381 HO386 HO389 BK382 HB hHeld ⊢
   refine pure_ (i := 0) (N := some 34) (v := ?_) (a' := ?_) (fl_ 1 20) rfl rfl (any_of HT_.out (by kernel_rfl)) (fun _ _ _ h => h) (Or.inl ⟨by rfl, ?_⟩) ?_ ?_
   rotate_left
   ·intro w'
    go_simp
    with_reducible rfl
   rotate_left
   ·simp only [Act.put, sl0, sl1, sl2, i64_w, i32_w]
    rfl
   refine pure_ (i := 1) (N := some 35) (v := ?_) (a' := ?_) (fl_ 2 19) rfl rfl (any_of HT_.out (by kernel_rfl)) (fun _ _ _ h => h) (Or.inl ⟨by rfl, ?_⟩) ?_ ?_
   rotate_left
   ·intro w'
    go_simp
    with_reducible rfl
   rotate_left
   ·simp only [Act.put, sl0, sl1, sl2, i64_w, i32_w]
    rfl
   refine one_ (i := 2) (N := some 36) (fl_ 3 18) rfl rfl (one_of HT_.out (by kernel_rfl)) (by decide) (fun K hK => ?_)
   refine goes_ Try.func38 (by kernel_rfl) rfl #[.slice Ao34 t384.length co34, .slice Ao35 t387.length co35] (by rfl) rfl rfl (by (try simp only [List.map_toArray, List.map_cons, List.map_nil]); first | done | rfl | (simp only [List.length_drop, List.length_take]; rfl)) ?_
   with_reducible refine (hypercuberef10_Same.calls k _ _ t384 _ _ t387 true _ ?side1 ?side2 ?side3 ?side4 A21.out).mono ?_
   (case side1 => repeat (first | exact (Kd.R_reads' HO386.out).2.2 | (with_reducible refine Kd.C_alloc ?_ _) | (with_reducible refine Kd.C_drewN ?_ _) | (with_reducible refine Kd.C_drew ?_)))
   (case side2 => exact (Kd.R_reads' HO386.out).2.1)
   (case side3 => repeat (first | exact (Kd.R_reads' HO389.out).2.2 | (with_reducible refine Kd.C_alloc ?_ _) | (with_reducible refine Kd.C_drewN ?_ _) | (with_reducible refine Kd.C_drew ?_)))
   (case side4 => exact (Kd.R_reads' HO389.out).2.1)
   rintro e w' ⟨rfl, ⟨nd, rfl⟩⟩
   refine ⟨_, rfl, ?_⟩
   refine hK.out _ _ trivial (fun hHeld => ?_)
   clear hK K
   refine norm_ (a' := ?_) ?_ ?_
   rotate_left
   ·show Act.put _ (some 36) _ = _
    simp only [Act.put, sl0, sl1, sl2, i64_w, i32_w]
    rfl
   refine pure_ (i := 3) (N := some 37) (v := ?_) (a' := ?_) (fl_ 4 17) rfl rfl (any_of HT_.out (by kernel_rfl)) (fun _ _ _ h => h) (Or.inl ⟨by rfl, ?_⟩) ?_ ?_
   rotate_left
   ·intro w'
    go_simp
    with_reducible rfl
   rotate_left
   ·simp only [Act.put, sl0, sl1, sl2, i64_w, i32_w]
    rfl
   refine pure_ (i := 4) (N := some 38) (v := ?_) (a' := ?_) (fl_ 5 16) rfl rfl (any_of HT_.out (by kernel_rfl)) (fun _ _ _ h => h) (Or.inl ⟨by rfl, ?_⟩) ?_ ?_
   rotate_left
   ·intro w'
    go_simp
    with_reducible rfl
   rotate_left
   ·simp only [Act.put, sl0, sl1, sl2, i64_w, i32_w]
    rfl
   refine pure_ (i := 5) (N := some 39) (v := ?_) (a' := ?_) (fl_ 6 15) rfl rfl (any_of HT_.out (by kernel_rfl)) (fun _ _ _ h => h) (Or.inl ⟨by rfl, ?_⟩) ?_ ?_
   rotate_left
   ·intro w'
    go_simp
    with_reducible rfl
   rotate_left
   ·simp only [Act.put, sl0, sl1, sl2, i64_w, i32_w]
    rfl
   refine pure_ (i := 6) (N := some 40) (v := ?_) (a' := ?_) (fl_ 7 14) rfl rfl (any_of HT_.out (by kernel_rfl)) (fun _ _ _ h => h) (Or.inl ⟨by rfl, ?_⟩) ?_ ?_
   rotate_left
   ·intro w'
    go_simp
    with_reducible rfl
   rotate_left
   ·simp only [Act.put, sl0, sl1, sl2, i64_w, i32_w]
    rfl
   refine one_ (i := 7) (N := some 41) (fl_ 8 13) rfl rfl (one_of HT_.out (by kernel_rfl)) (by decide) (fun K hK => ?_)
   refine goes_ Try.func54 (by kernel_rfl) rfl #[.slice Ao34 t384.length co34, .int .i64 (t375.length : Int)] (by rfl) rfl rfl (by (try simp only [List.map_toArray, List.map_cons, List.map_nil]); first | done | rfl | (simp only [List.length_drop, List.length_take]; rfl)) ?_
   with_reducible refine (sorts_Right.calls _ _ t384 (t375.length : Int) false _ ?side1 ?side2 A23.out).mono ?_
   (case side1 => repeat (first | exact (Kd.R_reads' HO386.out).2.2 | (with_reducible refine Kd.C_alloc ?_ _) | (with_reducible refine Kd.C_drewN ?_ _) | (with_reducible refine Kd.C_drew ?_)))
   (case side2 => exact (Kd.R_reads' HO386.out).2.1)
   rintro e w36 ⟨rfl, hb⟩
   refine ⟨_, rfl, ?_⟩
   have n0_ := Aside0.mk (Kd.R_below (by (with_reducible repeat (first | apply Kd.R_alloc | apply Kd.R_drewN | apply Kd.R_drew)); exact HO377.out) hb)
   have n1_ := Aside0.mk (Kd.S_below (by (with_reducible repeat (first | apply Kd.S_alloc | apply Kd.S_drewN | apply Kd.S_drew)); exact HO381.out) hb)
   have n2_ := Aside0.mk (Kd.R_below (by (with_reducible repeat (first | apply Kd.R_alloc | apply Kd.R_drewN | apply Kd.R_drew)); exact HO386.out) hb)
   have n3_ := Aside0.mk (Kd.R_below (by (with_reducible repeat (first | apply Kd.R_alloc | apply Kd.R_drewN | apply Kd.R_drew)); exact HO389.out) hb)
   have n4_ := Aside0.mk (blk_below (g := gb382) (o := .cells #[.slice Ao14 t375.length co14, .int .i64 t378] 33 (0, 0)) (by (with_reducible repeat (first | refine blk_drewN ?_ _ | refine blk_drew ?_ | refine blk_alloc ?_ _)); exact BK382.out) hb)
   have n5_ := Aside0.mk (below_step (by repeat (first | (with_reducible first | exact HB.out | apply below_alloc | apply pw_below_drewN | apply below_drew1 | refine below_set ?_ GE382.out) | exact HB.out)) hb)
   clear HO377 HO381 HO386 HO389 BK382 HB
   have HO377 := n0_
   have HO381 := n1_
   have HO386 := n2_
   have HO389 := n3_
   have BK382 := n4_
   have HB := n5_
   clear n0_ n1_ n2_ n3_ n4_ n5_
   refine hK.out _ _ trivial (fun hHeld => ?_)
   clear hK K
   refine norm_ (a' := ?_) ?_ ?_
   rotate_left
   ·show Act.put _ (some 41) _ = _
    simp only [Act.put, sl0, sl1, sl2, i64_w, i32_w]
    rfl
   refine pure_ (i := 8) (N := some 42) (v := ?_) (a' := ?_) (fl_ 9 12) rfl rfl (any_of HT_.out (by kernel_rfl)) (fun _ _ _ h => h) (Or.inl ⟨by rfl, ?_⟩) ?_ ?_
   rotate_left
   ·intro w'
    go_simp
    with_reducible rfl
   rotate_left
   ·simp only [Act.put, sl0, sl1, sl2, i64_w, i32_w]
    rfl
   refine pure_ (i := 9) (N := some 43) (v := ?_) (a' := ?_) (fl_ 10 11) rfl rfl (any_of HT_.out (by kernel_rfl)) (fun _ _ _ h => h) (Or.inl ⟨by rfl, ?_⟩) ?_ ?_
   rotate_left
   ·intro w'
    go_simp
    with_reducible rfl
   rotate_left
   ·simp only [Act.put, sl0, sl1, sl2, i64_w, i32_w]
    rfl
   refine pure_ (i := 10) (N := some 44) (v := ?_) (a' := ?_) (fl_ 11 10) rfl rfl (any_of HT_.out (by kernel_rfl)) (fun _ _ _ h => h) (Or.inl ⟨by rfl, ?_⟩) ?_ ?_
   rotate_left
   ·intro w'
    go_simp
    with_reducible rfl
   rotate_left
   ·simp only [Act.put, sl0, sl1, sl2, i64_w, i32_w]
    rfl
   refine pure_ (i := 11) (N := some 45) (v := undef) (a' := ?_) (fl_ 12 9) rfl rfl (any_of HT_.out (by kernel_rfl)) (fun _ _ _ h => h) (Or.inr ⟨by rfl, rfl⟩) ?_ ?_
   rotate_left
   ·simp only [Act.put, sl0, sl1, sl2, i64_w, i32_w]
    rfl
   refine pure_ (i := 12) (N := some 46) (v := undef) (a' := ?_) (fl_ 13 8) rfl rfl (any_of HT_.out (by kernel_rfl)) (fun _ _ _ h => h) (Or.inr ⟨by rfl, rfl⟩) ?_ ?_
   rotate_left
   ·simp only [Act.put, sl0, sl1, sl2, i64_w, i32_w]
    rfl
   refine pure_ (i := 13) (N := some 47) (v := undef) (a' := ?_) (fl_ 14 7) rfl rfl (any_of HT_.out (by kernel_rfl)) (fun _ _ _ h => h) (Or.inr ⟨by rfl, rfl⟩) ?_ ?_
   rotate_left
   ·simp only [Act.put, sl0, sl1, sl2, i64_w, i32_w]
    rfl
   refine pure_ (i := 14) (N := some 48) (v := undef) (a' := ?_) (fl_ 15 6) rfl rfl (any_of HT_.out (by kernel_rfl)) (fun _ _ _ h => h) (Or.inr ⟨by rfl, rfl⟩) ?_ ?_
   rotate_left
   ·simp only [Act.put, sl0, sl1, sl2, i64_w, i32_w]
    rfl
   refine pure_ (i := 15) (N := some 49) (v := undef) (a' := ?_) (fl_ 16 5) rfl rfl (any_of HT_.out (by kernel_rfl)) (fun _ _ _ h => h) (Or.inr ⟨by rfl, rfl⟩) ?_ ?_
   rotate_left
   ·simp only [Act.put, sl0, sl1, sl2, i64_w, i32_w]
    rfl
   refine pure_ (i := 16) (N := some 50) (v := undef) (a' := ?_) (fl_ 17 4) rfl rfl (any_of HT_.out (by kernel_rfl)) (fun _ _ _ h => h) (Or.inr ⟨by rfl, rfl⟩) ?_ ?_
   rotate_left
   ·simp only [Act.put, sl0, sl1, sl2, i64_w, i32_w]
    rfl
   refine pure_ (i := 17) (N := some 51) (v := undef) (a' := ?_) (fl_ 18 3) rfl rfl (any_of HT_.out (by kernel_rfl)) (fun _ _ _ h => h) (Or.inr ⟨by rfl, rfl⟩) ?_ ?_
   rotate_left
   ·simp only [Act.put, sl0, sl1, sl2, i64_w, i32_w]
    rfl
   refine pure_ (i := 18) (N := some 52) (v := undef) (a' := ?_) (fl_ 19 2) rfl rfl (any_of HT_.out (by kernel_rfl)) (fun _ _ _ h => h) (Or.inr ⟨by rfl, rfl⟩) ?_ ?_
   rotate_left
   ·simp only [Act.put, sl0, sl1, sl2, i64_w, i32_w]
    rfl
   refine pure_ (i := 19) (N := some 53) (v := undef) (a' := ?_) (fl_ 20 1) rfl rfl (any_of HT_.out (by kernel_rfl)) (fun _ _ _ h => h) (Or.inr ⟨by rfl, rfl⟩) ?_ ?_
   rotate_left
   ·simp only [Act.put, sl0, sl1, sl2, i64_w, i32_w]
    rfl
   refine pure_ (i := 20) (N := some 54) (v := ?_) (a' := ?_) (fl_ 21 0) rfl rfl (any_of HT_.out (by kernel_rfl)) (fun _ _ _ h => h) (Or.inl ⟨by rfl, ?_⟩) ?_ ?_
   rotate_left
   ·intro w'
    go_simp
    with_reducible rfl
   rotate_left
   ·simp only [Act.put, sl0, sl1, sl2, i64_w, i32_w]
    rfl
   refine done_ (done_of HT_.out (by kernel_rfl)) ?_
   try go_wp2
   go_meet
   case rel => exact ⟨_, (true), (by first | rfl | (simp; done) | (simp [*]; done)), H', ⟨by first | omega | exact Nat.le_refl _⟩, ⟨by (with_reducible repeat (first | apply Kd.R_alloc | apply Kd.R_drewN | apply Kd.R_drew)); exact Kd.R_mono HO386.out (fun _ hk => hk.2)⟩, ⟨by (with_reducible repeat (first | apply Kd.R_alloc | apply Kd.R_drewN | apply Kd.R_drew)); exact Kd.R_mono HO389.out (fun _ hk => hk.2)⟩, ⟨by (with_reducible repeat (first | apply Kd.R_alloc | apply Kd.R_drewN | apply Kd.R_drew)); exact HO377.out⟩, ⟨by (with_reducible repeat (first | refine blk_drewN ?_ _ | refine blk_drew ?_ | refine blk_alloc ?_ _)); exact BK382.out⟩, ⟨by repeat (first | (with_reducible first | exact HB.out | apply below_alloc | apply pw_below_drewN | apply below_drew1 | refine below_set ?_ GE382.out) | exact HB.out)⟩⟩
  subst c24
  have H1 : ((sorts_Cost.f t375 t378 t383 t384).bind fun t392 => ((hypercuberef10_Cost.f k t375 t378 t383 t387).bind fun t393 => (hypercubelaw10_SortsAll.j0 k t384 t387 (t375.length : Int) (t392 != t393)))) = some r := by rw [if_pos rfl] at H; exact H
  clear H
  have H := H1
  clear H1
  replace H := Option.bind_eq_some_iff.mp H
  obtain ⟨t392, A250, H⟩ := H
  replace H : ((hypercuberef10_Cost.f k t375 t378 t383 t387).bind fun t393 => (hypercubelaw10_SortsAll.j0 k t384 t387 (t375.length : Int) (t392 != t393))) = some r := H
  have A25 := Aside0.mk A250
  clear A250
  replace H := Option.bind_eq_some_iff.mp H
  obtain ⟨t393, A260, H⟩ := H
  replace H : (hypercubelaw10_SortsAll.j0 k t384 t387 (t375.length : Int) (t392 != t393)) = some r := H
  have A26 := Aside0.mk A260
  clear A260
  have H' := Aside0.mk H
  clear H
  try go_wp2
  have n0_ := Aside0.mk (Kd.R_drew HO377.out)
  have n1_ := Aside0.mk (Kd.S_drew HO381.out)
  have n2_ := Aside0.mk (Kd.R_drew HO386.out)
  have n3_ := Aside0.mk (Kd.R_drew HO389.out)
  have n4_ := Aside0.mk (blk_drew BK382.out)
  have n5_ := Aside0.mk (below_drew1 HB.out)
  clear HO377 HO381 HO386 HO389 BK382 HB
  have HO377 := n0_
  have HO381 := n1_
  have HO386 := n2_
  have HO389 := n3_
  have BK382 := n4_
  have HB := n5_
  clear n0_ n1_ n2_ n3_ n4_ n5_
  obtain ⟨Ao28, co28, eo28⟩ := Kd.R_slice HO386.out
  (first | subst eo28 | (injection eo28 with f1_ f2_ f3_; have f4_ := f1_.symm; have f5_ := f3_.symm; clear f1_ f2_ f3_; subst f4_; subst f5_))
  obtain ⟨Ao29, co29, eo29⟩ := Kd.R_slice HO389.out
  (first | subst eo29 | (injection eo29 with f1_ f2_ f3_; have f4_ := f1_.symm; have f5_ := f3_.symm; clear f1_ f2_ f3_; subst f4_; subst f5_))
  refine start_ (n := 21) (S := fun w' => w'.cell? ⟨gb382, 0, none⟩ = some (.slice Ao14 t375.length co14) ∧ w'.cell? ⟨gb382, 1, none⟩ = some (.int .i64 t378)) (ds := []) (fl_ 0 21) (by kernel_rfl) rfl rfl ⟨(blk_cell BK382.out 0).trans rfl, (blk_cell BK382.out 1).trans rfl⟩ (fun hHeld => ?_); refine with_tabW hypercubelaw10_SortsAll.tab7 hypercubelaw10_SortsAll.bits7 (fun HT_ HW_ => ?_)
  generalize w19.drew = w27 at HO377 HO381 HO386 HO389 BK382 HB hHeld ⊢
  refine pure_ (i := 0) (N := some 34) (v := ?_) (a' := ?_) (fl_ 1 20) rfl rfl (any_of HT_.out (by kernel_rfl)) (fun _ _ _ h => h) (Or.inl ⟨by rfl, ?_⟩) ?_ ?_
  rotate_left
  ·intro w'
   go_simp
   with_reducible rfl
  rotate_left
  ·simp only [Act.put, sl0, sl1, sl2, i64_w, i32_w]
   rfl
  refine pure_ (i := 1) (N := some 35) (v := ?_) (a' := ?_) (fl_ 2 19) rfl rfl (any_of HT_.out (by kernel_rfl)) (fun _ _ _ h => h) (Or.inl ⟨by rfl, ?_⟩) ?_ ?_
  rotate_left
  ·intro w'
   go_simp
   with_reducible rfl
  rotate_left
  ·simp only [Act.put, sl0, sl1, sl2, i64_w, i32_w]
   rfl
  refine one_ (i := 2) (N := some 36) (fl_ 3 18) rfl rfl (one_of HT_.out (by kernel_rfl)) (by decide) (fun K hK => ?_)
  refine goes_ Try.func38 (by kernel_rfl) rfl #[.slice Ao28 t384.length co28, .slice Ao29 t387.length co29] (by rfl) rfl rfl (by (try simp only [List.map_toArray, List.map_cons, List.map_nil]); first | done | rfl | (simp only [List.length_drop, List.length_take]; rfl)) ?_
  with_reducible refine (hypercuberef10_Same.calls k _ _ t384 _ _ t387 true _ ?side1 ?side2 ?side3 ?side4 A21.out).mono ?_
  (case side1 => repeat (first | exact (Kd.R_reads' HO386.out).2.2 | (with_reducible refine Kd.C_alloc ?_ _) | (with_reducible refine Kd.C_drewN ?_ _) | (with_reducible refine Kd.C_drew ?_)))
  (case side2 => exact (Kd.R_reads' HO386.out).2.1)
  (case side3 => repeat (first | exact (Kd.R_reads' HO389.out).2.2 | (with_reducible refine Kd.C_alloc ?_ _) | (with_reducible refine Kd.C_drewN ?_ _) | (with_reducible refine Kd.C_drew ?_)))
  (case side4 => exact (Kd.R_reads' HO389.out).2.1)
  rintro e w' ⟨rfl, ⟨nd, rfl⟩⟩
  refine ⟨_, rfl, ?_⟩
  refine hK.out _ _ ⟨(blk_cell BK382.out 0).trans rfl, (blk_cell BK382.out 1).trans rfl⟩ (fun hHeld => ?_)
  clear hK K
  refine norm_ (a' := ?_) ?_ ?_
  rotate_left
  ·show Act.put _ (some 36) _ = _
   simp only [Act.put, sl0, sl1, sl2, i64_w, i32_w]
   rfl
  refine pure_ (i := 3) (N := some 37) (v := ?_) (a' := ?_) (fl_ 4 17) rfl rfl (any_of HT_.out (by kernel_rfl)) (fun _ _ _ h => h) (Or.inl ⟨by rfl, ?_⟩) ?_ ?_
  rotate_left
  ·intro w'
   go_simp
   with_reducible rfl
  rotate_left
  ·simp only [Act.put, sl0, sl1, sl2, i64_w, i32_w]
   rfl
  refine pure_ (i := 4) (N := some 38) (v := ?_) (a' := ?_) (fl_ 5 16) rfl rfl (any_of HT_.out (by kernel_rfl)) (fun _ _ _ h => h) (Or.inl ⟨by rfl, ?_⟩) ?_ ?_
  rotate_left
  ·intro w'
   go_simp
   with_reducible rfl
  rotate_left
  ·simp only [Act.put, sl0, sl1, sl2, i64_w, i32_w]
   rfl
  refine pure_ (i := 5) (N := some 39) (v := ?_) (a' := ?_) (fl_ 6 15) rfl rfl (any_of HT_.out (by kernel_rfl)) (fun _ _ _ h => h) (Or.inl ⟨by rfl, ?_⟩) ?_ ?_
  rotate_left
  ·intro w'
   go_simp
   with_reducible rfl
  rotate_left
  ·simp only [Act.put, sl0, sl1, sl2, i64_w, i32_w]
   rfl
  refine pure_ (i := 6) (N := some 40) (v := ?_) (a' := ?_) (fl_ 7 14) rfl rfl (any_of HT_.out (by kernel_rfl)) (fun _ _ _ h => h) (Or.inl ⟨by rfl, ?_⟩) ?_ ?_
  rotate_left
  ·intro w'
   go_simp
   with_reducible rfl
  rotate_left
  ·simp only [Act.put, sl0, sl1, sl2, i64_w, i32_w]
   rfl
  refine one_ (i := 7) (N := some 41) (fl_ 8 13) rfl rfl (one_of HT_.out (by kernel_rfl)) (by decide) (fun K hK => ?_)
  refine goes_ Try.func54 (by kernel_rfl) rfl #[.slice Ao28 t384.length co28, .int .i64 (t375.length : Int)] (by rfl) rfl rfl (by (try simp only [List.map_toArray, List.map_cons, List.map_nil]); first | done | rfl | (simp only [List.length_drop, List.length_take]; rfl)) ?_
  with_reducible refine (sorts_Right.calls _ _ t384 (t375.length : Int) true _ ?side1 ?side2 A23.out).mono ?_
  (case side1 => repeat (first | exact (Kd.R_reads' HO386.out).2.2 | (with_reducible refine Kd.C_alloc ?_ _) | (with_reducible refine Kd.C_drewN ?_ _) | (with_reducible refine Kd.C_drew ?_)))
  (case side2 => exact (Kd.R_reads' HO386.out).2.1)
  rintro e w30 ⟨rfl, hb⟩
  refine ⟨_, rfl, ?_⟩
  have n0_ := Aside0.mk (Kd.R_below (by (with_reducible repeat (first | apply Kd.R_alloc | apply Kd.R_drewN | apply Kd.R_drew)); exact HO377.out) hb)
  have n1_ := Aside0.mk (Kd.S_below (by (with_reducible repeat (first | apply Kd.S_alloc | apply Kd.S_drewN | apply Kd.S_drew)); exact HO381.out) hb)
  have n2_ := Aside0.mk (Kd.R_below (by (with_reducible repeat (first | apply Kd.R_alloc | apply Kd.R_drewN | apply Kd.R_drew)); exact HO386.out) hb)
  have n3_ := Aside0.mk (Kd.R_below (by (with_reducible repeat (first | apply Kd.R_alloc | apply Kd.R_drewN | apply Kd.R_drew)); exact HO389.out) hb)
  have n4_ := Aside0.mk (blk_below (g := gb382) (o := .cells #[.slice Ao14 t375.length co14, .int .i64 t378] 33 (0, 0)) (by (with_reducible repeat (first | refine blk_drewN ?_ _ | refine blk_drew ?_ | refine blk_alloc ?_ _)); exact BK382.out) hb)
  have n5_ := Aside0.mk (below_step (by repeat (first | (with_reducible first | exact HB.out | apply below_alloc | apply pw_below_drewN | apply below_drew1 | refine below_set ?_ GE382.out) | exact HB.out)) hb)
  clear HO377 HO381 HO386 HO389 BK382 HB
  have HO377 := n0_
  have HO381 := n1_
  have HO386 := n2_
  have HO389 := n3_
  have BK382 := n4_
  have HB := n5_
  clear n0_ n1_ n2_ n3_ n4_ n5_
  refine hK.out _ _ ⟨(blk_cell BK382.out 0).trans rfl, (blk_cell BK382.out 1).trans rfl⟩ (fun hHeld => ?_)
  clear hK K
  refine norm_ (a' := ?_) ?_ ?_
  rotate_left
  ·show Act.put _ (some 41) _ = _
   simp only [Act.put, sl0, sl1, sl2, i64_w, i32_w]
   rfl
  refine pure_ (i := 8) (N := some 42) (v := ?_) (a' := ?_) (fl_ 9 12) rfl rfl (any_of HT_.out (by kernel_rfl)) (fun _ _ _ h => h) (Or.inl ⟨by rfl, ?_⟩) ?_ ?_
  rotate_left
  ·intro w'
   go_simp
   with_reducible rfl
  rotate_left
  ·simp only [Act.put, sl0, sl1, sl2, i64_w, i32_w]
   rfl
  refine pure_ (i := 9) (N := some 43) (v := ?_) (a' := ?_) (fl_ 10 11) rfl rfl (any_of HT_.out (by kernel_rfl)) (fun _ _ _ h => h) (Or.inl ⟨by rfl, ?_⟩) ?_ ?_
  rotate_left
  ·intro w'
   go_simp
   with_reducible rfl
  rotate_left
  ·simp only [Act.put, sl0, sl1, sl2, i64_w, i32_w]
   rfl
  refine pure_ (i := 10) (N := some 44) (v := ?_) (a' := ?_) (fl_ 11 10) rfl rfl (any_of HT_.out (by kernel_rfl)) (fun _ _ _ h => h) (Or.inl ⟨by rfl, ?_⟩) ?_ ?_
  rotate_left
  ·intro w'
   go_simp
   with_reducible rfl
  rotate_left
  ·simp only [Act.put, sl0, sl1, sl2, i64_w, i32_w]
   rfl
  refine pure_ (i := 12) (N := some 46) (v := ?_) (a' := ?_) #[Y,Y,Y,Y,Y,Y,Y,Y,Y,Y,Y,Z,Y,Z,Z,Z,Z,Z,Z,Z,Z] rfl rfl (any_of HT_.out (by kernel_rfl)) (fun _ _ _ h => h) (Or.inl ⟨by rfl, ?_⟩) ?_ ?_
  rotate_left
  ·intro w'
   go_simp
   with_reducible rfl
  rotate_left
  ·simp only [Act.put, sl0, sl1, sl2, i64_w, i32_w]
   rfl
  refine pure_ (i := 13) (N := some 47) (v := ?_) (a' := ?_) #[Y,Y,Y,Y,Y,Y,Y,Y,Y,Y,Y,Z,Y,Y,Z,Z,Z,Z,Z,Z,Z] rfl rfl (any_of HT_.out (by kernel_rfl)) (fun _ _ _ h => h) (Or.inl ⟨by rfl, ?_⟩) ?_ ?_
  rotate_left
  ·intro w'
   go_simp
   with_reducible rfl
  rotate_left
  ·simp only [Act.put, sl0, sl1, sl2, i64_w, i32_w]
   rfl
  refine pure_ (i := 16) (N := some 50) (v := ?_) (a' := ?_) #[Y,Y,Y,Y,Y,Y,Y,Y,Y,Y,Y,Z,Y,Y,Z,Z,Y,Z,Z,Z,Z] rfl rfl (any_of HT_.out (by kernel_rfl)) (fun _ _ _ h => h) (Or.inl ⟨by rfl, ?_⟩) ?_ ?_
  rotate_left
  ·intro w'
   go_simp
   with_reducible rfl
  rotate_left
  ·simp only [Act.put, sl0, sl1, sl2, i64_w, i32_w]
   rfl
  refine pure_ (i := 17) (N := some 51) (v := ?_) (a' := ?_) #[Y,Y,Y,Y,Y,Y,Y,Y,Y,Y,Y,Z,Y,Y,Z,Z,Y,Y,Z,Z,Z] rfl rfl (any_of HT_.out (by kernel_rfl)) (fun _ _ _ h => h) (Or.inl ⟨by rfl, ?_⟩) ?_ ?_
  rotate_left
  ·intro w'
   go_simp
   with_reducible rfl
  rotate_left
  ·simp only [Act.put, sl0, sl1, sl2, i64_w, i32_w]
   rfl
  refine take_ (i := 11) (N := some 45) (v := ?_) (a' := ?_) #[Y,Y,Y,Y,Y,Y,Y,Y,Y,Y,Y,Y,Y,Y,Z,Z,Y,Y,Z,Z,Z] rfl rfl (take_ofW HT_.out HW_.out (by kernel_rfl)) (fun _ _ _ h => h) (Or.inl ⟨by rfl, ?_⟩) hHeld ?_ ?_
  rotate_left
  ·rintro w' ⟨s0, s1⟩
   go_simp
   with_reducible rfl
  rotate_left
  ·simp only [Act.put, sl0, sl1, sl2, i64_w, i32_w]
   rfl
  refine take_ (i := 15) (N := some 49) (v := ?_) (a' := ?_) #[Y,Y,Y,Y,Y,Y,Y,Y,Y,Y,Y,Y,Y,Y,Z,Y,Y,Y,Z,Z,Z] rfl rfl (take_ofW HT_.out HW_.out (by kernel_rfl)) (fun _ _ _ h => h) (Or.inl ⟨by rfl, ?_⟩) hHeld ?_ ?_
  rotate_left
  ·rintro w' ⟨s0, s1⟩
   go_simp
   with_reducible rfl
  rotate_left
  ·simp only [Act.put, sl0, sl1, sl2, i64_w, i32_w]
   rfl
  refine one_ (i := 14) (N := some 48) (fl_ 18 3) rfl rfl (one_of HT_.out (by kernel_rfl)) (by decide) (fun K hK => ?_)
  refine goes_ Try.func56 (by kernel_rfl) rfl #[.agg #[.slice Ao14 t375.length co14, .int .i64 t378], .int .i64 t383, .slice Ao28 t384.length co28] (by rfl) rfl rfl (by (try simp only [List.map_toArray, List.map_cons, List.map_nil]); first | done | rfl | (simp only [List.length_drop, List.length_take]; rfl)) ?_
  with_reducible refine (sorts_Cost.calls _ _ t375 t378 t383 _ _ t384 t392 _ ?side1 ?side2 ?side3 ?side4 A25.out).mono ?_
  (case side1 => repeat (first | exact (Kd.R_reads' HO377.out).2.2 | (with_reducible refine Kd.C_alloc ?_ _) | (with_reducible refine Kd.C_drewN ?_ _) | (with_reducible refine Kd.C_drew ?_)))
  (case side2 => exact (Kd.R_reads' HO377.out).2.1)
  (case side3 => repeat (first | exact (Kd.R_reads' HO386.out).2.2 | (with_reducible refine Kd.C_alloc ?_ _) | (with_reducible refine Kd.C_drewN ?_ _) | (with_reducible refine Kd.C_drew ?_)))
  (case side4 => exact (Kd.R_reads' HO386.out).2.1)
  rintro e w31 ⟨rfl, hb⟩
  refine ⟨_, rfl, ?_⟩
  have n0_ := Aside0.mk (Kd.R_below (by (with_reducible repeat (first | apply Kd.R_alloc | apply Kd.R_drewN | apply Kd.R_drew)); exact HO377.out) hb)
  have n1_ := Aside0.mk (Kd.S_below (by (with_reducible repeat (first | apply Kd.S_alloc | apply Kd.S_drewN | apply Kd.S_drew)); exact HO381.out) hb)
  have n2_ := Aside0.mk (Kd.R_below (by (with_reducible repeat (first | apply Kd.R_alloc | apply Kd.R_drewN | apply Kd.R_drew)); exact HO386.out) hb)
  have n3_ := Aside0.mk (Kd.R_below (by (with_reducible repeat (first | apply Kd.R_alloc | apply Kd.R_drewN | apply Kd.R_drew)); exact HO389.out) hb)
  have n4_ := Aside0.mk (blk_below (g := gb382) (o := .cells #[.slice Ao14 t375.length co14, .int .i64 t378] 33 (0, 0)) (by (with_reducible repeat (first | refine blk_drewN ?_ _ | refine blk_drew ?_ | refine blk_alloc ?_ _)); exact BK382.out) hb)
  have n5_ := Aside0.mk (below_step (by repeat (first | (with_reducible first | exact HB.out | apply below_alloc | apply pw_below_drewN | apply below_drew1 | refine below_set ?_ GE382.out) | exact HB.out)) hb)
  clear HO377 HO381 HO386 HO389 BK382 HB
  have HO377 := n0_
  have HO381 := n1_
  have HO386 := n2_
  have HO389 := n3_
  have BK382 := n4_
  have HB := n5_
  clear n0_ n1_ n2_ n3_ n4_ n5_
  refine hK.out _ _ ⟨(blk_cell BK382.out 0).trans rfl, (blk_cell BK382.out 1).trans rfl⟩ (fun hHeld => ?_)
  clear hK K
  refine norm_ (a' := ?_) ?_ ?_
  rotate_left
  ·show Act.put _ (some 48) _ = _
   simp only [Act.put, sl0, sl1, sl2, i64_w, i32_w]
   rfl
  refine one_ (i := 18) (N := some 52) (fl_ 19 2) rfl rfl (one_of HT_.out (by kernel_rfl)) (by decide) (fun K hK => ?_)
  refine goes_ Try.func43 (by kernel_rfl) rfl #[.agg #[.slice Ao14 t375.length co14, .int .i64 t378], .int .i64 t383, .slice Ao29 t387.length co29] (by rfl) rfl rfl (by (try simp only [List.map_toArray, List.map_cons, List.map_nil]); first | done | rfl | (simp only [List.length_drop, List.length_take]; rfl)) ?_
  with_reducible refine (hypercuberef10_Cost.calls k _ _ t375 t378 t383 _ _ t387 t393 _ ?side1 ?side2 ?side3 ?side4 A26.out).mono ?_
  (case side1 => repeat (first | exact (Kd.R_reads' HO377.out).2.2 | (with_reducible refine Kd.C_alloc ?_ _) | (with_reducible refine Kd.C_drewN ?_ _) | (with_reducible refine Kd.C_drew ?_)))
  (case side2 => exact (Kd.R_reads' HO377.out).2.1)
  (case side3 => repeat (first | exact (Kd.R_reads' HO389.out).2.2 | (with_reducible refine Kd.C_alloc ?_ _) | (with_reducible refine Kd.C_drewN ?_ _) | (with_reducible refine Kd.C_drew ?_)))
  (case side4 => exact (Kd.R_reads' HO389.out).2.1)
  rintro e w32 ⟨rfl, hb⟩
  refine ⟨_, rfl, ?_⟩
  have n0_ := Aside0.mk (Kd.R_below (by (with_reducible repeat (first | apply Kd.R_alloc | apply Kd.R_drewN | apply Kd.R_drew)); exact HO377.out) hb)
  have n1_ := Aside0.mk (Kd.S_below (by (with_reducible repeat (first | apply Kd.S_alloc | apply Kd.S_drewN | apply Kd.S_drew)); exact HO381.out) hb)
  have n2_ := Aside0.mk (Kd.R_below (by (with_reducible repeat (first | apply Kd.R_alloc | apply Kd.R_drewN | apply Kd.R_drew)); exact HO386.out) hb)
  have n3_ := Aside0.mk (Kd.R_below (by (with_reducible repeat (first | apply Kd.R_alloc | apply Kd.R_drewN | apply Kd.R_drew)); exact HO389.out) hb)
  have n4_ := Aside0.mk (blk_below (g := gb382) (o := .cells #[.slice Ao14 t375.length co14, .int .i64 t378] 33 (0, 0)) (by (with_reducible repeat (first | refine blk_drewN ?_ _ | refine blk_drew ?_ | refine blk_alloc ?_ _)); exact BK382.out) hb)
  have n5_ := Aside0.mk (below_step (by repeat (first | (with_reducible first | exact HB.out | apply below_alloc | apply pw_below_drewN | apply below_drew1 | refine below_set ?_ GE382.out) | exact HB.out)) hb)
  clear HO377 HO381 HO386 HO389 BK382 HB
  have HO377 := n0_
  have HO381 := n1_
  have HO386 := n2_
  have HO389 := n3_
  have BK382 := n4_
  have HB := n5_
  clear n0_ n1_ n2_ n3_ n4_ n5_
  refine hK.out _ _ ⟨(blk_cell BK382.out 0).trans rfl, (blk_cell BK382.out 1).trans rfl⟩ (fun hHeld => ?_)
  clear hK K
  refine norm_ (a' := ?_) ?_ ?_
  rotate_left
  ·show Act.put _ (some 52) _ = _
   simp only [Act.put, sl0, sl1, sl2, i64_w, i32_w]
   rfl
  refine pure_ (i := 19) (N := some 53) (v := ?_) (a' := ?_) (fl_ 20 1) rfl rfl (any_of HT_.out (by kernel_rfl)) (fun _ _ _ h => h) (Or.inl ⟨by rfl, ?_⟩) ?_ ?_
  rotate_left
  ·intro w'
   go_simp
   with_reducible rfl
  rotate_left
  ·simp only [Act.put, sl0, sl1, sl2, i64_w, i32_w]
   rfl
  refine pure_ (i := 20) (N := some 54) (v := ?_) (a' := ?_) (fl_ 21 0) rfl rfl (any_of HT_.out (by kernel_rfl)) (fun _ _ _ h => h) (Or.inl ⟨by rfl, ?_⟩) ?_ ?_
  rotate_left
  ·intro w'
   go_simp
   with_reducible rfl
  rotate_left
  ·simp only [Act.put, sl0, sl1, sl2, i64_w, i32_w]
   rfl
  refine done_ (done_of HT_.out (by kernel_rfl)) ?_
  try go_wp2
  go_meet
  case rel => exact ⟨_, ((t392 != t393)), (by first | rfl | (simp; done) | (simp [*]; done)), H', ⟨by first | omega | exact Nat.le_refl _⟩, ⟨by (with_reducible repeat (first | apply Kd.R_alloc | apply Kd.R_drewN | apply Kd.R_drew)); exact Kd.R_mono HO386.out (fun _ hk => hk.2)⟩, ⟨by (with_reducible repeat (first | apply Kd.R_alloc | apply Kd.R_drewN | apply Kd.R_drew)); exact Kd.R_mono HO389.out (fun _ hk => hk.2)⟩, ⟨by (with_reducible repeat (first | apply Kd.R_alloc | apply Kd.R_drewN | apply Kd.R_drew)); exact HO377.out⟩, ⟨by (with_reducible repeat (first | refine blk_drewN ?_ _ | refine blk_drew ?_ | refine blk_alloc ?_ _)); exact BK382.out⟩, ⟨by repeat (first | (with_reducible first | exact HB.out | apply below_alloc | apply pw_below_drewN | apply below_drew1 | refine below_set ?_ GE382.out) | exact HB.out)⟩⟩
 case rest =>
  clear HC10
  obtain ⟨kq, x54_9, rfl, HA, HJ9, HO_10, HO_11, HO_383000, BK382, HB⟩ := hcut
  cases kq with
  | zero => exact absurd HA.out (by simp [hypercubelaw10_SortsAll.j0])
  | succ kj9 =>
   have H := HA.out
   clear HA
   simp only [hypercubelaw10_SortsAll.j0] at H
   by_cases c40 : x54_9 = true
   ·subst c40
    have H1 : (some false) = some r := by rw [if_pos rfl] at H; exact H
    clear H
    have H := H1
    clear H1
    obtain rfl := Option.some.inj H
    go_wp2
    go_ret
    exact ⟨by first | rfl | (simp [errW_none, errW_some] <;> rfl) | (simp [*, errW_none, errW_some] <;> rfl), by repeat (first | (with_reducible first | exact HB.out | apply below_alloc | apply pw_below_drewN | apply below_drew1 | refine below_set ?_ GE382.out) | exact HB.out)⟩
   replace c40 := Bool.eq_false_iff.mpr c40
   subst c40
   have H1 : ((sorts_Orders.f t384 (t375.length : Int)).bind fun t394 => ((hypercuberef10_Orders.f kj9 t387 (t375.length : Int)).bind fun t397 => ((hypercubelaw10_same.f kj9 t394 t397).bind fun t400 => (some t400)))) = some r := by rw [if_neg (show ¬ (false = true) by decide)] at H; exact H
   clear H
   have H := H1
   clear H1
   replace H := Option.bind_eq_some_iff.mp H
   obtain ⟨t394, A410, H⟩ := H
   replace H : ((hypercuberef10_Orders.f kj9 t387 (t375.length : Int)).bind fun t397 => ((hypercubelaw10_same.f kj9 t394 t397).bind fun t400 => (some t400))) = some r := H
   have A41 := Aside0.mk A410
   clear A410
   replace H := Option.bind_eq_some_iff.mp H
   obtain ⟨t397, A420, H⟩ := H
   replace H : ((hypercubelaw10_same.f kj9 t394 t397).bind fun t400 => (some t400)) = some r := H
   have A42 := Aside0.mk A420
   clear A420
   replace H := Option.bind_eq_some_iff.mp H
   obtain ⟨t400, A430, H⟩ := H
   replace H : (some t400) = some r := H
   have A43 := Aside0.mk A430
   clear A430
   obtain rfl := Option.some.inj H
   obtain ⟨Ao44, co44, eo44⟩ := Kd.R_slice HO_10.out
   subst eo44
   go_wp2_with (first | ((with_reducible refine gate_callee (f := 57) rfl ?_); refine goesL_ (some 57) rfl rfl Try.func57 (by kernel_rfl) rfl #[.slice Ao44 t384.length co44, .int .i64 (t375.length : Int)] rfl (by (try simp only [List.map_toArray, List.map_cons, List.map_nil]); first | done | rfl | (simp only [List.length_drop, List.length_take]; rfl)) ?_; (with_reducible refine (sorts_Orders.calls _ _ t384 (t375.length : Int) t394 _ ?side1 ?side2 A41.out).mono ?_); (case side1 => repeat (first | exact (Kd.R_reads' HO_10.out).2.2 | (with_reducible refine Kd.C_alloc ?_ _) | (with_reducible refine Kd.C_drewN ?_ _) | (with_reducible refine Kd.C_drew ?_))); (case side2 => exact (Kd.R_reads' HO_10.out).2.1); rintro e w45 ⟨v395, rfl, ho0, hb⟩; refine ⟨_, rfl, ?_⟩; have n0_ := Aside0.mk (Kd.R_below (by (with_reducible repeat (first | apply Kd.R_alloc | apply Kd.R_drewN | apply Kd.R_drew)); exact HO_10.out) hb); have n1_ := Aside0.mk (Kd.R_below (by (with_reducible repeat (first | apply Kd.R_alloc | apply Kd.R_drewN | apply Kd.R_drew)); exact HO_11.out) hb); have n2_ := Aside0.mk (Kd.R_below (by (with_reducible repeat (first | apply Kd.R_alloc | apply Kd.R_drewN | apply Kd.R_drew)); exact HO_383000.out) hb); have n3_ := Aside0.mk (Kd.S_lower (Kd.S_new' ho0 (Kd.R_lt (by (with_reducible repeat (first | apply Kd.R_alloc | apply Kd.R_drewN | apply Kd.R_drew)); exact HO_383000.out))) (below_size (by repeat (first | (with_reducible first | exact HB.out | apply below_alloc | apply pw_below_drewN | apply below_drew1 | refine below_set ?_ GE382.out) | exact HB.out)))); have n4_ := Aside0.mk (blk_below (g := gb382) (o := .cells #[.slice Ao14 t375.length co14, .int .i64 t378] 33 (0, 0)) (by (with_reducible repeat (first | refine blk_drewN ?_ _ | refine blk_drew ?_ | refine blk_alloc ?_ _)); exact BK382.out) hb); have n5_ := Aside0.mk (below_step (by repeat (first | (with_reducible first | exact HB.out | apply below_alloc | apply pw_below_drewN | apply below_drew1 | refine below_set ?_ GE382.out) | exact HB.out)) hb); clear HO_10; clear HO_11; clear HO_383000; clear BK382; clear HB; have HO_10 := n0_; have HO_11 := n1_; have HO_383000 := n2_; have HO396 := n3_; have BK382 := n4_; have HB := n5_; clear n0_ n1_ n2_ n3_ n4_ n5_; (try clear hb); (try clear hb2); (try clear hk); (try clear hi); (try clear ho0); obtain ⟨Ao46, co46, eo46⟩ := Kd.R_slice HO_11.out; subst eo46) | ((with_reducible refine gate_callee (f := 59) rfl ?_); refine goesL_ (some 60) rfl rfl Try.func59 (by kernel_rfl) rfl #[.slice Ao46 t387.length co46, .int .i64 (t375.length : Int)] rfl (by (try simp only [List.map_toArray, List.map_cons, List.map_nil]); first | done | rfl | (simp only [List.length_drop, List.length_take]; rfl)) ?_; (with_reducible refine (hypercuberef10_Orders.calls kj9 _ _ t387 (t375.length : Int) t397 _ ?side1 ?side2 A42.out).mono ?_); (case side1 => repeat (first | exact (Kd.R_reads' HO_11.out).2.2 | (with_reducible refine Kd.C_alloc ?_ _) | (with_reducible refine Kd.C_drewN ?_ _) | (with_reducible refine Kd.C_drew ?_))); (case side2 => exact (Kd.R_reads' HO_11.out).2.1); rintro e w47 ⟨v398, rfl, ho0, hb⟩; refine ⟨_, rfl, ?_⟩; have n0_ := Aside0.mk (Kd.R_below (by (with_reducible repeat (first | apply Kd.R_alloc | apply Kd.R_drewN | apply Kd.R_drew)); exact HO_10.out) hb); have n1_ := Aside0.mk (Kd.R_below (by (with_reducible repeat (first | apply Kd.R_alloc | apply Kd.R_drewN | apply Kd.R_drew)); exact HO_11.out) hb); have n2_ := Aside0.mk (Kd.R_below (by (with_reducible repeat (first | apply Kd.R_alloc | apply Kd.R_drewN | apply Kd.R_drew)); exact HO_383000.out) hb); have n3_ := Aside0.mk (Kd.S_elder' (by (with_reducible repeat (first | apply Kd.S_alloc | apply Kd.S_drewN | apply Kd.S_drew)); exact HO396.out) (Kd.S_base ho0) hb); have n4_ := Aside0.mk (Kd.S_lower (Kd.S_new' (Kd.S_new' ho0 (Kd.R_lt (by (with_reducible repeat (first | apply Kd.R_alloc | apply Kd.R_drewN | apply Kd.R_drew)); exact HO_383000.out))) (Kd.S_lt (by (with_reducible repeat (first | apply Kd.S_alloc | apply Kd.S_drewN | apply Kd.S_drew)); exact HO396.out))) (below_size (by repeat (first | (with_reducible first | exact HB.out | apply below_alloc | apply pw_below_drewN | apply below_drew1 | refine below_set ?_ GE382.out) | exact HB.out)))); have n5_ := Aside0.mk (blk_below (g := gb382) (o := .cells #[.slice Ao14 t375.length co14, .int .i64 t378] 33 (0, 0)) (by (with_reducible repeat (first | refine blk_drewN ?_ _ | refine blk_drew ?_ | refine blk_alloc ?_ _)); exact BK382.out) hb); have n6_ := Aside0.mk (below_step (by repeat (first | (with_reducible first | exact HB.out | apply below_alloc | apply pw_below_drewN | apply below_drew1 | refine below_set ?_ GE382.out) | exact HB.out)) hb); clear HO_10; clear HO_11; clear HO_383000; clear HO396; clear BK382; clear HB; have HO_10 := n0_; have HO_11 := n1_; have HO_383000 := n2_; have HO396 := n3_; have HO399 := n4_; have BK382 := n5_; have HB := n6_; clear n0_ n1_ n2_ n3_ n4_ n5_ n6_; (try clear hb); (try clear hb2); (try clear hk); (try clear hi); (try clear ho0); obtain ⟨Ao48, co48, eo48⟩ := Kd.S_slice HO396.out; subst eo48; obtain ⟨Ao49, co49, eo49⟩ := Kd.S_slice HO399.out; subst eo49) | ((with_reducible refine gate_callee (f := 58) rfl ?_); refine goesL_ (some 63) rfl rfl Try.func58 (by kernel_rfl) rfl #[.slice Ao48 t394.length co48, .slice Ao49 t397.length co49] rfl (by (try simp only [List.map_toArray, List.map_cons, List.map_nil]); first | done | rfl | (simp only [List.length_drop, List.length_take]; rfl)) ?_; (with_reducible refine (hypercubelaw10_same.calls kj9 _ _ t394 _ _ t397 t400 _ ?side1 ?side2 ?side3 ?side4 A43.out).mono ?_); (case side1 => repeat (first | exact (Kd.S_reads' HO396.out).2.2 | (with_reducible refine Kd.C_alloc ?_ _) | (with_reducible refine Kd.C_drewN ?_ _) | (with_reducible refine Kd.C_drew ?_))); (case side2 => exact (Kd.S_reads' HO396.out).2.1); (case side3 => repeat (first | exact (Kd.S_reads' HO399.out).2.2 | (with_reducible refine Kd.C_alloc ?_ _) | (with_reducible refine Kd.C_drewN ?_ _) | (with_reducible refine Kd.C_drew ?_))); (case side4 => exact (Kd.S_reads' HO399.out).2.1); rintro e w' ⟨rfl, ⟨nd, rfl⟩⟩; refine ⟨_, rfl, ?_⟩))
   go_ret
   exact ⟨by first | rfl | (simp [errW_none, errW_some] <;> rfl) | (simp [*, errW_none, errW_some] <;> rfl), by repeat (first | (with_reducible first | exact HB.out | apply below_alloc | apply pw_below_drewN | apply below_drew1 | refine below_set ?_ GE382.out) | exact HB.out)⟩
def hypercubelaw10_SortsAll.Pure : Prop := ∀ (a0 : Int) (l1 : List Int) (a2 : Int), (Lit.int .i64 a0).wf = true → l1.length ≤ maxLen → l1.length * 8 ≤ 140737488351232 → (∀ x ∈ l1, (Lit.int .i64 x).wf = true) → (Lit.int .i64 a2).wf = true → ∃ k, hypercubelaw10_SortsAll.f k a0 l1 a2 = some true
theorem hypercubelaw10_SortsAll.walk (P : hypercubelaw10_SortsAll.Pure) (a0 : Int) (a1 : Option Addr) (len1 cap1 : Nat) (z1 : List Int) (a2 : Int) (w : World) (w0 : (Lit.int .i64 a0).wf = true) (w1 : (a1 = none ∧ len1 = 0 ∧ cap1 = 0 ∧ z1 = []) ∨ ∃ x, a1 = some x ∧ len1 ≤ cap1 ∧ cap1 ≤ maxLen ∧ z1.length = cap1 ∧ (∀ i, i < z1.length → w.cell? (x.add i) = some (.int .i64 (z1.getD i 0))) ∧ ∀ n ∈ z1, (Lit.int .i64 n).wf = true) (y1 : len1 * 8 ≤ 140737488351232) (w2 : (Lit.int .i64 a2).wf = true) :
 Calls Try.prog 26 #[.int .i64 a0, .slice a1 len1 cap1, .int .i64 a2] w fun e w' => e = .returned (.bool true) ∧ Below w.heap.size w w' := by
 obtain ⟨l1, rfl, hr1, hm1, hw1, hc1⟩ := ReadsInt.ofRowC w1
 obtain ⟨k, h⟩ := P a0 l1 a2 w0 hm1 y1 hw1 w2
 refine (hypercubelaw10_SortsAll.calls k a0 _ _ l1 a2 true w (Kd.C_of_reads (d := (0 : Int)) (h1 := fun _ => rfl) hr1) hc1 h).mono ?_
 rintro e w' ⟨rfl, hd⟩
 exact ⟨rfl, hd⟩
end Go.Proofs.Ytlplaidcdocbmaa.PSortsAll
