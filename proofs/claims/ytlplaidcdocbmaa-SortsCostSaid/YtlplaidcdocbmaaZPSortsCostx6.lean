-- Cut by pack.py, a program of this session; not trusted: Lean checks it.
import Derived.Test.YtlplaidcdocbmaaZS10
import Derived.Test.YtlplaidcdocbmaaZPSortsCostx0
import Derived.Test.YtlplaidcdocbmaaZPSortsCostx2
import Derived.Test.YtlplaidcdocbmaaZPSortsCostx3
import Derived.Test.YtlplaidcdocbmaaZPSortsCostx4
import Derived.Test.YtlplaidcdocbmaaZPSortsCostx5
namespace Go.Proofs.Ytlplaidcdocbmaa.PSortsCost
open Go.RowKit Go.Proofs.YtlplaidcdocbmaaW.PrintWords Go.Proofs.YtlplaidcdocbmaaW.PrintLast Go.Proofs.YtlplaidcdocbmaaW.PrintMore
attribute [local go_sem] max2_int min2_int max_two min_two max_three min_three max_four min_four   -- for this text's walks alone
set_option linter.unusedVariables false
set_option linter.unusedSimpArgs false

/-! ### sorts_Cost: function 56 -/
def sorts_Cost.f (l0_0 : List Int) (a0_1 : Int) (a1 : Int) (l2 : List (S49)) : Option (Int) := if Srt.okP l0_0 a1 = true ∧ Srt.okC (Srt.toEds S49.f0 S49.f1 S49.f2 l2) = true then some (Srt.costP (Srt.scanC l0_0 a1) (Srt.sortC l0_0 a1) (Srt.toEds S49.f0 S49.f1 S49.f2 l2)) else none
theorem sorts_Cost.calls (A0_0 : Option Addr) (c0_0 : Nat) (l0_0 : List Int) (a0_1 : Int) (a1 : Int) (A2 : Option Addr) (c2 : Nat) (l2 : List (S49)) (r : Int) (w : World) (hr0_0 : Kd.C (Kd.int .i64) w A0_0 l0_0.length l0_0) (hc0_0 : l0_0.length ≤ c0_0) (hr2 : Kd.C k49 w A2 l2.length l2) (hc2 : l2.length ≤ c2) (h : sorts_Cost.f l0_0 a0_1 a1 l2 = some r) :
 Calls Try.prog 56 #[.agg #[.slice A0_0 l0_0.length c0_0, .int .i64 a0_1], .int .i64 a1, .slice A2 l2.length c2] w fun e w' => e = .returned (.int .i64 r) ∧ Below w.heap.size w w' := by
 unfold sorts_Cost.f at h
 by_cases hh : Srt.okP l0_0 a1 = true ∧ Srt.okC (Srt.toEds S49.f0 S49.f1 S49.f2 l2) = true
 ·rw [if_pos hh] at h
  obtain rfl := Option.some.inj h
  exact Srt.cost_K k49 rfl z49 S49.f0 S49.f1 S49.f2 (fun w x cs h => k49_open h) A0_0 c0_0 l0_0 a0_1 a1 A2 c2 l2 w hr0_0 hr2 hh.1 hh.2
 ·rw [if_neg hh] at h; cases h

/-! ### hypercubelaw10_SortsCost: function 22 -/
def hypercubelaw10_SortsCost.l0 : Nat → Int → Int → List (S49) → Int → Int → List Int → Int → Option (Bool)
 | 0, _, _, _, _, _, _, _ => none
 | k + 1, x4, x13, x14, x15, x16, x238000, x238001 => if x16 < (x14.length : Int) then (if 0 ≤ x16 then (if (rd_T49 x14 x16).f2 = true then ((hypercuberef8_Scan.f k x238000 x238001 x13 ((rd_T49 x14 x16).f1)).bind fun t244 => (hypercubelaw10_SortsCost.l0 k x4 x13 x14 (wrap64 (x15 + t244)) (wrap64 (x16 + 1)) x238000 x238001)) else ((hypercuberef8_Sort.f k x238000 x238001 x13 ((rd_T49 x14 x16).f1)).bind fun t246 => (hypercubelaw10_SortsCost.l0 k x4 x13 x14 (wrap64 (x15 + t246)) (wrap64 (x16 + 1)) x238000 x238001))) else (none)) else ((sorts_Cost.f x238000 x238001 x13 x14).bind fun t247 => (if t247 = x15 then ((hypercubelaw10_within.f x4 (wrap64 ((x14.length : Int) - 1))).bind fun t248 => (if 0 ≤ (wrap64 (1 + t248)) then (if (wrap64 (1 + t248)) < (x14.length : Int) then (if ((rd_T49 x14 (wrap64 (1 + t248))).f2 = true) then ((some (x14.set ((wrap64 (1 + t248)) : Int).toNat (⟨(rd_T49 x14 (wrap64 (1 + t248))).f0, (rd_T49 x14 (wrap64 (1 + t248))).f1, false⟩ : S49) : List (S49))).bind fun y250 => ((sorts_Cost.f x238000 x238001 x13 y250).bind fun t251 => (if t251 > x15 then ((sorts_Right.f y250 (x238000.length : Int)).bind fun t252 => (some t252)) else (some false)))) else (some true)) else (none)) else (none))) else (some false)))
def hypercubelaw10_SortsCost.f (k : Nat) (a0 : Int) (l1 : List Int) (a2 : Int) (l3 : List Int) (a4 : Int) : Option (Bool) := (hypercubelaw10_known.f).bind fun t229 => (if t229 = true then ((hypercubelaw1_Facts.f k a0 l1 0 ([] : List Int)).bind fun bt230 => ((hypercubelaw10_within.f a2 300).bind fun t238 => ((hypercubelaw10_Other.f k (bt230.1.length : Int) l3).bind fun t239 => (hypercubelaw10_SortsCost.l0 k a4 (wrap64 (1 + t238)) t239 0 1 bt230.1 bt230.2.1)))) else (some false))
def hypercubelaw10_SortsCost.T11 : Bool × List (List Nat × List Nat) := (true, [([], []), ([], []), ([], []), ([], []), ([], []), ([3, 4], [3, 4]), ([5], [5]), ([6], [6]), ([1, 2, 7], [1, 2, 7]), ([0, 8], [0, 8]), ([9, 8, 0, 1, 2, 3, 4, 5, 6, 7, 8, 9], [0, 9])])
def hypercubelaw10_SortsCost.B11 : List Nat := [0, 0, 0, 0, 0, 24, 56, 120, 254, 511, 1023]
theorem hypercubelaw10_SortsCost.tab11 : rtab .any (opsOf Try.f22 11) = hypercubelaw10_SortsCost.T11 := by kernel_rfl
theorem hypercubelaw10_SortsCost.bits11 : waitsOk hypercubelaw10_SortsCost.T11.2 hypercubelaw10_SortsCost.B11 = true := by kernel_rfl
def hypercubelaw10_SortsCost.T12 : Bool × List (List Nat × List Nat) := (true, [([], []), ([], []), ([], []), ([], []), ([], []), ([3, 4], [3, 4]), ([5], [5]), ([6], [6]), ([1, 2, 7], [1, 2, 7]), ([0, 8], [0, 8]), ([9, 8, 0, 1, 2, 3, 4, 5, 6, 7, 8, 9], [0, 9])])
def hypercubelaw10_SortsCost.B12 : List Nat := [0, 0, 0, 0, 0, 24, 56, 120, 254, 511, 1023]
theorem hypercubelaw10_SortsCost.tab12 : rtab .any (opsOf Try.f22 12) = hypercubelaw10_SortsCost.T12 := by kernel_rfl
theorem hypercubelaw10_SortsCost.bits12 : waitsOk hypercubelaw10_SortsCost.T12.2 hypercubelaw10_SortsCost.B12 = true := by kernel_rfl
set_option maxHeartbeats 8000000 in
set_option maxRecDepth 100000 in
theorem hypercubelaw10_SortsCost.calls (k : Nat) (a0 : Int) (A1 : Option Addr) (c1 : Nat) (l1 : List Int) (a2 : Int) (A3 : Option Addr) (c3 : Nat) (l3 : List Int) (a4 : Int) (r : Bool) (w : World) (hr1 : Kd.C (Kd.int .i64) w A1 l1.length l1) (hc1 : l1.length ≤ c1) (hr3 : Kd.C (Kd.int .i64) w A3 l3.length l3) (hc3 : l3.length ≤ c3) (h : hypercubelaw10_SortsCost.f k a0 l1 a2 l3 a4 = some r) :
 Calls Try.prog 22 #[.int .i64 a0, .slice A1 l1.length c1, .int .i64 a2, .slice A3 l3.length c3, .int .i64 a4] w fun e w' => e = .returned (.bool r) ∧ Below w.heap.size w w' := by
 have hu33 := Try.underlying33
 have HR1 := Aside0.mk hr1
 have HC1 := Aside0.mk hc1
 clear hr1 hc1
 have HR3 := Aside0.mk hr3
 have HC3 := Aside0.mk hc3
 clear hr3 hc3
 have HB := Aside0.mk (Below.refl w.heap.size w)
 have H : ((hypercubelaw10_known.f).bind fun t229 => (if t229 = true then ((hypercubelaw1_Facts.f k a0 l1 0 ([] : List Int)).bind fun bt230 => ((hypercubelaw10_within.f a2 300).bind fun t238 => ((hypercubelaw10_Other.f k (bt230.1.length : Int) l3).bind fun t239 => (hypercubelaw10_SortsCost.l0 k a4 (wrap64 (1 + t238)) t239 0 1 bt230.1 bt230.2.1)))) else (some false))) = some r := h
 clear h
 replace H := Option.bind_eq_some_iff.mp H
 obtain ⟨t229, A60, H⟩ := H
 replace H : (if t229 = true then ((hypercubelaw1_Facts.f k a0 l1 0 ([] : List Int)).bind fun bt230 => ((hypercubelaw10_within.f a2 300).bind fun t238 => ((hypercubelaw10_Other.f k (bt230.1.length : Int) l3).bind fun t239 => (hypercubelaw10_SortsCost.l0 k a4 (wrap64 (1 + t238)) t239 0 1 bt230.1 bt230.2.1)))) else (some false)) = some r := H
 have A6 := Aside0.mk A60
 clear A60
 by_cases c7 : t229 = true
 ·subst c7
  have H1 : ((hypercubelaw1_Facts.f k a0 l1 0 ([] : List Int)).bind fun bt230 => ((hypercubelaw10_within.f a2 300).bind fun t238 => ((hypercubelaw10_Other.f k (bt230.1.length : Int) l3).bind fun t239 => (hypercubelaw10_SortsCost.l0 k a4 (wrap64 (1 + t238)) t239 0 1 bt230.1 bt230.2.1)))) = some r := by rw [if_pos rfl] at H; exact H
  clear H
  have H := H1
  clear H1
  replace H := Option.bind_eq_some_iff.mp H
  obtain ⟨⟨t230, t233, t234⟩, A80, H⟩ := H
  replace H : ((hypercubelaw10_within.f a2 300).bind fun t238 => ((hypercubelaw10_Other.f k (t230.length : Int) l3).bind fun t239 => (hypercubelaw10_SortsCost.l0 k a4 (wrap64 (1 + t238)) t239 0 1 t230 t233))) = some r := H
  have A8 := Aside0.mk A80
  clear A80
  replace H := Option.bind_eq_some_iff.mp H
  obtain ⟨t238, A90, H⟩ := H
  replace H : ((hypercubelaw10_Other.f k (t230.length : Int) l3).bind fun t239 => (hypercubelaw10_SortsCost.l0 k a4 (wrap64 (1 + t238)) t239 0 1 t230 t233)) = some r := H
  have A9 := Aside0.mk A90
  clear A90
  replace H := Option.bind_eq_some_iff.mp H
  obtain ⟨t239, A100, H⟩ := H
  replace H : (hypercubelaw10_SortsCost.l0 k a4 (wrap64 (1 + t238)) t239 0 1 t230 t233) = some r := H
  have A10 := Aside0.mk A100
  clear A100
  have H' := Aside0.mk H
  clear H
  go_enter Try.func22, Try.ntmps22
  go_wp2_with (first | ((with_reducible refine gate_callee (f := 51) rfl ?_); refine goesL_ (some 18) rfl rfl Try.func51 (by kernel_rfl) rfl #[] rfl (by (try simp only [List.map_toArray, List.map_cons, List.map_nil]); first | done | rfl | (simp only [List.length_drop, List.length_take]; rfl)) ?_; (with_reducible refine (hypercubelaw10_known.calls  true _ A6.out).mono ?_); rintro e w11 ⟨rfl, hb⟩; refine ⟨_, rfl, ?_⟩; have n0_ := Aside0.mk (below_step (by repeat (first | (with_reducible first | exact HB.out | apply below_alloc | apply pw_below_drewN | apply below_drew1) | exact HB.out)) hb); clear HB; have HB := n0_; clear n0_; (try clear hb); (try clear hb2); (try clear hk); (try clear hi)) | ((with_reducible refine gate_callee (f := 32) rfl ?_); refine goesL_ (some 23) rfl rfl Try.func32 (by kernel_rfl) rfl #[.int .i64 a0, .slice A1 l1.length c1, .int .i64 0, .slice none 0 0] rfl (by (try simp only [List.map_toArray, List.map_cons, List.map_nil]); first | done | rfl | (simp only [List.length_drop, List.length_take]; rfl)) ?_; (refine (hypercubelaw1_Facts.calls k a0 _ _ l1 0 _ _ ([] : List Int) t230 t233 t234 _ ?side1 ?side2 ?side3 ?side4 A8.out).mono ?_); (case side1 => repeat (first | exact (Kd.C_below HR1.out HB.out) | (with_reducible refine Kd.C_alloc ?_ _) | (with_reducible refine Kd.C_drewN ?_ _) | (with_reducible refine Kd.C_drew ?_))); (case side2 => exact HC1.out); (case side3 => exact Kd.C_nil _ _); (case side4 => exact Nat.le_refl _); rintro e w12 ⟨v231, v235, rfl, ho0, ho1, hb⟩; refine ⟨_, rfl, ?_⟩; have n0_ := Aside0.mk (Kd.R_lower ho0 (below_size (by repeat (first | (with_reducible first | exact HB.out | apply below_alloc | apply pw_below_drewN | apply below_drew1) | exact HB.out)))); have n1_ := Aside0.mk (Kd.S_lower ho1 (below_size (by repeat (first | (with_reducible first | exact HB.out | apply below_alloc | apply pw_below_drewN | apply below_drew1) | exact HB.out)))); have n2_ := Aside0.mk (below_step (by repeat (first | (with_reducible first | exact HB.out | apply below_alloc | apply pw_below_drewN | apply below_drew1) | exact HB.out)) hb); clear HB; have HO232 := n0_; have HO236 := n1_; have HB := n2_; clear n0_ n1_ n2_; (try clear hb); (try clear hb2); (try clear hk); (try clear hi); (try clear ho0); (try clear ho1)) | ((with_reducible refine gate_dst (N := 11) rfl ?_); (try (refine gate_guard (by rfl) ?_; dsimp only)); refine box_event ?hg (N := 11) ?hd (cs := #[.slice none 0 0, .int .i64 0]) (t := 33) ?hr ?_; (case hd => rfl); (case hg => rfl); (case hr => first | (go_simp; done) | (go_simp; rfl)); intro gb237 hg w13 hbox hb; have n0_ := Aside0.mk (Kd.R_below (by (with_reducible repeat (first | apply Kd.R_alloc | apply Kd.R_drewN | apply Kd.R_drew)); exact HO232.out) hb); have n1_ := Aside0.mk (Kd.S_below (by (with_reducible repeat (first | apply Kd.S_alloc | apply Kd.S_drewN | apply Kd.S_drew)); exact HO236.out) hb); have n2_ := Aside0.mk (below_step (by repeat (first | (with_reducible first | exact HB.out | apply below_alloc | apply pw_below_drewN | apply below_drew1) | exact HB.out)) hb); have n3_ := Aside0.mk (hbox); have n4_ := Aside0.mk ((by rw [hg]; exact (below_size (by repeat (first | (with_reducible first | exact HB.out | apply below_alloc | apply pw_below_drewN | apply below_drew1) | exact HB.out))) : w.heap.size ≤ gb237)); have n5_ := Aside0.mk ((by rw [hg]; exact (below_size (by repeat (first | (with_reducible first | exact HB.out | apply below_alloc | apply pw_below_drewN | apply below_drew1) | exact HB.out))) : w.heap.size ≤ gb237)); clear HO232; clear HO236; clear HB; have HO232 := n0_; have HO236 := n1_; have HB := n2_; have BK237 := n3_; have GW237 := n4_; have GE237 := n5_; clear n0_ n1_ n2_ n3_ n4_ n5_; clear hb hbox hg; obtain ⟨Ao14, co14, eo14⟩ := Kd.R_slice HO232.out; subst eo14; have hcz15_0 : w13.cell? ⟨gb237, 0, none⟩ = some (.slice none 0 0) := (blk_cell BK237.out 0).trans rfl; have hcz15_1 : w13.cell? ⟨gb237, 1, none⟩ = some (.int .i64 0) := (blk_cell BK237.out 1).trans rfl; have hfz15_0 := blk_frozen BK237.out 0; have hfz15_1 := blk_frozen BK237.out 1) | ((with_reducible refine gate_callee (f := 52) rfl ?_); refine goesL_ (some 27) rfl rfl Try.func52 (by kernel_rfl) rfl #[.int .i64 a2, .int .i64 300] rfl (by (try simp only [List.map_toArray, List.map_cons, List.map_nil]); first | done | rfl | (simp only [List.length_drop, List.length_take]; rfl)) ?_; (with_reducible refine (hypercubelaw10_within.calls a2 300 t238 _ A9.out).mono ?_); rintro e w' ⟨rfl, ⟨nd, rfl⟩⟩; refine ⟨_, rfl, ?_⟩) | ((with_reducible refine gate_callee (f := 53) rfl ?_); refine goesL_ (some 33) rfl rfl Try.func53 (by kernel_rfl) rfl #[.int .i64 (t230.length : Int), .slice A3 l3.length c3] rfl (by (try simp only [List.map_toArray, List.map_cons, List.map_nil]); first | done | rfl | (simp only [List.length_drop, List.length_take]; rfl)) ?_; (with_reducible refine (hypercubelaw10_Other.calls k (t230.length : Int) _ _ l3 t239 _ ?side1 ?side2 A10.out).mono ?_); (case side1 => exact Kd.C_below HR3.out (by repeat (first | (with_reducible first | exact HB.out | apply below_alloc | apply pw_below_drewN | apply below_drew1 | refine below_set ?_ GE237.out) | exact HB.out))); (case side2 => exact HC3.out); rintro e w16 ⟨v240, rfl, ho0, hb⟩; refine ⟨_, rfl, ?_⟩; have n0_ := Aside0.mk (Kd.R_below (by (with_reducible repeat (first | apply Kd.R_alloc | apply Kd.R_drewN | apply Kd.R_drew)); exact (Kd.R_mono (Kd.R_far (p := ⟨gb237, 1, none⟩) (Kd.R_far (p := ⟨gb237, 0, none⟩) (Kd.R_types HO232.out BK237.out (by decide)) (fun _ hk => hk.2) (.slice Ao14 t230.length co14)) (fun _ hk => hk.2) (.int .i64 t233)) (fun _ h_ => h_.1))) hb); have n1_ := Aside0.mk (Kd.S_below (by (with_reducible repeat (first | apply Kd.S_alloc | apply Kd.S_drewN | apply Kd.S_drew)); exact (Kd.S_mono (Kd.S_far (p := ⟨gb237, 1, none⟩) (Kd.S_far (p := ⟨gb237, 0, none⟩) (Kd.S_types HO236.out BK237.out (by decide)) (fun _ hk => hk.2) (.slice Ao14 t230.length co14)) (fun _ hk => hk.2) (.int .i64 t233)) (fun _ h_ => h_.1))) hb); have n2_ := Aside0.mk (Kd.R_lower ho0 (below_size (by repeat (first | (with_reducible first | exact HB.out | apply below_alloc | apply pw_below_drewN | apply below_drew1 | refine below_set ?_ GE237.out) | exact HB.out)))); have n3_ := Aside0.mk (blk_below (g := gb237) (o := .cells #[.slice Ao14 t230.length co14, .int .i64 t233] 33 (0, 0)) (by (with_reducible repeat (first | refine blk_drewN ?_ _ | refine blk_drew ?_ | refine blk_alloc ?_ _)); refine blk_put (cs := #[.slice Ao14 t230.length co14, .int .i64 0]) ?_ 1 _ rfl; (with_reducible repeat (first | refine blk_drewN ?_ _ | refine blk_drew ?_ | refine blk_alloc ?_ _)); refine blk_put (cs := #[.slice none 0 0, .int .i64 0]) ?_ 0 _ rfl; (with_reducible repeat (first | refine blk_drewN ?_ _ | refine blk_drew ?_ | refine blk_alloc ?_ _)); exact BK237.out) hb); have n4_ := Aside0.mk (below_step (by repeat (first | (with_reducible first | exact HB.out | apply below_alloc | apply pw_below_drewN | apply below_drew1 | refine below_set ?_ GE237.out) | exact HB.out)) hb); clear HO232; clear HO236; clear BK237; clear HB; have HO232 := n0_; have HO236 := n1_; have HO241 := n2_; have BK237 := n3_; have HB := n4_; clear n0_ n1_ n2_ n3_ n4_; (try clear hb); (try clear hb2); (try clear hk); (try clear hi); (try clear ho0)))
  go_loopg [15, 16] k (fun kq v15 v16 w' => ∃ (x15_1 : Int) (x16_1 : Int), v15 = .int .i64 x15_1 ∧ v16 = .int .i64 x16_1 ∧ Aside0 (hypercubelaw10_SortsCost.l0 kq a4 (wrap64 (1 + t238)) t239 x15_1 x16_1 t230 t233 = some r) ∧ Aside0 (kq ≤ k) ∧ Aside0 (Kd.R k49 49 w' w.heap.size (fun _ => True) v240 t239) ∧ Aside0 (Kd.R (Kd.int .i64) 3 w' w.heap.size (fun _ => True) (.slice Ao14 t230.length co14) t230) ∧ Aside0 (w'.heap[gb237]? = some (.cells #[(.slice Ao14 t230.length co14), .int .i64 t233] 33 (0, 0))) ∧ Aside0 (Below w.heap.size w w'))
  case atStart => exact ⟨(0), (1), (by first | rfl | (simp; done) | (simp [*]; done)), (by first | rfl | (simp; done) | (simp [*]; done)), H', ⟨Nat.le_refl _⟩, ⟨by (with_reducible repeat (first | apply Kd.R_alloc | apply Kd.R_drewN | apply Kd.R_drew)); exact HO241.out⟩, ⟨by (with_reducible repeat (first | apply Kd.R_alloc | apply Kd.R_drewN | apply Kd.R_drew)); exact HO232.out⟩, ⟨by (with_reducible repeat (first | refine blk_drewN ?_ _ | refine blk_drew ?_ | refine blk_alloc ?_ _)); exact BK237.out⟩, ⟨by repeat (first | (with_reducible first | exact HB.out | apply below_alloc | apply pw_below_drewN | apply below_drew1 | refine below_set ?_ GE237.out) | exact HB.out)⟩⟩
  case round =>
   clear H'
   try clear c1
   try clear c2
   try clear p2
   try clear c3
   try clear c5
   try clear p6
   try clear c7
   try clear hcz15_0
   try clear hcz15_1
   try clear hfz15_0
   try clear hfz15_1
   obtain ⟨x15_1, x16_1, rfl, rfl, HA, HK1, HO_14, HO_238000, BK237, HB⟩ := hrel
   cases gk with
   | zero => exact absurd HA.out (by simp [hypercubelaw10_SortsCost.l0])
   | succ k1 =>
    have H := HA.out
    clear HA
    simp only [hypercubelaw10_SortsCost.l0] at H
    by_cases c17 : x16_1 < (t239.length : Int)
    ·rw [if_pos c17] at H
     have c17b0 : decide (x16_1 < (t239.length : Int)) = true := decide_eq_true c17
     clear c17
     by_cases c18 : 0 ≤ x16_1
     ·rw [if_pos c18] at H
      have c18b0 : decide (0 ≤ x16_1) = true := decide_eq_true c18
      clear c18
      obtain ⟨bq19, hbq19⟩ : ∃ b_ : Bool, b_ = ((rd_T49 t239 x16_1).f2) := ⟨_, rfl⟩
      replace H : (if bq19 = true then ((hypercuberef8_Scan.f k1 t230 t233 (wrap64 (1 + t238)) ((rd_T49 t239 x16_1).f1)).bind fun t244 => (hypercubelaw10_SortsCost.l0 k1 a4 (wrap64 (1 + t238)) t239 (wrap64 (x15_1 + t244)) (wrap64 (x16_1 + 1)) t230 t233)) else ((hypercuberef8_Sort.f k1 t230 t233 (wrap64 (1 + t238)) ((rd_T49 t239 x16_1).f1)).bind fun t246 => (hypercubelaw10_SortsCost.l0 k1 a4 (wrap64 (1 + t238)) t239 (wrap64 (x15_1 + t246)) (wrap64 (x16_1 + 1)) t230 t233))) = some r := by rw [← hbq19] at H; exact H
      have Nbq19 := Aside0.mk hbq19
      clear hbq19
      by_cases c20 : bq19 = true
      ·subst c20
       have H1 : ((hypercuberef8_Scan.f k1 t230 t233 (wrap64 (1 + t238)) ((rd_T49 t239 x16_1).f1)).bind fun t244 => (hypercubelaw10_SortsCost.l0 k1 a4 (wrap64 (1 + t238)) t239 (wrap64 (x15_1 + t244)) (wrap64 (x16_1 + 1)) t230 t233)) = some r := by rw [if_pos rfl] at H; exact H
       clear H
       have H := H1
       clear H1
       replace H := Option.bind_eq_some_iff.mp H
       obtain ⟨t244, A210, H⟩ := H
       replace H : (hypercubelaw10_SortsCost.l0 k1 a4 (wrap64 (1 + t238)) t239 (wrap64 (x15_1 + t244)) (wrap64 (x16_1 + 1)) t230 t233) = some r := H
       have A21 := Aside0.mk A210
       clear A210
       have H' := Aside0.mk H
       clear H
       obtain ⟨Ao22, co22, eo22⟩ := Kd.R_slice HO_14.out
       subst eo22
       have p242 : 0 ≤ (x16_1 : Int) := of_decide_eq_true (by first | (with_reducible assumption) | assumption)
       have q242 : x16_1 < (t239.length : Int) := of_decide_eq_true (by first | (with_reducible assumption) | assumption)
       obtain ⟨ad242, e242, hx242_0, hx242_1, hx242_2⟩ := at_T49 (Kd.R_reads' HO_14.out).2.2 x16_1 p242 q242
       (try rw [← Nbq19.out] at hx242_2)
       cases e242
       replace p242 := eq_true p242
       replace q242 := eq_true q242
       try go_wp2
       have n0_ := Aside0.mk (Kd.R_drew HO_14.out)
       have n1_ := Aside0.mk (Kd.R_drew HO_238000.out)
       have n2_ := Aside0.mk (blk_drew BK237.out)
       have n3_ := Aside0.mk (below_drew1 HB.out)
       clear HO_14
       clear HO_238000
       clear BK237
       clear HB
       have HO_14 := n0_
       have HO_238000 := n1_
       have BK237 := n2_
       have HB := n3_
       clear n0_ n1_ n2_ n3_
       have p243 : 0 ≤ (x16_1 : Int) := of_decide_eq_true (by first | (with_reducible assumption) | assumption)
       have q243 : x16_1 < (t239.length : Int) := of_decide_eq_true (by first | (with_reducible assumption) | assumption)
       obtain ⟨ad243, e243, hx243_0, hx243_1, hx243_2⟩ := at_T49 (Kd.R_reads' HO_14.out).2.2 x16_1 p243 q243
       (try rw [← Nbq19.out] at hx243_2)
       obtain rfl : ad242 = ad243 := (by injection e243)
       replace p243 := eq_true p243
       replace q243 := eq_true q243
       refine start_ (n := 11) (S := fun w' => w'.cell? ⟨gb237, 0, none⟩ = some (.slice Ao14 t230.length co14) ∧ w'.cell? ⟨gb237, 1, none⟩ = some (.int .i64 t233) ∧ w'.cell? (ad242.add ((x16_1).toNat * 3)) = some (.int .i64 ((rd_T49 t239 x16_1).f0)) ∧ w'.cell? ⟨(ad242.add ((x16_1).toNat * 3)).block, (ad242.add ((x16_1).toNat * 3)).off + 1, none⟩ = some (.int .i64 ((rd_T49 t239 x16_1).f1)) ∧ w'.cell? ⟨(ad242.add ((x16_1).toNat * 3)).block, (ad242.add ((x16_1).toNat * 3)).off + 2, none⟩ = some (.bool (true))) (ds := []) #[false, false, false, false, false, false, false, false, false, false, false] (by kernel_rfl) rfl rfl ⟨(blk_cell BK237.out 0).trans rfl, (blk_cell BK237.out 1).trans rfl, hx243_0, hx243_1, hx243_2⟩ (fun hHeld => ?_); refine with_tabW hypercubelaw10_SortsCost.tab11 hypercubelaw10_SortsCost.bits11 (fun HT_ HW_ => ?_)
       generalize wr.drew = w23 at HO_14 HO_238000 BK237 HB hx243_0 hx243_1 hx243_2 hHeld ⊢
       refine pure_ (i := 0) (N := some 45) (v := ?_) (a' := ?_) #[true, false, false, false, false, false, false, false, false, false, false] rfl rfl (any_of HT_.out (by kernel_rfl)) (fun _ _ _ h => h) (Or.inl ⟨by rfl, ?_⟩) ?_ ?_
       rotate_left
       ·intro w'
        go_simp
        with_reducible rfl
       rotate_left
       ·simp only [Act.put, List.setIfInBounds_toArray, List.set_cons_zero, List.set_cons_succ, i64_w, i32_w]
        rfl
       refine pure_ (i := 2) (N := some 47) (v := ?_) (a' := ?_) #[true, false, true, false, false, false, false, false, false, false, false] rfl rfl (any_of HT_.out (by kernel_rfl)) (fun _ _ _ h => h) (Or.inl ⟨by rfl, ?_⟩) ?_ ?_
       rotate_left
       ·intro w'
        go_simp
        with_reducible rfl
       rotate_left
       ·simp only [Act.put, List.setIfInBounds_toArray, List.set_cons_zero, List.set_cons_succ, i64_w, i32_w]
        rfl
       refine pure_ (i := 3) (N := some 48) (v := ?_) (a' := ?_) #[true, false, true, true, false, false, false, false, false, false, false] rfl rfl (any_of HT_.out (by kernel_rfl)) (fun _ _ _ h => h) (Or.inl ⟨by rfl, ?_⟩) ?_ ?_
       rotate_left
       ·intro w'
        go_simp
        with_reducible rfl
       rotate_left
       ·simp only [Act.put, List.setIfInBounds_toArray, List.set_cons_zero, List.set_cons_succ, i64_w, i32_w]
        rfl
       refine pure_ (i := 4) (N := some 49) (v := ?_) (a' := ?_) #[true, false, true, true, true, false, false, false, false, false, false] rfl rfl (any_of HT_.out (by kernel_rfl)) (fun _ _ _ h => h) (Or.inl ⟨by rfl, ?_⟩) ?_ ?_
       rotate_left
       ·intro w'
        go_simp
        with_reducible rfl
       rotate_left
       ·simp only [Act.put, List.setIfInBounds_toArray, List.set_cons_zero, List.set_cons_succ, i64_w, i32_w]
        rfl
       refine pure_ (i := 5) (N := some 50) (v := ?_) (a' := ?_) #[true, false, true, true, true, true, false, false, false, false, false] rfl rfl (any_of HT_.out (by kernel_rfl)) (fun _ _ _ h => h) (Or.inl ⟨by rfl, ?_⟩) ?_ ?_
       rotate_left
       ·intro w'
        go_simp
        with_reducible rfl
       rotate_left
       ·simp only [Act.put, List.setIfInBounds_toArray, List.set_cons_zero, List.set_cons_succ, i64_w, i32_w]
        rfl
       refine pure_ (i := 6) (N := some 51) (v := ?_) (a' := ?_) #[true, false, true, true, true, true, true, false, false, false, false] rfl rfl (any_of HT_.out (by kernel_rfl)) (fun _ _ _ h => h) (Or.inl ⟨by rfl, ?_⟩) ?_ ?_
       rotate_left
       ·intro w'
        go_simp
        with_reducible rfl
       rotate_left
       ·simp only [Act.put, List.setIfInBounds_toArray, List.set_cons_zero, List.set_cons_succ, i64_w, i32_w]
        rfl
       refine take_ (i := 1) (N := some 46) (v := ?_) (a' := ?_) #[true, true, true, true, true, true, true, false, false, false, false] rfl rfl (take_ofW HT_.out HW_.out (by kernel_rfl)) (fun _ _ _ h => h) (Or.inl ⟨by rfl, ?_⟩) hHeld ?_ ?_
       rotate_left
       ·rintro w' ⟨s0, s1, s2, s3, s4⟩
        go_simp
        with_reducible rfl
       rotate_left
       ·simp only [Act.put, List.setIfInBounds_toArray, List.set_cons_zero, List.set_cons_succ, i64_w, i32_w]
        rfl
       refine take_ (i := 7) (N := some 52) (v := ?_) (a' := ?_) #[true, true, true, true, true, true, true, true, false, false, false] rfl rfl (take_ofW HT_.out HW_.out (by kernel_rfl)) (fun _ _ _ h => h) (Or.inl ⟨by rfl, ?_⟩) hHeld ?_ ?_
       rotate_left
       ·rintro w' ⟨s0, s1, s2, s3, s4⟩
        go_simp
        with_reducible rfl
       rotate_left
       ·simp only [Act.put, List.setIfInBounds_toArray, List.set_cons_zero, List.set_cons_succ, i64_w, i32_w]
        rfl
       refine one_ (i := 8) (N := some 53) #[true, true, true, true, true, true, true, true, true, false, false] rfl rfl (one_of HT_.out (by kernel_rfl)) (by decide) (fun K hK => ?_)
       refine goes_ Try.func48 (by kernel_rfl) rfl #[.agg #[.slice Ao14 t230.length co14, .int .i64 t233], .int .i64 (wrap64 (1 + t238)), .int .i64 ((rd_T49 t239 x16_1).f1)] (by rfl) rfl rfl (by (try simp only [List.map_toArray, List.map_cons, List.map_nil]); first | done | rfl | (simp only [List.length_drop, List.length_take]; rfl)) ?_
       with_reducible refine (hypercuberef8_Scan.calls k1 _ _ t230 t233 (wrap64 (1 + t238)) ((rd_T49 t239 x16_1).f1) t244 _ ?side1 ?side2 A21.out).mono ?_
       (case side1 => repeat (first | exact (Kd.R_reads' HO_238000.out).2.2 | (with_reducible refine Kd.C_alloc ?_ _) | (with_reducible refine Kd.C_drewN ?_ _) | (with_reducible refine Kd.C_drew ?_)))
       (case side2 => exact (Kd.R_reads' HO_238000.out).2.1)
       rintro e w24 ⟨rfl, hb⟩
       have HS2_ := (hb.cell (World.block_lt_of_cell? _ _ (hHeld.2.2.1))).trans (hHeld.2.2.1)
       have HS3_ := (hb.cell (World.block_lt_of_cell? _ _ (hHeld.2.2.2.1))).trans (hHeld.2.2.2.1)
       have HS4_ := (hb.cell (World.block_lt_of_cell? _ _ (hHeld.2.2.2.2))).trans (hHeld.2.2.2.2)
       refine ⟨_, rfl, ?_⟩
       have n0_ := Aside0.mk (Kd.R_below (by (with_reducible repeat (first | apply Kd.R_alloc | apply Kd.R_drewN | apply Kd.R_drew)); exact HO_14.out) hb)
       have n1_ := Aside0.mk (Kd.R_below (by (with_reducible repeat (first | apply Kd.R_alloc | apply Kd.R_drewN | apply Kd.R_drew)); exact HO_238000.out) hb)
       have n2_ := Aside0.mk (blk_below (g := gb237) (o := .cells #[.slice Ao14 t230.length co14, .int .i64 t233] 33 (0, 0)) (by (with_reducible repeat (first | refine blk_drewN ?_ _ | refine blk_drew ?_ | refine blk_alloc ?_ _)); exact BK237.out) hb)
       have n3_ := Aside0.mk (below_step (by repeat (first | (with_reducible first | exact HB.out | apply below_alloc | apply pw_below_drewN | apply below_drew1 | refine below_set ?_ GE237.out) | exact HB.out)) hb)
       clear HO_14
       clear HO_238000
       clear BK237
       clear HB
       have HO_14 := n0_
       have HO_238000 := n1_
       have BK237 := n2_
       have HB := n3_
       clear n0_ n1_ n2_ n3_
       (try clear hb)
       (try clear hb2)
       (try clear hk)
       (try clear hi)
       refine hK.out _ _ ⟨(blk_cell BK237.out 0).trans rfl, (blk_cell BK237.out 1).trans rfl, HS2_, HS3_, HS4_⟩ (fun hHeld => ?_)
       clear hK K
       refine norm_ (a' := ?_) ?_ ?_
       rotate_left
       ·show Act.put _ (some 53) _ = _
        simp only [Act.put, List.setIfInBounds_toArray, List.set_cons_zero, List.set_cons_succ, i64_w, i32_w]
        rfl
       refine pure_ (i := 9) (N := some 54) (v := ?_) (a' := ?_) #[true, true, true, true, true, true, true, true, true, true, false] rfl rfl (any_of HT_.out (by kernel_rfl)) (fun _ _ _ h => h) (Or.inl ⟨by rfl, ?_⟩) ?_ ?_
       rotate_left
       ·intro w'
        go_simp
        with_reducible rfl
       rotate_left
       ·simp only [Act.put, List.setIfInBounds_toArray, List.set_cons_zero, List.set_cons_succ, i64_w, i32_w]
        rfl
       refine pure_ (i := 10) (N := some 15) (v := ?_) (a' := ?_) #[true, true, true, true, true, true, true, true, true, true, true] rfl rfl (any_of HT_.out (by kernel_rfl)) (fun _ _ _ h => h) (Or.inl ⟨by rfl, ?_⟩) ?_ ?_
       rotate_left
       ·intro w'
        go_simp
        with_reducible rfl
       rotate_left
       ·simp only [Act.put, List.setIfInBounds_toArray, List.set_cons_zero, List.set_cons_succ, i64_w, i32_w]
        rfl
       refine done_ (done_of HT_.out (by kernel_rfl)) ?_
       try go_wp2
       go_roundg k1
       case measure => have := HK1.out; omega
       case rel => exact ⟨(wrap64 (x15_1 + t244)), (wrap64 (x16_1 + 1)), (by first | rfl | (simp; done) | (simp [*]; done)), (by first | rfl | (simp; done) | (simp [*]; done)), H', ⟨by have := HK1.out; omega⟩, ⟨by (with_reducible repeat (first | apply Kd.R_alloc | apply Kd.R_drewN | apply Kd.R_drew)); exact HO_14.out⟩, ⟨by (with_reducible repeat (first | apply Kd.R_alloc | apply Kd.R_drewN | apply Kd.R_drew)); exact HO_238000.out⟩, ⟨by (with_reducible repeat (first | refine blk_drewN ?_ _ | refine blk_drew ?_ | refine blk_alloc ?_ _)); exact BK237.out⟩, ⟨by repeat (first | (with_reducible first | exact HB.out | apply below_alloc | apply pw_below_drewN | apply below_drew1 | refine below_set ?_ GE237.out) | exact HB.out)⟩⟩
      ·replace c20 := Bool.eq_false_iff.mpr c20
       subst c20
       have H1 : ((hypercuberef8_Sort.f k1 t230 t233 (wrap64 (1 + t238)) ((rd_T49 t239 x16_1).f1)).bind fun t246 => (hypercubelaw10_SortsCost.l0 k1 a4 (wrap64 (1 + t238)) t239 (wrap64 (x15_1 + t246)) (wrap64 (x16_1 + 1)) t230 t233)) = some r := by rw [if_neg (show ¬ (false = true) by decide)] at H; exact H
       clear H
       have H := H1
       clear H1
       replace H := Option.bind_eq_some_iff.mp H
       obtain ⟨t246, A250, H⟩ := H
       replace H : (hypercubelaw10_SortsCost.l0 k1 a4 (wrap64 (1 + t238)) t239 (wrap64 (x15_1 + t246)) (wrap64 (x16_1 + 1)) t230 t233) = some r := H
       have A25 := Aside0.mk A250
       clear A250
       have H' := Aside0.mk H
       clear H
       obtain ⟨Ao26, co26, eo26⟩ := Kd.R_slice HO_14.out
       subst eo26
       have p242 : 0 ≤ (x16_1 : Int) := of_decide_eq_true (by first | (with_reducible assumption) | assumption)
       have q242 : x16_1 < (t239.length : Int) := of_decide_eq_true (by first | (with_reducible assumption) | assumption)
       obtain ⟨ad242, e242, hx242_0, hx242_1, hx242_2⟩ := at_T49 (Kd.R_reads' HO_14.out).2.2 x16_1 p242 q242
       (try rw [← Nbq19.out] at hx242_2)
       cases e242
       replace p242 := eq_true p242
       replace q242 := eq_true q242
       try go_wp2
       have n0_ := Aside0.mk (Kd.R_drew HO_14.out)
       have n1_ := Aside0.mk (Kd.R_drew HO_238000.out)
       have n2_ := Aside0.mk (blk_drew BK237.out)
       have n3_ := Aside0.mk (below_drew1 HB.out)
       clear HO_14
       clear HO_238000
       clear BK237
       clear HB
       have HO_14 := n0_
       have HO_238000 := n1_
       have BK237 := n2_
       have HB := n3_
       clear n0_ n1_ n2_ n3_
       have p245 : 0 ≤ (x16_1 : Int) := of_decide_eq_true (by first | (with_reducible assumption) | assumption)
       have q245 : x16_1 < (t239.length : Int) := of_decide_eq_true (by first | (with_reducible assumption) | assumption)
       obtain ⟨ad245, e245, hx245_0, hx245_1, hx245_2⟩ := at_T49 (Kd.R_reads' HO_14.out).2.2 x16_1 p245 q245
       (try rw [← Nbq19.out] at hx245_2)
       obtain rfl : ad242 = ad245 := (by injection e245)
       replace p245 := eq_true p245
       replace q245 := eq_true q245
       refine start_ (n := 11) (S := fun w' => w'.cell? ⟨gb237, 0, none⟩ = some (.slice Ao14 t230.length co14) ∧ w'.cell? ⟨gb237, 1, none⟩ = some (.int .i64 t233) ∧ w'.cell? (ad242.add ((x16_1).toNat * 3)) = some (.int .i64 ((rd_T49 t239 x16_1).f0)) ∧ w'.cell? ⟨(ad242.add ((x16_1).toNat * 3)).block, (ad242.add ((x16_1).toNat * 3)).off + 1, none⟩ = some (.int .i64 ((rd_T49 t239 x16_1).f1)) ∧ w'.cell? ⟨(ad242.add ((x16_1).toNat * 3)).block, (ad242.add ((x16_1).toNat * 3)).off + 2, none⟩ = some (.bool (false))) (ds := []) #[false, false, false, false, false, false, false, false, false, false, false] (by kernel_rfl) rfl rfl ⟨(blk_cell BK237.out 0).trans rfl, (blk_cell BK237.out 1).trans rfl, hx245_0, hx245_1, hx245_2⟩ (fun hHeld => ?_); refine with_tabW hypercubelaw10_SortsCost.tab12 hypercubelaw10_SortsCost.bits12 (fun HT_ HW_ => ?_)
       generalize wr.drew = w27 at HO_14 HO_238000 BK237 HB hx245_0 hx245_1 hx245_2 hHeld ⊢
       refine pure_ (i := 0) (N := some 55) (v := ?_) (a' := ?_) #[true, false, false, false, false, false, false, false, false, false, false] rfl rfl (any_of HT_.out (by kernel_rfl)) (fun _ _ _ h => h) (Or.inl ⟨by rfl, ?_⟩) ?_ ?_
       rotate_left
       ·intro w'
        go_simp
        with_reducible rfl
       rotate_left
       ·simp only [Act.put, List.setIfInBounds_toArray, List.set_cons_zero, List.set_cons_succ, i64_w, i32_w]
        rfl
       refine pure_ (i := 2) (N := some 57) (v := ?_) (a' := ?_) #[true, false, true, false, false, false, false, false, false, false, false] rfl rfl (any_of HT_.out (by kernel_rfl)) (fun _ _ _ h => h) (Or.inl ⟨by rfl, ?_⟩) ?_ ?_
       rotate_left
       ·intro w'
        go_simp
        with_reducible rfl
       rotate_left
       ·simp only [Act.put, List.setIfInBounds_toArray, List.set_cons_zero, List.set_cons_succ, i64_w, i32_w]
        rfl
       refine pure_ (i := 3) (N := some 58) (v := ?_) (a' := ?_) #[true, false, true, true, false, false, false, false, false, false, false] rfl rfl (any_of HT_.out (by kernel_rfl)) (fun _ _ _ h => h) (Or.inl ⟨by rfl, ?_⟩) ?_ ?_
       rotate_left
       ·intro w'
        go_simp
        with_reducible rfl
       rotate_left
       ·simp only [Act.put, List.setIfInBounds_toArray, List.set_cons_zero, List.set_cons_succ, i64_w, i32_w]
        rfl
       refine pure_ (i := 4) (N := some 59) (v := ?_) (a' := ?_) #[true, false, true, true, true, false, false, false, false, false, false] rfl rfl (any_of HT_.out (by kernel_rfl)) (fun _ _ _ h => h) (Or.inl ⟨by rfl, ?_⟩) ?_ ?_
       rotate_left
       ·intro w'
        go_simp
        with_reducible rfl
       rotate_left
       ·simp only [Act.put, List.setIfInBounds_toArray, List.set_cons_zero, List.set_cons_succ, i64_w, i32_w]
        rfl
       refine pure_ (i := 5) (N := some 60) (v := ?_) (a' := ?_) #[true, false, true, true, true, true, false, false, false, false, false] rfl rfl (any_of HT_.out (by kernel_rfl)) (fun _ _ _ h => h) (Or.inl ⟨by rfl, ?_⟩) ?_ ?_
       rotate_left
       ·intro w'
        go_simp
        with_reducible rfl
       rotate_left
       ·simp only [Act.put, List.setIfInBounds_toArray, List.set_cons_zero, List.set_cons_succ, i64_w, i32_w]
        rfl
       refine pure_ (i := 6) (N := some 61) (v := ?_) (a' := ?_) #[true, false, true, true, true, true, true, false, false, false, false] rfl rfl (any_of HT_.out (by kernel_rfl)) (fun _ _ _ h => h) (Or.inl ⟨by rfl, ?_⟩) ?_ ?_
       rotate_left
       ·intro w'
        go_simp
        with_reducible rfl
       rotate_left
       ·simp only [Act.put, List.setIfInBounds_toArray, List.set_cons_zero, List.set_cons_succ, i64_w, i32_w]
        rfl
       refine take_ (i := 1) (N := some 56) (v := ?_) (a' := ?_) #[true, true, true, true, true, true, true, false, false, false, false] rfl rfl (take_ofW HT_.out HW_.out (by kernel_rfl)) (fun _ _ _ h => h) (Or.inl ⟨by rfl, ?_⟩) hHeld ?_ ?_
       rotate_left
       ·rintro w' ⟨s0, s1, s2, s3, s4⟩
        go_simp
        with_reducible rfl
       rotate_left
       ·simp only [Act.put, List.setIfInBounds_toArray, List.set_cons_zero, List.set_cons_succ, i64_w, i32_w]
        rfl
       refine take_ (i := 7) (N := some 62) (v := ?_) (a' := ?_) #[true, true, true, true, true, true, true, true, false, false, false] rfl rfl (take_ofW HT_.out HW_.out (by kernel_rfl)) (fun _ _ _ h => h) (Or.inl ⟨by rfl, ?_⟩) hHeld ?_ ?_
       rotate_left
       ·rintro w' ⟨s0, s1, s2, s3, s4⟩
        go_simp
        with_reducible rfl
       rotate_left
       ·simp only [Act.put, List.setIfInBounds_toArray, List.set_cons_zero, List.set_cons_succ, i64_w, i32_w]
        rfl
       refine one_ (i := 8) (N := some 63) #[true, true, true, true, true, true, true, true, true, false, false] rfl rfl (one_of HT_.out (by kernel_rfl)) (by decide) (fun K hK => ?_)
       refine goes_ Try.func50 (by kernel_rfl) rfl #[.agg #[.slice Ao14 t230.length co14, .int .i64 t233], .int .i64 (wrap64 (1 + t238)), .int .i64 ((rd_T49 t239 x16_1).f1)] (by rfl) rfl rfl (by (try simp only [List.map_toArray, List.map_cons, List.map_nil]); first | done | rfl | (simp only [List.length_drop, List.length_take]; rfl)) ?_
       with_reducible refine (hypercuberef8_Sort.calls k1 _ _ t230 t233 (wrap64 (1 + t238)) ((rd_T49 t239 x16_1).f1) t246 _ ?side1 ?side2 A25.out).mono ?_
       (case side1 => repeat (first | exact (Kd.R_reads' HO_238000.out).2.2 | (with_reducible refine Kd.C_alloc ?_ _) | (with_reducible refine Kd.C_drewN ?_ _) | (with_reducible refine Kd.C_drew ?_)))
       (case side2 => exact (Kd.R_reads' HO_238000.out).2.1)
       rintro e w28 ⟨rfl, hb⟩
       have HS2_ := (hb.cell (World.block_lt_of_cell? _ _ (hHeld.2.2.1))).trans (hHeld.2.2.1)
       have HS3_ := (hb.cell (World.block_lt_of_cell? _ _ (hHeld.2.2.2.1))).trans (hHeld.2.2.2.1)
       have HS4_ := (hb.cell (World.block_lt_of_cell? _ _ (hHeld.2.2.2.2))).trans (hHeld.2.2.2.2)
       refine ⟨_, rfl, ?_⟩
       have n0_ := Aside0.mk (Kd.R_below (by (with_reducible repeat (first | apply Kd.R_alloc | apply Kd.R_drewN | apply Kd.R_drew)); exact HO_14.out) hb)
       have n1_ := Aside0.mk (Kd.R_below (by (with_reducible repeat (first | apply Kd.R_alloc | apply Kd.R_drewN | apply Kd.R_drew)); exact HO_238000.out) hb)
       have n2_ := Aside0.mk (blk_below (g := gb237) (o := .cells #[.slice Ao14 t230.length co14, .int .i64 t233] 33 (0, 0)) (by (with_reducible repeat (first | refine blk_drewN ?_ _ | refine blk_drew ?_ | refine blk_alloc ?_ _)); exact BK237.out) hb)
       have n3_ := Aside0.mk (below_step (by repeat (first | (with_reducible first | exact HB.out | apply below_alloc | apply pw_below_drewN | apply below_drew1 | refine below_set ?_ GE237.out) | exact HB.out)) hb)
       clear HO_14
       clear HO_238000
       clear BK237
       clear HB
       have HO_14 := n0_
       have HO_238000 := n1_
       have BK237 := n2_
       have HB := n3_
       clear n0_ n1_ n2_ n3_
       (try clear hb)
       (try clear hb2)
       (try clear hk)
       (try clear hi)
       refine hK.out _ _ ⟨(blk_cell BK237.out 0).trans rfl, (blk_cell BK237.out 1).trans rfl, HS2_, HS3_, HS4_⟩ (fun hHeld => ?_)
       clear hK K
       refine norm_ (a' := ?_) ?_ ?_
       rotate_left
       ·show Act.put _ (some 63) _ = _
        simp only [Act.put, List.setIfInBounds_toArray, List.set_cons_zero, List.set_cons_succ, i64_w, i32_w]
        rfl
       refine pure_ (i := 9) (N := some 64) (v := ?_) (a' := ?_) #[true, true, true, true, true, true, true, true, true, true, false] rfl rfl (any_of HT_.out (by kernel_rfl)) (fun _ _ _ h => h) (Or.inl ⟨by rfl, ?_⟩) ?_ ?_
       rotate_left
       ·intro w'
        go_simp
        with_reducible rfl
       rotate_left
       ·simp only [Act.put, List.setIfInBounds_toArray, List.set_cons_zero, List.set_cons_succ, i64_w, i32_w]
        rfl
       refine pure_ (i := 10) (N := some 15) (v := ?_) (a' := ?_) #[true, true, true, true, true, true, true, true, true, true, true] rfl rfl (any_of HT_.out (by kernel_rfl)) (fun _ _ _ h => h) (Or.inl ⟨by rfl, ?_⟩) ?_ ?_
       rotate_left
       ·intro w'
        go_simp
        with_reducible rfl
       rotate_left
       ·simp only [Act.put, List.setIfInBounds_toArray, List.set_cons_zero, List.set_cons_succ, i64_w, i32_w]
        rfl
       refine done_ (done_of HT_.out (by kernel_rfl)) ?_
       try go_wp2
       go_roundg k1
       case measure => have := HK1.out; omega
       case rel => exact ⟨(wrap64 (x15_1 + t246)), (wrap64 (x16_1 + 1)), (by first | rfl | (simp; done) | (simp [*]; done)), (by first | rfl | (simp; done) | (simp [*]; done)), H', ⟨by have := HK1.out; omega⟩, ⟨by (with_reducible repeat (first | apply Kd.R_alloc | apply Kd.R_drewN | apply Kd.R_drew)); exact HO_14.out⟩, ⟨by (with_reducible repeat (first | apply Kd.R_alloc | apply Kd.R_drewN | apply Kd.R_drew)); exact HO_238000.out⟩, ⟨by (with_reducible repeat (first | refine blk_drewN ?_ _ | refine blk_drew ?_ | refine blk_alloc ?_ _)); exact BK237.out⟩, ⟨by repeat (first | (with_reducible first | exact HB.out | apply below_alloc | apply pw_below_drewN | apply below_drew1 | refine below_set ?_ GE237.out) | exact HB.out)⟩⟩
     ·rw [if_neg c18] at H
      exact absurd H (by simp)
    ·rw [if_neg c17] at H
     have c17b0 : decide (x16_1 < (t239.length : Int)) = false := decide_eq_false c17
     clear c17
     replace H := Option.bind_eq_some_iff.mp H
     obtain ⟨t247, A290, H⟩ := H
     replace H : (if t247 = x15_1 then ((hypercubelaw10_within.f a4 (wrap64 ((t239.length : Int) - 1))).bind fun t248 => (if 0 ≤ (wrap64 (1 + t248)) then (if (wrap64 (1 + t248)) < (t239.length : Int) then (if ((rd_T49 t239 (wrap64 (1 + t248))).f2 = true) then ((some (t239.set ((wrap64 (1 + t248)) : Int).toNat (⟨(rd_T49 t239 (wrap64 (1 + t248))).f0, (rd_T49 t239 (wrap64 (1 + t248))).f1, false⟩ : S49) : List (S49))).bind fun y250 => ((sorts_Cost.f t230 t233 (wrap64 (1 + t238)) y250).bind fun t251 => (if t251 > x15_1 then ((sorts_Right.f y250 (t230.length : Int)).bind fun t252 => (some t252)) else (some false)))) else (some true)) else (none)) else (none))) else (some false)) = some r := H
     have A29 := Aside0.mk A290
     clear A290
     by_cases c30 : t247 = x15_1
     ·rw [if_pos c30] at H
      have c30b0 : (t247 == x15_1) = true := beq_iff_eq.mpr c30
      have c30b1 : (t247 != x15_1) = false := bne_eq_false_iff_eq.mpr c30
      clear c30
      replace H := Option.bind_eq_some_iff.mp H
      obtain ⟨t248, A310, H⟩ := H
      replace H : (if 0 ≤ (wrap64 (1 + t248)) then (if (wrap64 (1 + t248)) < (t239.length : Int) then (if ((rd_T49 t239 (wrap64 (1 + t248))).f2 = true) then ((some (t239.set ((wrap64 (1 + t248)) : Int).toNat (⟨(rd_T49 t239 (wrap64 (1 + t248))).f0, (rd_T49 t239 (wrap64 (1 + t248))).f1, false⟩ : S49) : List (S49))).bind fun y250 => ((sorts_Cost.f t230 t233 (wrap64 (1 + t238)) y250).bind fun t251 => (if t251 > x15_1 then ((sorts_Right.f y250 (t230.length : Int)).bind fun t252 => (some t252)) else (some false)))) else (some true)) else (none)) else (none)) = some r := H
      have A31 := Aside0.mk A310
      clear A310
      obtain ⟨ji32, hji32⟩ : ∃ j_ : Int, (wrap64 (1 + t248)) = j_ := ⟨_, rfl⟩
      replace H : (if 0 ≤ (ji32) then (if (ji32) < (t239.length : Int) then (if ((rd_T49 t239 (ji32)).f2 = true) then ((some (t239.set ((ji32) : Int).toNat (⟨(rd_T49 t239 (ji32)).f0, (rd_T49 t239 (ji32)).f1, false⟩ : S49) : List (S49))).bind fun y250 => ((sorts_Cost.f t230 t233 (wrap64 (1 + t238)) y250).bind fun t251 => (if t251 > x15_1 then ((sorts_Right.f y250 (t230.length : Int)).bind fun t252 => (some t252)) else (some false)))) else (some true)) else (none)) else (none)) = some r := by first | (rw [hji32] at H; exact H) | (simp only [hji32] at H ⊢; exact H)
      (try rw [hji32] at A29)
      (try rw [hji32] at A31)
      have hji32w : (IntKind.i64.wrap (1 + t248)) = ji32 := (i64_w _).trans hji32
      by_cases c33 : 0 ≤ (ji32)
      ·rw [if_pos c33] at H
       have c33b0 : decide (0 ≤ (ji32)) = true := decide_eq_true c33
       clear c33
       by_cases c34 : (ji32) < (t239.length : Int)
       ·rw [if_pos c34] at H
        have c34b0 : decide ((ji32) < (t239.length : Int)) = true := decide_eq_true c34
        clear c34
        obtain ⟨bq35, hbq35⟩ : ∃ b_ : Bool, b_ = ((rd_T49 t239 (ji32)).f2) := ⟨_, rfl⟩
        replace H : (if (bq35 = true) then ((some (t239.set ((ji32) : Int).toNat (⟨(rd_T49 t239 (ji32)).f0, (rd_T49 t239 (ji32)).f1, false⟩ : S49) : List (S49))).bind fun y250 => ((sorts_Cost.f t230 t233 (wrap64 (1 + t238)) y250).bind fun t251 => (if t251 > x15_1 then ((sorts_Right.f y250 (t230.length : Int)).bind fun t252 => (some t252)) else (some false)))) else (some true)) = some r := by rw [← hbq35] at H; exact H
        have Nbq35 := Aside0.mk hbq35
        clear hbq35
        by_cases c36 : (bq35 = true)
        ·subst c36
         have H1 : ((some (t239.set ((ji32) : Int).toNat (⟨(rd_T49 t239 (ji32)).f0, (rd_T49 t239 (ji32)).f1, false⟩ : S49) : List (S49))).bind fun y250 => ((sorts_Cost.f t230 t233 (wrap64 (1 + t238)) y250).bind fun t251 => (if t251 > x15_1 then ((sorts_Right.f y250 (t230.length : Int)).bind fun t252 => (some t252)) else (some false)))) = some r := by rw [if_pos rfl] at H; exact H
         clear H
         have H := H1
         clear H1
         obtain ⟨y250, hy250⟩ : ∃ y_ : List (S49), y_ = (t239.set ((ji32) : Int).toNat (⟨(rd_T49 t239 (ji32)).f0, (rd_T49 t239 (ji32)).f1, false⟩ : S49)) := ⟨_, rfl⟩
         replace H : ((sorts_Cost.f t230 t233 (wrap64 (1 + t238)) y250).bind fun t251 => (if t251 > x15_1 then ((sorts_Right.f y250 (t230.length : Int)).bind fun t252 => (some t252)) else (some false))) = some r := by first | (rw [hy250]; with_reducible exact H) | (have H2_ := (Option.bind_some _ _).symm.trans H; rw [hy250]; with_reducible exact H2_) | (have H2_ := (Option.bind_some _ _).symm.trans H; with_reducible exact H2_) | with_reducible exact H | (rw [hy250]; exact H) | exact H
         have Ny250 := Aside0.mk hy250
         clear hy250
         replace H := Option.bind_eq_some_iff.mp H
         obtain ⟨t251, A380, H⟩ := H
         replace H : (if t251 > x15_1 then ((sorts_Right.f y250 (t230.length : Int)).bind fun t252 => (some t252)) else (some false)) = some r := H
         have A38 := Aside0.mk A380
         clear A380
         by_cases c39 : t251 > x15_1
         ·rw [if_pos c39] at H
          have c39b0 : decide (x15_1 < t251) = true := decide_eq_true c39
          clear c39
          replace H := Option.bind_eq_some_iff.mp H
          obtain ⟨t252, A400, H⟩ := H
          replace H : (some t252) = some r := H
          have A40 := Aside0.mk A400
          clear A400
          obtain rfl := Option.some.inj H
          obtain ⟨Ao41, co41, eo41⟩ := Kd.R_slice HO_14.out
          subst eo41
          have hcz42_0 : wr.cell? ⟨gb237, 0, none⟩ = some (.slice Ao14 t230.length co14) := (blk_cell BK237.out 0).trans rfl
          have hcz42_1 : wr.cell? ⟨gb237, 1, none⟩ = some (.int .i64 t233) := (blk_cell BK237.out 1).trans rfl
          have hfz42_0 := blk_frozen BK237.out 0
          have hfz42_1 := blk_frozen BK237.out 1
          go_wp2_with (first | ((with_reducible refine gate_callee (f := 56) rfl ?_); refine goesL_ (some 68) rfl rfl Try.func56 (by kernel_rfl) rfl #[.agg #[.slice Ao14 t230.length co14, .int .i64 t233], .int .i64 (wrap64 (1 + t238)), .slice Ao41 t239.length co41] rfl (by (try simp only [List.map_toArray, List.map_cons, List.map_nil]); first | done | rfl | (simp only [List.length_drop, List.length_take]; rfl)) ?_; (with_reducible refine (sorts_Cost.calls _ _ t230 t233 (wrap64 (1 + t238)) _ _ t239 t247 _ ?side1 ?side2 ?side3 ?side4 A29.out).mono ?_); (case side1 => repeat (first | exact (Kd.R_reads' HO_238000.out).2.2 | (with_reducible refine Kd.C_alloc ?_ _) | (with_reducible refine Kd.C_drewN ?_ _) | (with_reducible refine Kd.C_drew ?_))); (case side2 => exact (Kd.R_reads' HO_238000.out).2.1); (case side3 => repeat (first | exact (Kd.R_reads' HO_14.out).2.2 | (with_reducible refine Kd.C_alloc ?_ _) | (with_reducible refine Kd.C_drewN ?_ _) | (with_reducible refine Kd.C_drew ?_))); (case side4 => exact (Kd.R_reads' HO_14.out).2.1); rintro e w43 ⟨rfl, hb⟩; refine ⟨_, rfl, ?_⟩; have n0_ := Aside0.mk (Kd.R_below (by (with_reducible repeat (first | apply Kd.R_alloc | apply Kd.R_drewN | apply Kd.R_drew)); exact HO_14.out) hb); have n1_ := Aside0.mk (Kd.R_below (by (with_reducible repeat (first | apply Kd.R_alloc | apply Kd.R_drewN | apply Kd.R_drew)); exact HO_238000.out) hb); have n2_ := Aside0.mk (blk_below (g := gb237) (o := .cells #[.slice Ao14 t230.length co14, .int .i64 t233] 33 (0, 0)) (by (with_reducible repeat (first | refine blk_drewN ?_ _ | refine blk_drew ?_ | refine blk_alloc ?_ _)); exact BK237.out) hb); have n3_ := Aside0.mk (below_step (by repeat (first | (with_reducible first | exact HB.out | apply below_alloc | apply pw_below_drewN | apply below_drew1 | refine below_set ?_ GE237.out) | exact HB.out)) hb); clear HO_14; clear HO_238000; clear BK237; clear HB; have HO_14 := n0_; have HO_238000 := n1_; have BK237 := n2_; have HB := n3_; clear n0_ n1_ n2_ n3_; (try clear hb); (try clear hb2); (try clear hk); (try clear hi)) | ((with_reducible refine gate_callee (f := 52) rfl ?_); refine goesL_ (some 75) rfl rfl Try.func52 (by kernel_rfl) rfl #[.int .i64 a4, .int .i64 (wrap64 ((t239.length : Int) - 1))] rfl (by (try simp only [List.map_toArray, List.map_cons, List.map_nil]); first | done | rfl | (simp only [List.length_drop, List.length_take]; rfl)) ?_; (with_reducible refine (hypercubelaw10_within.calls a4 (wrap64 ((t239.length : Int) - 1)) t248 _ A31.out).mono ?_); rintro e w' ⟨rfl, ⟨nd, rfl⟩⟩; refine ⟨_, rfl, ?_⟩; (try (rw [drewN_self w43]; generalize hq_ : World.drewN w43 _ = w43; have n0_ : Aside0 (Kd.R k49 49 w43 w.heap.size (fun _ => True) (.slice Ao41 t239.length co41) t239) := ⟨by rw [← hq_]; exact (by (with_reducible repeat (first | apply Kd.R_alloc | apply Kd.R_drewN | apply Kd.R_drew)); exact HO_14.out)⟩; have n1_ : Aside0 (Kd.R (Kd.int .i64) 3 w43 w.heap.size (fun _ => True) (.slice Ao14 t230.length co14) t230) := ⟨by rw [← hq_]; exact (by (with_reducible repeat (first | apply Kd.R_alloc | apply Kd.R_drewN | apply Kd.R_drew)); exact HO_238000.out)⟩; have n2_ : Aside0 (w43.heap[gb237]? = some (.cells #[.slice Ao14 t230.length co14, .int .i64 t233] 33 (0, 0))) := ⟨by rw [← hq_]; exact (by (with_reducible repeat (first | refine blk_drewN ?_ _ | refine blk_drew ?_ | refine blk_alloc ?_ _)); exact BK237.out)⟩; have n3_ : Aside0 (Below w.heap.size w w43) := ⟨by rw [← hq_]; exact (by repeat (first | (with_reducible first | exact HB.out | apply below_alloc | apply pw_below_drewN | apply below_drew1 | refine below_set ?_ GE237.out) | exact HB.out))⟩; clear HO_14 HO_238000 BK237 HB hq_; have HO_14 := n0_; have HO_238000 := n1_; have BK237 := n2_; have HB := n3_; clear n0_ n1_ n2_ n3_)); have p249 : 0 ≤ ((ji32) : Int) := of_decide_eq_true (by first | (with_reducible assumption) | assumption); have q249 : (ji32) < (t239.length : Int) := of_decide_eq_true (by first | (with_reducible assumption) | assumption); obtain ⟨ad249, e249, hx249_0, hx249_1, hx249_2⟩ := at_T49 (Kd.R_reads' HO_14.out).2.2 (ji32) p249 q249; (try rw [← Nbq35.out] at hx249_2); cases e249; replace p249 := eq_true p249; replace q249 := eq_true q249; have p37 : 0 ≤ ((ji32) : Int) := of_decide_eq_true (by first | (with_reducible assumption) | assumption); have q37 : ((ji32) : Int) < ((t239.length : Int) : Int) := of_decide_eq_true (by first | (with_reducible assumption) | assumption); obtain ⟨go37, co37, eo37, gb37, gl37, cl37, HG37⟩ := Kd.R_form HO_14.out (by omega); (first | cases eo37 | (injection eo37 with ea_ en_ ec_; (first | subst ea_ | (injection ea_ with ea_; subst ea_)); subst ec_; clear en_)); have GB37 := Aside0.mk gb37; have GG37 := Aside0.mk HG37; clear gb37 gl37 HG37; (first | simp only [add_plain] at hx249_0 | skip); (first | simp only [add_plain] at hx249_1 | skip); (first | simp only [add_plain] at hx249_2 | skip); obtain ⟨ce37, hcl37, hM37, hcc37, hfr37⟩ := Kd.R_elem HO_14.out z49 ((ji32) : Int) p37 q37; obtain rfl := k49_openM hM37; have hx37_0 : w43.cell? ⟨go37, ((ji32) : Int).toNat * 3, none⟩ = some (.int .i64 ((rd_T49 t239 (ji32)).f0)) := hcc37 0 _ rfl; have hx37_1 : w43.cell? ⟨go37, ((ji32) : Int).toNat * 3 + 1, none⟩ = some (.int .i64 ((rd_T49 t239 (ji32)).f1)) := hcc37 1 _ rfl; have hx37_2 : w43.cell? ⟨go37, ((ji32) : Int).toNat * 3 + 2, none⟩ = some (.bool ((rd_T49 t239 (ji32)).f2)) := hcc37 2 _ rfl; have hf37_0 : w43.frozen? ⟨go37, ((ji32) : Int).toNat * 3, none⟩ = false := hfr37 0; have hf37_1 : w43.frozen? ⟨go37, ((ji32) : Int).toNat * 3 + 1, none⟩ = false := hfr37 1; have hf37_2 : w43.frozen? ⟨go37, ((ji32) : Int).toNat * 3 + 2, none⟩ = false := hfr37 2; clear hcl37 hcc37 hfr37 hM37; replace p37 := eq_true p37; replace q37 := eq_true q37; have HX44 := Aside0.mk (show Kd.R k49 49 w43 w.heap.size (fun _ => True) (.slice (some ⟨go37, 0, none⟩) t239.length co41) t239 from (by (with_reducible repeat (first | apply Kd.R_alloc | apply Kd.R_drewN | apply Kd.R_drew)); exact HO_14.out)); obtain ⟨ce44, hcl44, hM44, hcc44, hfr44⟩ := Kd.R_elem HX44.out z49 ((ji32) : Int) (of_decide_eq_true (by first | (with_reducible assumption) | assumption)) (by have h_ : ((ji32) : Int) < ((t239.length : Int) : Int) := of_decide_eq_true (by first | (with_reducible assumption) | assumption); first | exact h_ | (have e_ := (Kd.R_reads' HO_14.out).1; omega) | simpa using h_); obtain rfl := k49_openM hM44; have HP44 := Kd.R_seg HX44.out ((ji32) : Int) (of_decide_eq_true (by first | (with_reducible assumption) | assumption)) (by have h_ : ((ji32) : Int) < ((t239.length : Int) : Int) := of_decide_eq_true (by first | (with_reducible assumption) | assumption); first | exact h_ | (have e_ := (Kd.R_reads' HO_14.out).1; omega) | simpa using h_) (seg := [.bool false]) (j := 2) hcl44 hcc44 (show 3 ≤ 3 from by decide) (x' := (⟨(rd_T49 t239 (ji32)).f0, (rd_T49 t239 (ji32)).f1, false⟩ : S49)) (k49_mkM _ _ _ (⟨(rd_T49 t239 (ji32)).f0, (rd_T49 t239 (ji32)).f1, false⟩ : S49) ) (fun _ hk => hk); have hx44_2 := hcc44 2 _ rfl; (try simp only [show (k49).sz = 3 from rfl, Nat.mul_one, Nat.add_zero] at hx44_2); have hf44_2 := hfr44 2; (try simp only [show (k49).sz = 3 from rfl, Nat.mul_one, Nat.add_zero] at hf44_2); clear hcl44 hcc44 hfr44 hM44) | ((with_reducible refine gate_store (t := 4) (p := 86) rfl ?_); refine store_event (t := 4) (p := 86) (v := ?vo_w45) (w1 := (w43.setCell ⟨go37, ((ji32) : Int).toNat * 3 + 2, none⟩ (.bool false))) ?hg ?ho ?hn ?hr ?_; (case ho => rfl); (case hg => rfl); (case hn => rfl); (case hr => first | (go_simp; done) | (go_simp; rfl)); intro w45 hw; have hg : w43.grownBy w45 (some go37) := (by rw [hw]; exact HP44.2); have hp_ : Kd.R k49 49 w45 w.heap.size (fun _ => True) (.slice (some ⟨go37, 0, none⟩) t239.length co41) y250 := (by rw [hw, Ny250.out]; exact HP44.1); clear HP44; have n0_ := Aside0.mk (hp_); have n1_ := Aside0.mk (Kd.R_over' (v := (.slice (some ⟨go37, 0, none⟩) t239.length co41)) (by (with_reducible repeat (first | apply Kd.R_alloc | apply Kd.R_drewN | apply Kd.R_drew)); exact HO_238000.out) (Kd.R_typed HO_14.out) (by decide) hg); have n2_ := Aside0.mk (blk_grown (g := gb237) (o := .cells #[.slice Ao14 t230.length co14, .int .i64 t233] 33 (0, 0)) (by (with_reducible repeat (first | refine blk_drewN ?_ _ | refine blk_drew ?_ | refine blk_alloc ?_ _)); exact BK237.out) hg (Kd.R_ne HO_14.out BK237.out (by decide))); have n3_ := Aside0.mk ((by rw [hw]; exact below_set (HB.out) GB37.out : Below w.heap.size w w45)); clear HO_14; clear HO_238000; clear BK237; clear HB; have HO_14 := n0_; have HO_238000 := n1_; have BK237 := n2_; have HB := n3_; clear n0_ n1_ n2_ n3_; clear hg hw hp_; have hcz46_0 : w45.cell? ⟨gb237, 0, none⟩ = some (.slice Ao14 t230.length co14) := (blk_cell BK237.out 0).trans rfl; have hcz46_1 : w45.cell? ⟨gb237, 1, none⟩ = some (.int .i64 t233) := (blk_cell BK237.out 1).trans rfl; have hfz46_0 := blk_frozen BK237.out 0; have hfz46_1 := blk_frozen BK237.out 1) | ((with_reducible refine gate_callee (f := 56) rfl ?_); refine goesL_ (some 90) rfl rfl Try.func56 (by kernel_rfl) rfl #[.agg #[.slice Ao14 t230.length co14, .int .i64 t233], .int .i64 (wrap64 (1 + t238)), .slice (some ⟨go37, 0, none⟩) y250.length co41] rfl (by (try simp only [List.map_toArray, List.map_cons, List.map_nil]); first | done | (rw [show y250.length = t239.length from (Kd.R_reads' HO_14.out).1.symm] <;> rfl) | rfl | (simp only [List.length_drop, List.length_take]; rfl)) ?_; (with_reducible refine (sorts_Cost.calls _ _ t230 t233 (wrap64 (1 + t238)) _ _ y250 t251 _ ?side1 ?side2 ?side3 ?side4 A38.out).mono ?_); (case side1 => repeat (first | exact (Kd.R_reads' HO_238000.out).2.2 | (with_reducible refine Kd.C_alloc ?_ _) | (with_reducible refine Kd.C_drewN ?_ _) | (with_reducible refine Kd.C_drew ?_))); (case side2 => exact (Kd.R_reads' HO_238000.out).2.1); (case side3 => repeat (first | exact (Kd.R_reads' HO_14.out).2.2 | (with_reducible refine Kd.C_alloc ?_ _) | (with_reducible refine Kd.C_drewN ?_ _) | (with_reducible refine Kd.C_drew ?_))); (case side4 => rw [show y250.length = t239.length from (Kd.R_reads' HO_14.out).1.symm]; exact (Kd.R_reads' HO_14.out).2.1); rintro e w47 ⟨rfl, hb⟩; refine ⟨_, rfl, ?_⟩; have n0_ := Aside0.mk (Kd.R_below (by (with_reducible repeat (first | apply Kd.R_alloc | apply Kd.R_drewN | apply Kd.R_drew)); exact HO_14.out) hb); have n1_ := Aside0.mk (Kd.R_below (by (with_reducible repeat (first | apply Kd.R_alloc | apply Kd.R_drewN | apply Kd.R_drew)); exact HO_238000.out) hb); have n2_ := Aside0.mk (blk_below (g := gb237) (o := .cells #[.slice Ao14 t230.length co14, .int .i64 t233] 33 (0, 0)) (by (with_reducible repeat (first | refine blk_drewN ?_ _ | refine blk_drew ?_ | refine blk_alloc ?_ _)); exact BK237.out) hb); have n3_ := Aside0.mk (below_step (by repeat (first | (with_reducible first | exact HB.out | apply below_alloc | apply pw_below_drewN | apply below_drew1 | refine below_set ?_ GE237.out) | exact HB.out)) hb); clear HO_14; clear HO_238000; clear BK237; clear HB; have HO_14 := n0_; have HO_238000 := n1_; have BK237 := n2_; have HB := n3_; clear n0_ n1_ n2_ n3_; (try clear hb); (try clear hb2); (try clear hk); (try clear hi); have hcz48_0 : w47.cell? ⟨gb237, 0, none⟩ = some (.slice Ao14 t230.length co14) := (blk_cell BK237.out 0).trans rfl; have hcz48_1 : w47.cell? ⟨gb237, 1, none⟩ = some (.int .i64 t233) := (blk_cell BK237.out 1).trans rfl; have hfz48_0 := blk_frozen BK237.out 0; have hfz48_1 := blk_frozen BK237.out 1) | (go_at_call 54; refine calls_of_args (args' := #[.slice (some ⟨go37, 0, none⟩) y250.length co41, .int .i64 (t230.length : Int)]) (by first | (rw [show y250.length = t239.length from (Kd.R_reads' HO_14.out).1.symm] <;> rfl) | rfl) ?_; (with_reducible refine (sorts_Right.calls _ _ y250 (t230.length : Int) t252 _ ?side1 ?side2 A40.out).mono ?_); (case side1 => repeat (first | exact (Kd.R_reads' HO_14.out).2.2 | (with_reducible refine Kd.C_alloc ?_ _) | (with_reducible refine Kd.C_drewN ?_ _) | (with_reducible refine Kd.C_drew ?_))); (case side2 => rw [show y250.length = t239.length from (Kd.R_reads' HO_14.out).1.symm]; exact (Kd.R_reads' HO_14.out).2.1); rintro e w49 ⟨rfl, hb⟩; have n0_ := Aside0.mk (Kd.R_below (by (with_reducible repeat (first | apply Kd.R_alloc | apply Kd.R_drewN | apply Kd.R_drew)); exact HO_14.out) hb); have n1_ := Aside0.mk (Kd.R_below (by (with_reducible repeat (first | apply Kd.R_alloc | apply Kd.R_drewN | apply Kd.R_drew)); exact HO_238000.out) hb); have n2_ := Aside0.mk (blk_below (g := gb237) (o := .cells #[.slice Ao14 t230.length co14, .int .i64 t233] 33 (0, 0)) (by (with_reducible repeat (first | refine blk_drewN ?_ _ | refine blk_drew ?_ | refine blk_alloc ?_ _)); exact BK237.out) hb); have n3_ := Aside0.mk (below_step (by repeat (first | (with_reducible first | exact HB.out | apply below_alloc | apply pw_below_drewN | apply below_drew1 | refine below_set ?_ GE237.out) | exact HB.out)) hb); clear HO_14; clear HO_238000; clear BK237; clear HB; have HO_14 := n0_; have HO_238000 := n1_; have BK237 := n2_; have HB := n3_; clear n0_ n1_ n2_ n3_; (try clear hb); (try clear hb2); (try clear hk); (try clear hi)))
          go_ret
          exact ⟨by first | rfl | (simp [errW_none, errW_some] <;> rfl) | (simp only [← hji32]; first | rfl | (simp [errW_none, errW_some] <;> rfl)) | (simp [*, errW_none, errW_some] <;> rfl), by repeat (first | (with_reducible first | exact HB.out | apply below_alloc | apply pw_below_drewN | apply below_drew1 | refine below_set ?_ GE237.out) | exact HB.out)⟩
         ·rw [if_neg c39] at H
          have c39b0 : decide (x15_1 < t251) = false := decide_eq_false c39
          clear c39
          obtain rfl := Option.some.inj H
          obtain ⟨Ao50, co50, eo50⟩ := Kd.R_slice HO_14.out
          subst eo50
          have hcz51_0 : wr.cell? ⟨gb237, 0, none⟩ = some (.slice Ao14 t230.length co14) := (blk_cell BK237.out 0).trans rfl
          have hcz51_1 : wr.cell? ⟨gb237, 1, none⟩ = some (.int .i64 t233) := (blk_cell BK237.out 1).trans rfl
          have hfz51_0 := blk_frozen BK237.out 0
          have hfz51_1 := blk_frozen BK237.out 1
          go_wp2_with (first | ((with_reducible refine gate_callee (f := 56) rfl ?_); refine goesL_ (some 68) rfl rfl Try.func56 (by kernel_rfl) rfl #[.agg #[.slice Ao14 t230.length co14, .int .i64 t233], .int .i64 (wrap64 (1 + t238)), .slice Ao50 t239.length co50] rfl (by (try simp only [List.map_toArray, List.map_cons, List.map_nil]); first | done | rfl | (simp only [List.length_drop, List.length_take]; rfl)) ?_; (with_reducible refine (sorts_Cost.calls _ _ t230 t233 (wrap64 (1 + t238)) _ _ t239 t247 _ ?side1 ?side2 ?side3 ?side4 A29.out).mono ?_); (case side1 => repeat (first | exact (Kd.R_reads' HO_238000.out).2.2 | (with_reducible refine Kd.C_alloc ?_ _) | (with_reducible refine Kd.C_drewN ?_ _) | (with_reducible refine Kd.C_drew ?_))); (case side2 => exact (Kd.R_reads' HO_238000.out).2.1); (case side3 => repeat (first | exact (Kd.R_reads' HO_14.out).2.2 | (with_reducible refine Kd.C_alloc ?_ _) | (with_reducible refine Kd.C_drewN ?_ _) | (with_reducible refine Kd.C_drew ?_))); (case side4 => exact (Kd.R_reads' HO_14.out).2.1); rintro e w52 ⟨rfl, hb⟩; refine ⟨_, rfl, ?_⟩; have n0_ := Aside0.mk (Kd.R_below (by (with_reducible repeat (first | apply Kd.R_alloc | apply Kd.R_drewN | apply Kd.R_drew)); exact HO_14.out) hb); have n1_ := Aside0.mk (Kd.R_below (by (with_reducible repeat (first | apply Kd.R_alloc | apply Kd.R_drewN | apply Kd.R_drew)); exact HO_238000.out) hb); have n2_ := Aside0.mk (blk_below (g := gb237) (o := .cells #[.slice Ao14 t230.length co14, .int .i64 t233] 33 (0, 0)) (by (with_reducible repeat (first | refine blk_drewN ?_ _ | refine blk_drew ?_ | refine blk_alloc ?_ _)); exact BK237.out) hb); have n3_ := Aside0.mk (below_step (by repeat (first | (with_reducible first | exact HB.out | apply below_alloc | apply pw_below_drewN | apply below_drew1 | refine below_set ?_ GE237.out) | exact HB.out)) hb); clear HO_14; clear HO_238000; clear BK237; clear HB; have HO_14 := n0_; have HO_238000 := n1_; have BK237 := n2_; have HB := n3_; clear n0_ n1_ n2_ n3_; (try clear hb); (try clear hb2); (try clear hk); (try clear hi)) | ((with_reducible refine gate_callee (f := 52) rfl ?_); refine goesL_ (some 75) rfl rfl Try.func52 (by kernel_rfl) rfl #[.int .i64 a4, .int .i64 (wrap64 ((t239.length : Int) - 1))] rfl (by (try simp only [List.map_toArray, List.map_cons, List.map_nil]); first | done | rfl | (simp only [List.length_drop, List.length_take]; rfl)) ?_; (with_reducible refine (hypercubelaw10_within.calls a4 (wrap64 ((t239.length : Int) - 1)) t248 _ A31.out).mono ?_); rintro e w' ⟨rfl, ⟨nd, rfl⟩⟩; refine ⟨_, rfl, ?_⟩; (try (rw [drewN_self w52]; generalize hq_ : World.drewN w52 _ = w52; have n0_ : Aside0 (Kd.R k49 49 w52 w.heap.size (fun _ => True) (.slice Ao50 t239.length co50) t239) := ⟨by rw [← hq_]; exact (by (with_reducible repeat (first | apply Kd.R_alloc | apply Kd.R_drewN | apply Kd.R_drew)); exact HO_14.out)⟩; have n1_ : Aside0 (Kd.R (Kd.int .i64) 3 w52 w.heap.size (fun _ => True) (.slice Ao14 t230.length co14) t230) := ⟨by rw [← hq_]; exact (by (with_reducible repeat (first | apply Kd.R_alloc | apply Kd.R_drewN | apply Kd.R_drew)); exact HO_238000.out)⟩; have n2_ : Aside0 (w52.heap[gb237]? = some (.cells #[.slice Ao14 t230.length co14, .int .i64 t233] 33 (0, 0))) := ⟨by rw [← hq_]; exact (by (with_reducible repeat (first | refine blk_drewN ?_ _ | refine blk_drew ?_ | refine blk_alloc ?_ _)); exact BK237.out)⟩; have n3_ : Aside0 (Below w.heap.size w w52) := ⟨by rw [← hq_]; exact (by repeat (first | (with_reducible first | exact HB.out | apply below_alloc | apply pw_below_drewN | apply below_drew1 | refine below_set ?_ GE237.out) | exact HB.out))⟩; clear HO_14 HO_238000 BK237 HB hq_; have HO_14 := n0_; have HO_238000 := n1_; have BK237 := n2_; have HB := n3_; clear n0_ n1_ n2_ n3_)); have p249 : 0 ≤ ((ji32) : Int) := of_decide_eq_true (by first | (with_reducible assumption) | assumption); have q249 : (ji32) < (t239.length : Int) := of_decide_eq_true (by first | (with_reducible assumption) | assumption); obtain ⟨ad249, e249, hx249_0, hx249_1, hx249_2⟩ := at_T49 (Kd.R_reads' HO_14.out).2.2 (ji32) p249 q249; (try rw [← Nbq35.out] at hx249_2); cases e249; replace p249 := eq_true p249; replace q249 := eq_true q249; have p37 : 0 ≤ ((ji32) : Int) := of_decide_eq_true (by first | (with_reducible assumption) | assumption); have q37 : ((ji32) : Int) < ((t239.length : Int) : Int) := of_decide_eq_true (by first | (with_reducible assumption) | assumption); obtain ⟨go37, co37, eo37, gb37, gl37, cl37, HG37⟩ := Kd.R_form HO_14.out (by omega); (first | cases eo37 | (injection eo37 with ea_ en_ ec_; (first | subst ea_ | (injection ea_ with ea_; subst ea_)); subst ec_; clear en_)); have GB37 := Aside0.mk gb37; have GG37 := Aside0.mk HG37; clear gb37 gl37 HG37; (first | simp only [add_plain] at hx249_0 | skip); (first | simp only [add_plain] at hx249_1 | skip); (first | simp only [add_plain] at hx249_2 | skip); obtain ⟨ce37, hcl37, hM37, hcc37, hfr37⟩ := Kd.R_elem HO_14.out z49 ((ji32) : Int) p37 q37; obtain rfl := k49_openM hM37; have hx37_0 : w52.cell? ⟨go37, ((ji32) : Int).toNat * 3, none⟩ = some (.int .i64 ((rd_T49 t239 (ji32)).f0)) := hcc37 0 _ rfl; have hx37_1 : w52.cell? ⟨go37, ((ji32) : Int).toNat * 3 + 1, none⟩ = some (.int .i64 ((rd_T49 t239 (ji32)).f1)) := hcc37 1 _ rfl; have hx37_2 : w52.cell? ⟨go37, ((ji32) : Int).toNat * 3 + 2, none⟩ = some (.bool ((rd_T49 t239 (ji32)).f2)) := hcc37 2 _ rfl; have hf37_0 : w52.frozen? ⟨go37, ((ji32) : Int).toNat * 3, none⟩ = false := hfr37 0; have hf37_1 : w52.frozen? ⟨go37, ((ji32) : Int).toNat * 3 + 1, none⟩ = false := hfr37 1; have hf37_2 : w52.frozen? ⟨go37, ((ji32) : Int).toNat * 3 + 2, none⟩ = false := hfr37 2; clear hcl37 hcc37 hfr37 hM37; replace p37 := eq_true p37; replace q37 := eq_true q37; have HX53 := Aside0.mk (show Kd.R k49 49 w52 w.heap.size (fun _ => True) (.slice (some ⟨go37, 0, none⟩) t239.length co50) t239 from (by (with_reducible repeat (first | apply Kd.R_alloc | apply Kd.R_drewN | apply Kd.R_drew)); exact HO_14.out)); obtain ⟨ce53, hcl53, hM53, hcc53, hfr53⟩ := Kd.R_elem HX53.out z49 ((ji32) : Int) (of_decide_eq_true (by first | (with_reducible assumption) | assumption)) (by have h_ : ((ji32) : Int) < ((t239.length : Int) : Int) := of_decide_eq_true (by first | (with_reducible assumption) | assumption); first | exact h_ | (have e_ := (Kd.R_reads' HO_14.out).1; omega) | simpa using h_); obtain rfl := k49_openM hM53; have HP53 := Kd.R_seg HX53.out ((ji32) : Int) (of_decide_eq_true (by first | (with_reducible assumption) | assumption)) (by have h_ : ((ji32) : Int) < ((t239.length : Int) : Int) := of_decide_eq_true (by first | (with_reducible assumption) | assumption); first | exact h_ | (have e_ := (Kd.R_reads' HO_14.out).1; omega) | simpa using h_) (seg := [.bool false]) (j := 2) hcl53 hcc53 (show 3 ≤ 3 from by decide) (x' := (⟨(rd_T49 t239 (ji32)).f0, (rd_T49 t239 (ji32)).f1, false⟩ : S49)) (k49_mkM _ _ _ (⟨(rd_T49 t239 (ji32)).f0, (rd_T49 t239 (ji32)).f1, false⟩ : S49) ) (fun _ hk => hk); have hx53_2 := hcc53 2 _ rfl; (try simp only [show (k49).sz = 3 from rfl, Nat.mul_one, Nat.add_zero] at hx53_2); have hf53_2 := hfr53 2; (try simp only [show (k49).sz = 3 from rfl, Nat.mul_one, Nat.add_zero] at hf53_2); clear hcl53 hcc53 hfr53 hM53) | ((with_reducible refine gate_store (t := 4) (p := 86) rfl ?_); refine store_event (t := 4) (p := 86) (v := ?vo_w54) (w1 := (w52.setCell ⟨go37, ((ji32) : Int).toNat * 3 + 2, none⟩ (.bool false))) ?hg ?ho ?hn ?hr ?_; (case ho => rfl); (case hg => rfl); (case hn => rfl); (case hr => first | (go_simp; done) | (go_simp; rfl)); intro w54 hw; have hg : w52.grownBy w54 (some go37) := (by rw [hw]; exact HP53.2); have hp_ : Kd.R k49 49 w54 w.heap.size (fun _ => True) (.slice (some ⟨go37, 0, none⟩) t239.length co50) y250 := (by rw [hw, Ny250.out]; exact HP53.1); clear HP53; have n0_ := Aside0.mk (hp_); have n1_ := Aside0.mk (Kd.R_over' (v := (.slice (some ⟨go37, 0, none⟩) t239.length co50)) (by (with_reducible repeat (first | apply Kd.R_alloc | apply Kd.R_drewN | apply Kd.R_drew)); exact HO_238000.out) (Kd.R_typed HO_14.out) (by decide) hg); have n2_ := Aside0.mk (blk_grown (g := gb237) (o := .cells #[.slice Ao14 t230.length co14, .int .i64 t233] 33 (0, 0)) (by (with_reducible repeat (first | refine blk_drewN ?_ _ | refine blk_drew ?_ | refine blk_alloc ?_ _)); exact BK237.out) hg (Kd.R_ne HO_14.out BK237.out (by decide))); have n3_ := Aside0.mk ((by rw [hw]; exact below_set (HB.out) GB37.out : Below w.heap.size w w54)); clear HO_14; clear HO_238000; clear BK237; clear HB; have HO_14 := n0_; have HO_238000 := n1_; have BK237 := n2_; have HB := n3_; clear n0_ n1_ n2_ n3_; clear hg hw hp_; have hcz55_0 : w54.cell? ⟨gb237, 0, none⟩ = some (.slice Ao14 t230.length co14) := (blk_cell BK237.out 0).trans rfl; have hcz55_1 : w54.cell? ⟨gb237, 1, none⟩ = some (.int .i64 t233) := (blk_cell BK237.out 1).trans rfl; have hfz55_0 := blk_frozen BK237.out 0; have hfz55_1 := blk_frozen BK237.out 1) | ((with_reducible refine gate_callee (f := 56) rfl ?_); refine goesL_ (some 90) rfl rfl Try.func56 (by kernel_rfl) rfl #[.agg #[.slice Ao14 t230.length co14, .int .i64 t233], .int .i64 (wrap64 (1 + t238)), .slice (some ⟨go37, 0, none⟩) y250.length co50] rfl (by (try simp only [List.map_toArray, List.map_cons, List.map_nil]); first | done | (rw [show y250.length = t239.length from (Kd.R_reads' HO_14.out).1.symm] <;> rfl) | rfl | (simp only [List.length_drop, List.length_take]; rfl)) ?_; (with_reducible refine (sorts_Cost.calls _ _ t230 t233 (wrap64 (1 + t238)) _ _ y250 t251 _ ?side1 ?side2 ?side3 ?side4 A38.out).mono ?_); (case side1 => repeat (first | exact (Kd.R_reads' HO_238000.out).2.2 | (with_reducible refine Kd.C_alloc ?_ _) | (with_reducible refine Kd.C_drewN ?_ _) | (with_reducible refine Kd.C_drew ?_))); (case side2 => exact (Kd.R_reads' HO_238000.out).2.1); (case side3 => repeat (first | exact (Kd.R_reads' HO_14.out).2.2 | (with_reducible refine Kd.C_alloc ?_ _) | (with_reducible refine Kd.C_drewN ?_ _) | (with_reducible refine Kd.C_drew ?_))); (case side4 => rw [show y250.length = t239.length from (Kd.R_reads' HO_14.out).1.symm]; exact (Kd.R_reads' HO_14.out).2.1); rintro e w56 ⟨rfl, hb⟩; refine ⟨_, rfl, ?_⟩; have n0_ := Aside0.mk (Kd.R_below (by (with_reducible repeat (first | apply Kd.R_alloc | apply Kd.R_drewN | apply Kd.R_drew)); exact HO_14.out) hb); have n1_ := Aside0.mk (Kd.R_below (by (with_reducible repeat (first | apply Kd.R_alloc | apply Kd.R_drewN | apply Kd.R_drew)); exact HO_238000.out) hb); have n2_ := Aside0.mk (blk_below (g := gb237) (o := .cells #[.slice Ao14 t230.length co14, .int .i64 t233] 33 (0, 0)) (by (with_reducible repeat (first | refine blk_drewN ?_ _ | refine blk_drew ?_ | refine blk_alloc ?_ _)); exact BK237.out) hb); have n3_ := Aside0.mk (below_step (by repeat (first | (with_reducible first | exact HB.out | apply below_alloc | apply pw_below_drewN | apply below_drew1 | refine below_set ?_ GE237.out) | exact HB.out)) hb); clear HO_14; clear HO_238000; clear BK237; clear HB; have HO_14 := n0_; have HO_238000 := n1_; have BK237 := n2_; have HB := n3_; clear n0_ n1_ n2_ n3_; (try clear hb); (try clear hb2); (try clear hk); (try clear hi)))
          go_ret
          exact ⟨by first | rfl | (simp [errW_none, errW_some] <;> rfl) | (simp only [← hji32]; first | rfl | (simp [errW_none, errW_some] <;> rfl)) | (simp [*, errW_none, errW_some] <;> rfl), by repeat (first | (with_reducible first | exact HB.out | apply below_alloc | apply pw_below_drewN | apply below_drew1 | refine below_set ?_ GE237.out) | exact HB.out)⟩
        ·replace c36 := Bool.eq_false_iff.mpr c36
         subst c36
         have H1 : (some true) = some r := by rw [if_neg (show ¬ (false = true) by decide)] at H; exact H
         clear H
         have H := H1
         clear H1
         obtain rfl := Option.some.inj H
         obtain ⟨Ao57, co57, eo57⟩ := Kd.R_slice HO_14.out
         subst eo57
         have hcz58_0 : wr.cell? ⟨gb237, 0, none⟩ = some (.slice Ao14 t230.length co14) := (blk_cell BK237.out 0).trans rfl
         have hcz58_1 : wr.cell? ⟨gb237, 1, none⟩ = some (.int .i64 t233) := (blk_cell BK237.out 1).trans rfl
         have hfz58_0 := blk_frozen BK237.out 0
         have hfz58_1 := blk_frozen BK237.out 1
         go_wp2_with (first | ((with_reducible refine gate_callee (f := 56) rfl ?_); refine goesL_ (some 68) rfl rfl Try.func56 (by kernel_rfl) rfl #[.agg #[.slice Ao14 t230.length co14, .int .i64 t233], .int .i64 (wrap64 (1 + t238)), .slice Ao57 t239.length co57] rfl (by (try simp only [List.map_toArray, List.map_cons, List.map_nil]); first | done | rfl | (simp only [List.length_drop, List.length_take]; rfl)) ?_; (with_reducible refine (sorts_Cost.calls _ _ t230 t233 (wrap64 (1 + t238)) _ _ t239 t247 _ ?side1 ?side2 ?side3 ?side4 A29.out).mono ?_); (case side1 => repeat (first | exact (Kd.R_reads' HO_238000.out).2.2 | (with_reducible refine Kd.C_alloc ?_ _) | (with_reducible refine Kd.C_drewN ?_ _) | (with_reducible refine Kd.C_drew ?_))); (case side2 => exact (Kd.R_reads' HO_238000.out).2.1); (case side3 => repeat (first | exact (Kd.R_reads' HO_14.out).2.2 | (with_reducible refine Kd.C_alloc ?_ _) | (with_reducible refine Kd.C_drewN ?_ _) | (with_reducible refine Kd.C_drew ?_))); (case side4 => exact (Kd.R_reads' HO_14.out).2.1); rintro e w59 ⟨rfl, hb⟩; refine ⟨_, rfl, ?_⟩; have n0_ := Aside0.mk (Kd.R_below (by (with_reducible repeat (first | apply Kd.R_alloc | apply Kd.R_drewN | apply Kd.R_drew)); exact HO_14.out) hb); have n1_ := Aside0.mk (Kd.R_below (by (with_reducible repeat (first | apply Kd.R_alloc | apply Kd.R_drewN | apply Kd.R_drew)); exact HO_238000.out) hb); have n2_ := Aside0.mk (blk_below (g := gb237) (o := .cells #[.slice Ao14 t230.length co14, .int .i64 t233] 33 (0, 0)) (by (with_reducible repeat (first | refine blk_drewN ?_ _ | refine blk_drew ?_ | refine blk_alloc ?_ _)); exact BK237.out) hb); have n3_ := Aside0.mk (below_step (by repeat (first | (with_reducible first | exact HB.out | apply below_alloc | apply pw_below_drewN | apply below_drew1 | refine below_set ?_ GE237.out) | exact HB.out)) hb); clear HO_14; clear HO_238000; clear BK237; clear HB; have HO_14 := n0_; have HO_238000 := n1_; have BK237 := n2_; have HB := n3_; clear n0_ n1_ n2_ n3_; (try clear hb); (try clear hb2); (try clear hk); (try clear hi)) | ((with_reducible refine gate_callee (f := 52) rfl ?_); refine goesL_ (some 75) rfl rfl Try.func52 (by kernel_rfl) rfl #[.int .i64 a4, .int .i64 (wrap64 ((t239.length : Int) - 1))] rfl (by (try simp only [List.map_toArray, List.map_cons, List.map_nil]); first | done | rfl | (simp only [List.length_drop, List.length_take]; rfl)) ?_; (with_reducible refine (hypercubelaw10_within.calls a4 (wrap64 ((t239.length : Int) - 1)) t248 _ A31.out).mono ?_); rintro e w' ⟨rfl, ⟨nd, rfl⟩⟩; refine ⟨_, rfl, ?_⟩; have p249 : 0 ≤ ((ji32) : Int) := of_decide_eq_true (by first | (with_reducible assumption) | assumption); have q249 : (ji32) < (t239.length : Int) := of_decide_eq_true (by first | (with_reducible assumption) | assumption); obtain ⟨ad249, e249, hx249_0, hx249_1, hx249_2⟩ := at_T49 (Kd.R_reads' HO_14.out).2.2 (ji32) p249 q249; (try rw [← Nbq35.out] at hx249_2); cases e249; replace p249 := eq_true p249; replace q249 := eq_true q249))
         go_ret
         exact ⟨by first | rfl | (simp [errW_none, errW_some] <;> rfl) | (simp only [← hji32]; first | rfl | (simp [errW_none, errW_some] <;> rfl)) | (simp [*, errW_none, errW_some] <;> rfl), by repeat (first | (with_reducible first | exact HB.out | apply below_alloc | apply pw_below_drewN | apply below_drew1 | refine below_set ?_ GE237.out) | exact HB.out)⟩
       ·rw [if_neg c34] at H
        exact absurd H (by simp)
      ·rw [if_neg c33] at H
       exact absurd H (by simp)
     ·rw [if_neg c30] at H
      have c30b0 : (t247 == x15_1) = false := beq_eq_false_iff_ne.mpr c30
      have c30b1 : (t247 != x15_1) = true := bne_iff_ne.mpr c30
      obtain rfl := Option.some.inj H
      obtain ⟨Ao60, co60, eo60⟩ := Kd.R_slice HO_14.out
      subst eo60
      have hcz61_0 : wr.cell? ⟨gb237, 0, none⟩ = some (.slice Ao14 t230.length co14) := (blk_cell BK237.out 0).trans rfl
      have hcz61_1 : wr.cell? ⟨gb237, 1, none⟩ = some (.int .i64 t233) := (blk_cell BK237.out 1).trans rfl
      have hfz61_0 := blk_frozen BK237.out 0
      have hfz61_1 := blk_frozen BK237.out 1
      go_wp2_with (first | ((with_reducible refine gate_callee (f := 56) rfl ?_); refine goesL_ (some 68) rfl rfl Try.func56 (by kernel_rfl) rfl #[.agg #[.slice Ao14 t230.length co14, .int .i64 t233], .int .i64 (wrap64 (1 + t238)), .slice Ao60 t239.length co60] rfl (by (try simp only [List.map_toArray, List.map_cons, List.map_nil]); first | done | rfl | (simp only [List.length_drop, List.length_take]; rfl)) ?_; (with_reducible refine (sorts_Cost.calls _ _ t230 t233 (wrap64 (1 + t238)) _ _ t239 t247 _ ?side1 ?side2 ?side3 ?side4 A29.out).mono ?_); (case side1 => repeat (first | exact (Kd.R_reads' HO_238000.out).2.2 | (with_reducible refine Kd.C_alloc ?_ _) | (with_reducible refine Kd.C_drewN ?_ _) | (with_reducible refine Kd.C_drew ?_))); (case side2 => exact (Kd.R_reads' HO_238000.out).2.1); (case side3 => repeat (first | exact (Kd.R_reads' HO_14.out).2.2 | (with_reducible refine Kd.C_alloc ?_ _) | (with_reducible refine Kd.C_drewN ?_ _) | (with_reducible refine Kd.C_drew ?_))); (case side4 => exact (Kd.R_reads' HO_14.out).2.1); rintro e w62 ⟨rfl, hb⟩; refine ⟨_, rfl, ?_⟩; have n0_ := Aside0.mk (Kd.R_below (by (with_reducible repeat (first | apply Kd.R_alloc | apply Kd.R_drewN | apply Kd.R_drew)); exact HO_14.out) hb); have n1_ := Aside0.mk (Kd.R_below (by (with_reducible repeat (first | apply Kd.R_alloc | apply Kd.R_drewN | apply Kd.R_drew)); exact HO_238000.out) hb); have n2_ := Aside0.mk (blk_below (g := gb237) (o := .cells #[.slice Ao14 t230.length co14, .int .i64 t233] 33 (0, 0)) (by (with_reducible repeat (first | refine blk_drewN ?_ _ | refine blk_drew ?_ | refine blk_alloc ?_ _)); exact BK237.out) hb); have n3_ := Aside0.mk (below_step (by repeat (first | (with_reducible first | exact HB.out | apply below_alloc | apply pw_below_drewN | apply below_drew1 | refine below_set ?_ GE237.out) | exact HB.out)) hb); clear HO_14; clear HO_238000; clear BK237; clear HB; have HO_14 := n0_; have HO_238000 := n1_; have BK237 := n2_; have HB := n3_; clear n0_ n1_ n2_ n3_; (try clear hb); (try clear hb2); (try clear hk); (try clear hi)))
      go_ret
      exact ⟨by first | rfl | (simp [errW_none, errW_some] <;> rfl) | (simp [*, errW_none, errW_some] <;> rfl), by repeat (first | (with_reducible first | exact HB.out | apply below_alloc | apply pw_below_drewN | apply below_drew1 | refine below_set ?_ GE237.out) | exact HB.out)⟩
 ·replace c7 := Bool.eq_false_iff.mpr c7
  subst c7
  have H1 : (some false) = some r := by rw [if_neg (show ¬ (false = true) by decide)] at H; exact H
  clear H
  have H := H1
  clear H1
  obtain rfl := Option.some.inj H
  go_enter Try.func22, Try.ntmps22
  go_wp2_with (first | ((with_reducible refine gate_callee (f := 51) rfl ?_); refine goesL_ (some 18) rfl rfl Try.func51 (by kernel_rfl) rfl #[] rfl (by (try simp only [List.map_toArray, List.map_cons, List.map_nil]); first | done | rfl | (simp only [List.length_drop, List.length_take]; rfl)) ?_; (with_reducible refine (hypercubelaw10_known.calls  false _ A6.out).mono ?_); rintro e w63 ⟨rfl, hb⟩; refine ⟨_, rfl, ?_⟩; have n0_ := Aside0.mk (below_step (by repeat (first | (with_reducible first | exact HB.out | apply below_alloc | apply pw_below_drewN | apply below_drew1) | exact HB.out)) hb); clear HB; have HB := n0_; clear n0_; (try clear hb); (try clear hb2); (try clear hk); (try clear hi)))
  go_ret
  exact ⟨by first | rfl | (simp [errW_none, errW_some] <;> rfl) | (simp [*, errW_none, errW_some] <;> rfl), by repeat (first | (with_reducible first | exact HB.out | apply below_alloc | apply pw_below_drewN | apply below_drew1) | exact HB.out)⟩

/-- THE ONE PURE STATEMENT of hypercubelaw10_SortsCost: yours. -/
def hypercubelaw10_SortsCost.Pure : Prop := ∀ (a0 : Int) (l1 : List Int) (a2 : Int) (l3 : List Int) (a4 : Int), (Lit.int .i64 a0).wf = true → l1.length ≤ maxLen → l1.length * 8 ≤ 140737488351232 → (∀ x ∈ l1, (Lit.int .i64 x).wf = true) → (Lit.int .i64 a2).wf = true → l3.length ≤ maxLen → l3.length * 8 ≤ 140737488351232 → (∀ x ∈ l3, (Lit.int .i64 x).wf = true) → (Lit.int .i64 a4).wf = true → ∃ k, hypercubelaw10_SortsCost.f k a0 l1 a2 l3 a4 = some true
theorem hypercubelaw10_SortsCost.walk (P : hypercubelaw10_SortsCost.Pure) (a0 : Int) (a1 : Option Addr) (len1 cap1 : Nat) (z1 : List Int) (a2 : Int) (a3 : Option Addr) (len3 cap3 : Nat) (z3 : List Int) (a4 : Int) (w : World) (w0 : (Lit.int .i64 a0).wf = true) (w1 : (a1 = none ∧ len1 = 0 ∧ cap1 = 0 ∧ z1 = []) ∨ ∃ x, a1 = some x ∧ len1 ≤ cap1 ∧ cap1 ≤ maxLen ∧ z1.length = cap1 ∧ (∀ i, i < z1.length → w.cell? (x.add i) = some (.int .i64 (z1.getD i 0))) ∧ ∀ n ∈ z1, (Lit.int .i64 n).wf = true) (y1 : len1 * 8 ≤ 140737488351232) (w2 : (Lit.int .i64 a2).wf = true) (w3 : (a3 = none ∧ len3 = 0 ∧ cap3 = 0 ∧ z3 = []) ∨ ∃ x, a3 = some x ∧ len3 ≤ cap3 ∧ cap3 ≤ maxLen ∧ z3.length = cap3 ∧ (∀ i, i < z3.length → w.cell? (x.add i) = some (.int .i64 (z3.getD i 0))) ∧ ∀ n ∈ z3, (Lit.int .i64 n).wf = true) (y3 : len3 * 8 ≤ 140737488351232) (w4 : (Lit.int .i64 a4).wf = true) :
 Calls Try.prog 22 #[.int .i64 a0, .slice a1 len1 cap1, .int .i64 a2, .slice a3 len3 cap3, .int .i64 a4] w fun e w' => e = .returned (.bool true) ∧ Below w.heap.size w w' := by
 obtain ⟨l1, rfl, hr1, hm1, hw1, hc1⟩ := ReadsInt.ofRowC w1
 obtain ⟨l3, rfl, hr3, hm3, hw3, hc3⟩ := ReadsInt.ofRowC w3
 obtain ⟨k, h⟩ := P a0 l1 a2 l3 a4 w0 hm1 y1 hw1 w2 hm3 y3 hw3 w4
 refine (hypercubelaw10_SortsCost.calls k a0 _ _ l1 a2 _ _ l3 a4 true w (Kd.C_of_reads (d := (0 : Int)) (h1 := fun _ => rfl) hr1) hc1 (Kd.C_of_reads (d := (0 : Int)) (h1 := fun _ => rfl) hr3) hc3 h).mono ?_
 rintro e w' ⟨rfl, hd⟩
 exact ⟨rfl, hd⟩

end Go.Proofs.Ytlplaidcdocbmaa.PSortsCost
