-- Cut by pack.py, a program of this session; not trusted: Lean checks it.
import Derived.Test.YtlplaidcdocbmaaZPSortsLeastx0
import Derived.Test.YtlplaidcdocbmaaZPSortsLeastx2
import Derived.Test.YtlplaidcdocbmaaZPSortsLeastx3
import Derived.Test.YtlplaidcdocbmaaZPSortsLeastx4
import Derived.Test.YtlplaidcdocbmaaZPSortsLeastx6
import Derived.Test.YtlplaidcdocbmaaZPSortsLeastx7
namespace Go.Proofs.Ytlplaidcdocbmaa.PSortsLeast
open Go.RowKit Go.Proofs.YtlplaidcdocbmaaW.PrintWords Go.Proofs.YtlplaidcdocbmaaW.PrintLast Go.Proofs.YtlplaidcdocbmaaW.PrintMore
private abbrev fl_ (a b : Nat) : Array Bool := (List.replicate a true ++ List.replicate b false).toArray
private abbrev Y : Bool := true
private abbrev Z : Bool := false
open List renaming setIfInBounds_toArray → sl0, set_cons_zero → sl1, set_cons_succ → sl2
attribute [local go_sem] max2_int min2_int max_two min_two max_three min_three max_four min_four   -- for this text's walks alone
set_option linter.unusedVariables false
set_option linter.unusedSimpArgs false

/-! ### hypercubelaw10_SortsLeast: function 21 -/
def hypercubelaw10_SortsLeast.f (k : Nat) (a0 : Int) (l1 : List Int) (a2 : Int) (l3 : List Int) : Option (Bool) := (hypercubelaw10_known.f).bind fun t236 => (if t236 = true then ((hypercubelaw1_Facts.f k a0 l1 0 ([] : List Int)).bind fun bt237 => ((hypercubelaw10_within.f a2 301).bind fun t245 => ((sorts_Plan.f bt237.1 bt237.2.1 t245).bind fun t246 => ((hypercubelaw10_Other.f k (bt237.1.length : Int) l3).bind fun t249 => ((sorts_Right.f t249 (bt237.1.length : Int)).bind fun t252 => (if t252 = true then ((sorts_Cost.f bt237.1 bt237.2.1 t245 t246).bind fun t253 => ((sorts_Cost.f bt237.1 bt237.2.1 t245 t249).bind fun t254 => (if t253 ≤ t254 then ((sorts_Cost.f bt237.1 bt237.2.1 t245 t249).bind fun t255 => ((hypercuberef10_Cost.f k bt237.1 bt237.2.1 t245 t249).bind fun t256 => (some (t255 == t256)))) else (some false)))) else (some false))))))) else (some false))
def hypercubelaw10_SortsLeast.T5 : Bool × List (List Nat × List Nat) := (true, [([], []), ([], []), ([0, 1], [0, 1]), ([], []), ([3], [3]), ([4], [4]), ([], []), ([5, 6, 2], [5, 6]), ([2, 7, 0, 1, 2], [2]), ([7, 8, 0, 1, 2, 3, 4, 5, 6, 7, 8], [7])])
def hypercubelaw10_SortsLeast.B5 : List Nat := [0, 0, 3, 0, 8, 24, 0, 127, 255, 511]
theorem hypercubelaw10_SortsLeast.tab5 : rtab .any (opsOf Try.f21 5) = hypercubelaw10_SortsLeast.T5 := by kernel_rfl
theorem hypercubelaw10_SortsLeast.bits5 : waitsOk hypercubelaw10_SortsLeast.T5.2 hypercubelaw10_SortsLeast.B5 = true := by kernel_rfl
def hypercubelaw10_SortsLeast.T6 : Bool × List (List Nat × List Nat) := (true, [([], []), ([], []), ([1], [1]), ([2], [2]), ([0, 3], [0, 3]), ([4, 4], [4]), ([5], [5]), ([5], [5]), ([5], [5]), ([6, 7, 8, 5, 5], [5, 6, 7, 8]), ([5], [5]), ([5], [5]), ([5], [5]), ([10, 11, 12, 9, 5], [5, 10, 11, 12]), ([9, 13, 5], [5, 9, 13]), ([5, 14], [5, 14]), ([15, 13], [15]), ([16], [16]), ([16], [16]), ([16], [16]), ([17, 18, 19, 16, 16], [16, 17, 18, 19]), ([16], [16]), ([16], [16]), ([16], [16]), ([21, 22, 23, 20, 16], [16, 21, 22, 23]), ([20, 24, 16], [16, 20, 24]), ([16, 25], [16, 25]), ([26, 24, 0, 1, 2, 3, 4, 5, 6, 7, 8, 9, 10, 11, 12, 13, 14, 15, 16, 17, 18, 19, 20, 21, 22, 23, 24, 25, 26], [26])])
def hypercubelaw10_SortsLeast.B6 : List Nat := [0, 0, 2, 6, 15, 31, 63, 63, 63, 511, 63, 63, 63, 8191, 16383, 32767, 65535, 131071, 131071, 131071, 1048575, 131071, 131071, 131071, 16777215, 33554431, 67108863, 134217727]
theorem hypercubelaw10_SortsLeast.tab6 : rtab .any (opsOf Try.f21 6) = hypercubelaw10_SortsLeast.T6 := by kernel_rfl
theorem hypercubelaw10_SortsLeast.bits6 : waitsOk hypercubelaw10_SortsLeast.T6.2 hypercubelaw10_SortsLeast.B6 = true := by kernel_rfl
set_option maxHeartbeats 8000000 in
set_option maxRecDepth 100000 in
theorem hypercubelaw10_SortsLeast.calls (k : Nat) (a0 : Int) (A1 : Option Addr) (c1 : Nat) (l1 : List Int) (a2 : Int) (A3 : Option Addr) (c3 : Nat) (l3 : List Int) (r : Bool) (w : World) (hr1 : Kd.C (Kd.int .i64) w A1 l1.length l1) (hc1 : l1.length ≤ c1) (hr3 : Kd.C (Kd.int .i64) w A3 l3.length l3) (hc3 : l3.length ≤ c3) (h : hypercubelaw10_SortsLeast.f k a0 l1 a2 l3 = some r) :
 Calls Try.prog 21 #[.int .i64 a0, .slice A1 l1.length c1, .int .i64 a2, .slice A3 l3.length c3] w fun e w' => e = .returned (.bool r) ∧ Below w.heap.size w w' := by
 have hu33 := Try.underlying33
 have HR1 := Aside0.mk hr1
 have HC1 := Aside0.mk hc1
 clear hr1 hc1
 have HR3 := Aside0.mk hr3
 have HC3 := Aside0.mk hc3
 clear hr3 hc3
 have HB := Aside0.mk (Below.refl w.heap.size w)
 have H : ((hypercubelaw10_known.f).bind fun t236 => (if t236 = true then ((hypercubelaw1_Facts.f k a0 l1 0 ([] : List Int)).bind fun bt237 => ((hypercubelaw10_within.f a2 301).bind fun t245 => ((sorts_Plan.f bt237.1 bt237.2.1 t245).bind fun t246 => ((hypercubelaw10_Other.f k (bt237.1.length : Int) l3).bind fun t249 => ((sorts_Right.f t249 (bt237.1.length : Int)).bind fun t252 => (if t252 = true then ((sorts_Cost.f bt237.1 bt237.2.1 t245 t246).bind fun t253 => ((sorts_Cost.f bt237.1 bt237.2.1 t245 t249).bind fun t254 => (if t253 ≤ t254 then ((sorts_Cost.f bt237.1 bt237.2.1 t245 t249).bind fun t255 => ((hypercuberef10_Cost.f k bt237.1 bt237.2.1 t245 t249).bind fun t256 => (some (t255 == t256)))) else (some false)))) else (some false))))))) else (some false))) = some r := h
 clear h
 replace H := Option.bind_eq_some_iff.mp H
 obtain ⟨t236, A50, H⟩ := H
 replace H : (if t236 = true then ((hypercubelaw1_Facts.f k a0 l1 0 ([] : List Int)).bind fun bt237 => ((hypercubelaw10_within.f a2 301).bind fun t245 => ((sorts_Plan.f bt237.1 bt237.2.1 t245).bind fun t246 => ((hypercubelaw10_Other.f k (bt237.1.length : Int) l3).bind fun t249 => ((sorts_Right.f t249 (bt237.1.length : Int)).bind fun t252 => (if t252 = true then ((sorts_Cost.f bt237.1 bt237.2.1 t245 t246).bind fun t253 => ((sorts_Cost.f bt237.1 bt237.2.1 t245 t249).bind fun t254 => (if t253 ≤ t254 then ((sorts_Cost.f bt237.1 bt237.2.1 t245 t249).bind fun t255 => ((hypercuberef10_Cost.f k bt237.1 bt237.2.1 t245 t249).bind fun t256 => (some (t255 == t256)))) else (some false)))) else (some false))))))) else (some false)) = some r := H
 have A5 := Aside0.mk A50
 clear A50
 by_cases c6 : t236 = true
 rotate_left
 ·replace c6 := Bool.eq_false_iff.mpr c6
  subst c6
  have H1 : (some false) = some r := by rw [if_neg (show ¬ (false = true) by decide)] at H; exact H
  clear H
  have H := H1
  clear H1
  obtain rfl := Option.some.inj H
  go_enter Try.func21, Try.ntmps21
  go_wp2_with (first | ((with_reducible refine gate_callee (f := 51) rfl ?_); refine goesL_ (some 14) rfl rfl Try.func51 (by kernel_rfl) rfl #[] rfl (by (try simp only [List.map_toArray, List.map_cons, List.map_nil]); first | done | rfl | (simp only [List.length_drop, List.length_take]; rfl)) ?_; (with_reducible refine (hypercubelaw10_known.calls  false _ A5.out).mono ?_); rintro e w62 ⟨rfl, hb⟩; refine ⟨_, rfl, ?_⟩; have n0_ := Aside0.mk (below_step (by repeat (first | (with_reducible first | exact HB.out | apply below_alloc | apply pw_below_drewN | apply below_drew1) | exact HB.out)) hb); clear HB; have HB := n0_; clear n0_; (try clear hb); (try clear hb2); (try clear hk); (try clear hi)))
  go_ret
  exact ⟨by first | rfl | (simp [errW_none, errW_some] <;> rfl) | (simp [*, errW_none, errW_some] <;> rfl), by repeat (first | (with_reducible first | exact HB.out | apply below_alloc | apply pw_below_drewN | apply below_drew1) | exact HB.out)⟩
 subst c6
 have H1 : ((hypercubelaw1_Facts.f k a0 l1 0 ([] : List Int)).bind fun bt237 => ((hypercubelaw10_within.f a2 301).bind fun t245 => ((sorts_Plan.f bt237.1 bt237.2.1 t245).bind fun t246 => ((hypercubelaw10_Other.f k (bt237.1.length : Int) l3).bind fun t249 => ((sorts_Right.f t249 (bt237.1.length : Int)).bind fun t252 => (if t252 = true then ((sorts_Cost.f bt237.1 bt237.2.1 t245 t246).bind fun t253 => ((sorts_Cost.f bt237.1 bt237.2.1 t245 t249).bind fun t254 => (if t253 ≤ t254 then ((sorts_Cost.f bt237.1 bt237.2.1 t245 t249).bind fun t255 => ((hypercuberef10_Cost.f k bt237.1 bt237.2.1 t245 t249).bind fun t256 => (some (t255 == t256)))) else (some false)))) else (some false))))))) = some r := by rw [if_pos rfl] at H; exact H
 clear H
 have H := H1
 clear H1
 replace H := Option.bind_eq_some_iff.mp H
 obtain ⟨⟨t237, t240, t241⟩, A70, H⟩ := H
 replace H : ((hypercubelaw10_within.f a2 301).bind fun t245 => ((sorts_Plan.f t237 t240 t245).bind fun t246 => ((hypercubelaw10_Other.f k (t237.length : Int) l3).bind fun t249 => ((sorts_Right.f t249 (t237.length : Int)).bind fun t252 => (if t252 = true then ((sorts_Cost.f t237 t240 t245 t246).bind fun t253 => ((sorts_Cost.f t237 t240 t245 t249).bind fun t254 => (if t253 ≤ t254 then ((sorts_Cost.f t237 t240 t245 t249).bind fun t255 => ((hypercuberef10_Cost.f k t237 t240 t245 t249).bind fun t256 => (some (t255 == t256)))) else (some false)))) else (some false)))))) = some r := H
 have A7 := Aside0.mk A70
 clear A70
 replace H := Option.bind_eq_some_iff.mp H
 obtain ⟨t245, A80, H⟩ := H
 replace H : ((sorts_Plan.f t237 t240 t245).bind fun t246 => ((hypercubelaw10_Other.f k (t237.length : Int) l3).bind fun t249 => ((sorts_Right.f t249 (t237.length : Int)).bind fun t252 => (if t252 = true then ((sorts_Cost.f t237 t240 t245 t246).bind fun t253 => ((sorts_Cost.f t237 t240 t245 t249).bind fun t254 => (if t253 ≤ t254 then ((sorts_Cost.f t237 t240 t245 t249).bind fun t255 => ((hypercuberef10_Cost.f k t237 t240 t245 t249).bind fun t256 => (some (t255 == t256)))) else (some false)))) else (some false))))) = some r := H
 have A8 := Aside0.mk A80
 clear A80
 replace H := Option.bind_eq_some_iff.mp H
 obtain ⟨t246, A90, H⟩ := H
 replace H : ((hypercubelaw10_Other.f k (t237.length : Int) l3).bind fun t249 => ((sorts_Right.f t249 (t237.length : Int)).bind fun t252 => (if t252 = true then ((sorts_Cost.f t237 t240 t245 t246).bind fun t253 => ((sorts_Cost.f t237 t240 t245 t249).bind fun t254 => (if t253 ≤ t254 then ((sorts_Cost.f t237 t240 t245 t249).bind fun t255 => ((hypercuberef10_Cost.f k t237 t240 t245 t249).bind fun t256 => (some (t255 == t256)))) else (some false)))) else (some false)))) = some r := H
 have A9 := Aside0.mk A90
 clear A90
 replace H := Option.bind_eq_some_iff.mp H
 obtain ⟨t249, A100, H⟩ := H
 replace H : ((sorts_Right.f t249 (t237.length : Int)).bind fun t252 => (if t252 = true then ((sorts_Cost.f t237 t240 t245 t246).bind fun t253 => ((sorts_Cost.f t237 t240 t245 t249).bind fun t254 => (if t253 ≤ t254 then ((sorts_Cost.f t237 t240 t245 t249).bind fun t255 => ((hypercuberef10_Cost.f k t237 t240 t245 t249).bind fun t256 => (some (t255 == t256)))) else (some false)))) else (some false))) = some r := H
 have A10 := Aside0.mk A100
 clear A100
 replace H := Option.bind_eq_some_iff.mp H
 obtain ⟨t252, A110, H⟩ := H
 replace H : (if t252 = true then ((sorts_Cost.f t237 t240 t245 t246).bind fun t253 => ((sorts_Cost.f t237 t240 t245 t249).bind fun t254 => (if t253 ≤ t254 then ((sorts_Cost.f t237 t240 t245 t249).bind fun t255 => ((hypercuberef10_Cost.f k t237 t240 t245 t249).bind fun t256 => (some (t255 == t256)))) else (some false)))) else (some false)) = some r := H
 have A11 := Aside0.mk A110
 clear A110
 by_cases c12 : t252 = true
 rotate_left
 ·replace c12 := Bool.eq_false_iff.mpr c12
  subst c12
  have H1 : (some false) = some r := by rw [if_neg (show ¬ (false = true) by decide)] at H; exact H
  clear H
  have H := H1
  clear H1
  obtain rfl := Option.some.inj H
  go_enter Try.func21, Try.ntmps21
  try go_wp2_with (first | ((with_reducible refine gate_callee (f := 51) rfl ?_); refine goesL_ (some 14) rfl rfl Try.func51 (by kernel_rfl) rfl #[] rfl (by (try simp only [List.map_toArray, List.map_cons, List.map_nil]); first | done | rfl | (simp only [List.length_drop, List.length_take]; rfl)) ?_; (with_reducible refine (hypercubelaw10_known.calls  true _ A5.out).mono ?_); rintro e w50 ⟨rfl, hb⟩; refine ⟨_, rfl, ?_⟩; have n0_ := Aside0.mk (below_step (by repeat (first | (with_reducible first | exact HB.out | apply below_alloc | apply pw_below_drewN | apply below_drew1) | exact HB.out)) hb); clear HB; have HB := n0_; clear n0_; (try clear hb); (try clear hb2); (try clear hk); (try clear hi)) | ((with_reducible refine gate_callee (f := 32) rfl ?_); refine goesL_ (some 19) rfl rfl Try.func32 (by kernel_rfl) rfl #[.int .i64 a0, .slice A1 l1.length c1, .int .i64 0, .slice none 0 0] rfl (by (try simp only [List.map_toArray, List.map_cons, List.map_nil]); first | done | rfl | (simp only [List.length_drop, List.length_take]; rfl)) ?_; (refine (hypercubelaw1_Facts.calls k a0 _ _ l1 0 _ _ ([] : List Int) t237 t240 t241 _ ?side1 ?side2 ?side3 ?side4 A7.out).mono ?_); (case side1 => repeat (first | exact (Kd.C_below HR1.out HB.out) | (with_reducible refine Kd.C_alloc ?_ _) | (with_reducible refine Kd.C_drewN ?_ _) | (with_reducible refine Kd.C_drew ?_))); (case side2 => exact HC1.out); (case side3 => exact Kd.C_nil _ _); (case side4 => exact Nat.le_refl _); rintro e w51 ⟨v238, v242, rfl, ho0, ho1, hb⟩; refine ⟨_, rfl, ?_⟩; have n0_ := Aside0.mk (Kd.R_lower ho0 (below_size (by repeat (first | (with_reducible first | exact HB.out | apply below_alloc | apply pw_below_drewN | apply below_drew1) | exact HB.out)))); have n1_ := Aside0.mk (Kd.S_lower ho1 (below_size (by repeat (first | (with_reducible first | exact HB.out | apply below_alloc | apply pw_below_drewN | apply below_drew1) | exact HB.out)))); have n2_ := Aside0.mk (below_step (by repeat (first | (with_reducible first | exact HB.out | apply below_alloc | apply pw_below_drewN | apply below_drew1) | exact HB.out)) hb); clear HB; have HO239 := n0_; have HO243 := n1_; have HB := n2_; clear n0_ n1_ n2_; (try clear hb); (try clear hb2); (try clear hk); (try clear hi); (try clear ho0); (try clear ho1)) | ((with_reducible refine gate_dst (N := 9) rfl ?_); refine box_event ?hg (N := 9) ?hd (cs := #[.slice none 0 0, .int .i64 0]) (t := 33) ?hr ?_; (case hd => rfl); (case hg => rfl); (case hr => first | (go_simp; done) | (go_simp; rfl)); intro gb244 hg w52 hbox hb; have n0_ := Aside0.mk (Kd.R_below (by (with_reducible repeat (first | apply Kd.R_alloc | apply Kd.R_drewN | apply Kd.R_drew)); exact HO239.out) hb); have n1_ := Aside0.mk (Kd.S_below (by (with_reducible repeat (first | apply Kd.S_alloc | apply Kd.S_drewN | apply Kd.S_drew)); exact HO243.out) hb); have n2_ := Aside0.mk (below_step (by repeat (first | (with_reducible first | exact HB.out | apply below_alloc | apply pw_below_drewN | apply below_drew1) | exact HB.out)) hb); have n3_ := Aside0.mk (hbox); have n4_ := Aside0.mk ((by rw [hg]; exact (below_size (by repeat (first | (with_reducible first | exact HB.out | apply below_alloc | apply pw_below_drewN | apply below_drew1) | exact HB.out))) : w.heap.size ≤ gb244)); have n5_ := Aside0.mk ((by rw [hg]; exact (below_size (by repeat (first | (with_reducible first | exact HB.out | apply below_alloc | apply pw_below_drewN | apply below_drew1) | exact HB.out))) : w.heap.size ≤ gb244)); clear HO239; clear HO243; clear HB; have HO239 := n0_; have HO243 := n1_; have HB := n2_; have BK244 := n3_; have GW244 := n4_; have GE244 := n5_; clear n0_ n1_ n2_ n3_ n4_ n5_; clear hb hbox hg; obtain ⟨Ao53, co53, eo53⟩ := Kd.R_slice HO239.out; subst eo53; have hcz54_0 : w52.cell? ⟨gb244, 0, none⟩ = some (.slice none 0 0) := (blk_cell BK244.out 0).trans rfl; have hcz54_1 : w52.cell? ⟨gb244, 1, none⟩ = some (.int .i64 0) := (blk_cell BK244.out 1).trans rfl; have hfz54_0 := blk_frozen BK244.out 0; have hfz54_1 := blk_frozen BK244.out 1) | ((with_reducible refine gate_callee (f := 52) rfl ?_); refine goesL_ (some 23) rfl rfl Try.func52 (by kernel_rfl) rfl #[.int .i64 a2, .int .i64 301] rfl (by (try simp only [List.map_toArray, List.map_cons, List.map_nil]); first | done | rfl | (simp only [List.length_drop, List.length_take]; rfl)) ?_; (with_reducible refine (hypercubelaw10_within.calls a2 301 t245 _ A8.out).mono ?_); rintro e w' ⟨rfl, ⟨nd, rfl⟩⟩; refine ⟨_, rfl, ?_⟩))
  have n0_ : Aside0 (Kd.R (Kd.int .i64) 3 ((w52.setCell ⟨gb244, 0, none⟩ (.slice Ao53 t237.length co53)).setCell ⟨gb244, 1, none⟩ (.int .i64 t240)) w.heap.size (fun _ => True) (.slice Ao53 t237.length co53) t237) := ⟨by (with_reducible repeat (first | apply Kd.R_alloc | apply Kd.R_drewN | apply Kd.R_drew)); exact Kd.R_mono (Kd.R_far (p := ⟨gb244, 1, none⟩) (Kd.R_far (p := ⟨gb244, 0, none⟩) (Kd.R_types HO239.out BK244.out (by decide)) (fun _ hk => hk.2) (.slice Ao53 t237.length co53)) (fun _ hk => hk.2) (.int .i64 t240)) (fun _ hk => trivial)⟩
  have n1_ : Aside0 (Kd.S k39 39 ((w52.setCell ⟨gb244, 0, none⟩ (.slice Ao53 t237.length co53)).setCell ⟨gb244, 1, none⟩ (.int .i64 t240)) w.heap.size (fun k_ => some k_ ≠ (.slice Ao53 t237.length co53 : Value).ownBlock) v242 t241) := ⟨by (with_reducible repeat (first | apply Kd.S_alloc | apply Kd.S_drewN | apply Kd.S_drew)); exact Kd.S_mono (Kd.S_far (p := ⟨gb244, 1, none⟩) (Kd.S_far (p := ⟨gb244, 0, none⟩) (Kd.S_types HO243.out BK244.out (by decide)) (fun _ hk => hk.2) (.slice Ao53 t237.length co53)) (fun _ hk => hk.2) (.int .i64 t240)) (fun _ hk => hk.1)⟩
  have n2_ : Aside0 (((w52.setCell ⟨gb244, 0, none⟩ (.slice Ao53 t237.length co53)).setCell ⟨gb244, 1, none⟩ (.int .i64 t240)).heap[gb244]? = some (.cells #[.slice Ao53 t237.length co53, .int .i64 t240] 33 (0, 0))) := ⟨by (with_reducible repeat (first | refine blk_drewN ?_ _ | refine blk_drew ?_ | refine blk_alloc ?_ _)); refine blk_put (cs := #[.slice Ao53 t237.length co53, .int .i64 0]) ?_ 1 _ rfl; (with_reducible repeat (first | refine blk_drewN ?_ _ | refine blk_drew ?_ | refine blk_alloc ?_ _)); refine blk_put (cs := #[.slice none 0 0, .int .i64 0]) ?_ 0 _ rfl; (with_reducible repeat (first | refine blk_drewN ?_ _ | refine blk_drew ?_ | refine blk_alloc ?_ _)); exact BK244.out⟩
  have n3_ : Aside0 (Below w.heap.size w ((w52.setCell ⟨gb244, 0, none⟩ (.slice Ao53 t237.length co53)).setCell ⟨gb244, 1, none⟩ (.int .i64 t240))) := ⟨by repeat (first | (with_reducible first | exact HB.out | apply below_alloc | apply pw_below_drewN | apply below_drew1 | refine below_set ?_ GE244.out) | exact HB.out)⟩
  (try clear HO239)
  (try clear HO243)
  (try clear BK244)
  (try clear HB)
  generalize ((w52.setCell ⟨gb244, 0, none⟩ (.slice Ao53 t237.length co53)).setCell ⟨gb244, 1, none⟩ (.int .i64 t240)) = w55 at n0_ n1_ n2_ n3_ ⊢
  have HO239 := n0_
  have HO243 := n1_
  have BK244 := n2_
  have HB := n3_
  clear n0_ n1_ n2_ n3_
  (try (rw [drewN_self w55]; generalize hq_ : World.drewN w55 _ = w55; have n0_ : Aside0 (Kd.R (Kd.int .i64) 3 w55 w.heap.size (fun _ => True) (.slice Ao53 t237.length co53) t237) := ⟨by rw [← hq_]; exact (by (with_reducible repeat (first | apply Kd.R_alloc | apply Kd.R_drewN | apply Kd.R_drew)); exact HO239.out)⟩; have n1_ : Aside0 (Kd.S k39 39 w55 w.heap.size (fun k_ => some k_ ≠ (.slice Ao53 t237.length co53 : Value).ownBlock) v242 t241) := ⟨by rw [← hq_]; exact (by (with_reducible repeat (first | apply Kd.S_alloc | apply Kd.S_drewN | apply Kd.S_drew)); exact HO243.out)⟩; have n2_ : Aside0 (w55.heap[gb244]? = some (.cells #[.slice Ao53 t237.length co53, .int .i64 t240] 33 (0, 0))) := ⟨by rw [← hq_]; exact (by (with_reducible repeat (first | refine blk_drewN ?_ _ | refine blk_drew ?_ | refine blk_alloc ?_ _)); exact BK244.out)⟩; have n3_ : Aside0 (Below w.heap.size w w55) := ⟨by rw [← hq_]; exact (by repeat (first | (with_reducible first | exact HB.out | apply below_alloc | apply pw_below_drewN | apply below_drew1 | refine below_set ?_ GE244.out) | exact HB.out))⟩; clear HO239 HO243 BK244 HB hq_; have HO239 := n0_; have HO243 := n1_; have BK244 := n2_; have HB := n3_; clear n0_ n1_ n2_ n3_))
  have n0_ := Aside0.mk (Kd.R_drew HO239.out)
  have n1_ := Aside0.mk (Kd.S_drew HO243.out)
  have n2_ := Aside0.mk (blk_drew BK244.out)
  have n3_ := Aside0.mk (below_drew1 HB.out)
  clear HO239
  clear HO243
  clear BK244
  clear HB
  have HO239 := n0_
  have HO243 := n1_
  have BK244 := n2_
  have HB := n3_
  clear n0_ n1_ n2_ n3_
  refine start_ (n := 10) (S := fun w' => w'.cell? ⟨gb244, 0, none⟩ = some (.slice Ao53 t237.length co53) ∧ w'.cell? ⟨gb244, 1, none⟩ = some (.int .i64 t240)) (ds := []) (fl_ 0 10) (by kernel_rfl) rfl rfl ⟨(blk_cell BK244.out 0).trans rfl, (blk_cell BK244.out 1).trans rfl⟩ (fun hHeld => ?_); refine with_tabW hypercubelaw10_SortsLeast.tab5 hypercubelaw10_SortsLeast.bits5 (fun HT_ HW_ => ?_)
  generalize w55.drew = w56 at HO239 HO243 BK244 HB hHeld ⊢
  refine pure_ (i := 1) (N := some 25) (v := ?_) (a' := ?_) #[Z,Y,Z,Z,Z,Z,Z,Z,Z,Z] rfl rfl (any_of HT_.out (by kernel_rfl)) (fun _ _ _ h => h) (Or.inl ⟨by rfl, ?_⟩) ?_ ?_
  rotate_left
  ·intro w'
   go_simp
   with_reducible rfl
  rotate_left
  ·simp only [Act.put, sl0, sl1, sl2, i64_w, i32_w]
   rfl
  refine pure_ (i := 3) (N := some 27) (v := ?_) (a' := ?_) #[Z,Y,Z,Y,Z,Z,Z,Z,Z,Z] rfl rfl (any_of HT_.out (by kernel_rfl)) (fun _ _ _ h => h) (Or.inl ⟨by rfl, ?_⟩) ?_ ?_
  rotate_left
  ·intro w'
   go_simp
   with_reducible rfl
  rotate_left
  ·simp only [Act.put, sl0, sl1, sl2, i64_w, i32_w]
   rfl
  refine pure_ (i := 6) (N := some 30) (v := ?_) (a' := ?_) #[Z,Y,Z,Y,Z,Z,Y,Z,Z,Z] rfl rfl (any_of HT_.out (by kernel_rfl)) (fun _ _ _ h => h) (Or.inl ⟨by rfl, ?_⟩) ?_ ?_
  rotate_left
  ·intro w'
   go_simp
   with_reducible rfl
  rotate_left
  ·simp only [Act.put, sl0, sl1, sl2, i64_w, i32_w]
   rfl
  refine take_ (i := 0) (N := some 24) (v := ?_) (a' := ?_) #[Y,Y,Z,Y,Z,Z,Y,Z,Z,Z] rfl rfl (take_ofW HT_.out HW_.out (by kernel_rfl)) (fun _ _ _ h => h) (Or.inl ⟨by rfl, ?_⟩) hHeld ?_ ?_
  rotate_left
  ·rintro w' ⟨s0, s1⟩
   go_simp
   with_reducible rfl
  rotate_left
  ·simp only [Act.put, sl0, sl1, sl2, i64_w, i32_w]
   rfl
  refine take_ (i := 4) (N := some 28) (v := ?_) (a' := ?_) #[Y,Y,Z,Y,Y,Z,Y,Z,Z,Z] rfl rfl (take_ofW HT_.out HW_.out (by kernel_rfl)) (fun _ _ _ h => h) (Or.inl ⟨by rfl, ?_⟩) hHeld ?_ ?_
  rotate_left
  ·rintro w' ⟨s0, s1⟩
   go_simp
   with_reducible rfl
  rotate_left
  ·simp only [Act.put, sl0, sl1, sl2, i64_w, i32_w]
   rfl
  refine pure_ (i := 5) (N := some 29) (v := ?_) (a' := ?_) #[Y,Y,Z,Y,Y,Y,Y,Z,Z,Z] rfl rfl (any_of HT_.out (by kernel_rfl)) (fun _ _ _ h => h) (Or.inl ⟨by rfl, ?_⟩) ?_ ?_
  rotate_left
  ·intro w'
   go_simp
   with_reducible rfl
  rotate_left
  ·simp only [Act.put, sl0, sl1, sl2, i64_w, i32_w]
   rfl
  refine one_ (i := 2) (N := some 26) (fl_ 7 3) rfl rfl (one_of HT_.out (by kernel_rfl)) (by decide) (fun K hK => ?_)
  refine goes_ Try.func55 (by kernel_rfl) rfl #[.agg #[.slice Ao53 t237.length co53, .int .i64 t240], .int .i64 t245] (by rfl) rfl rfl (by (try simp only [List.map_toArray, List.map_cons, List.map_nil]); first | done | rfl | (simp only [List.length_drop, List.length_take]; rfl)) ?_
  with_reducible refine (sorts_Plan.calls _ _ t237 t240 t245 t246 _ ?side1 ?side2 A9.out).mono ?_
  (case side1 => repeat (first | exact (Kd.R_reads' HO239.out).2.2 | (with_reducible refine Kd.C_alloc ?_ _) | (with_reducible refine Kd.C_drewN ?_ _) | (with_reducible refine Kd.C_drew ?_)))
  (case side2 => exact (Kd.R_reads' HO239.out).2.1)
  rintro e w57 ⟨v247, rfl, ho0, hb⟩
  refine ⟨_, rfl, ?_⟩
  have n0_ := Aside0.mk (Kd.R_below (by (with_reducible repeat (first | apply Kd.R_alloc | apply Kd.R_drewN | apply Kd.R_drew)); exact HO239.out) hb)
  have n1_ := Aside0.mk (Kd.S_below (by (with_reducible repeat (first | apply Kd.S_alloc | apply Kd.S_drewN | apply Kd.S_drew)); exact HO243.out) hb)
  have n2_ := Aside0.mk (Kd.R_lower ho0 (below_size (by repeat (first | (with_reducible first | exact HB.out | apply below_alloc | apply pw_below_drewN | apply below_drew1 | refine below_set ?_ GE244.out) | exact HB.out))))
  have n3_ := Aside0.mk (blk_below (g := gb244) (o := .cells #[.slice Ao53 t237.length co53, .int .i64 t240] 33 (0, 0)) (by (with_reducible repeat (first | refine blk_drewN ?_ _ | refine blk_drew ?_ | refine blk_alloc ?_ _)); exact BK244.out) hb)
  have n4_ := Aside0.mk (below_step (by repeat (first | (with_reducible first | exact HB.out | apply below_alloc | apply pw_below_drewN | apply below_drew1 | refine below_set ?_ GE244.out) | exact HB.out)) hb)
  clear HO239
  clear HO243
  clear BK244
  clear HB
  have HO239 := n0_
  have HO243 := n1_
  have HO248 := n2_
  have BK244 := n3_
  have HB := n4_
  clear n0_ n1_ n2_ n3_ n4_
  (try clear hb)
  (try clear hb2)
  (try clear hk)
  (try clear hi)
  (try clear ho0)
  refine hK.out _ _ ⟨(blk_cell BK244.out 0).trans rfl, (blk_cell BK244.out 1).trans rfl⟩ (fun hHeld => ?_)
  clear hK K
  refine norm_ (a' := ?_) ?_ ?_
  rotate_left
  ·show Act.put _ (some 26) _ = _
   simp only [Act.put, sl0, sl1, sl2, i64_w, i32_w]
   rfl
  refine one_ (i := 7) (N := some 31) (fl_ 8 2) rfl rfl (one_of HT_.out (by kernel_rfl)) (by decide) (fun K hK => ?_)
  refine goes_ Try.func53 (by kernel_rfl) rfl #[.int .i64 (t237.length : Int), .slice A3 l3.length c3] (by rfl) rfl rfl (by (try simp only [List.map_toArray, List.map_cons, List.map_nil]); first | done | rfl | (simp only [List.length_drop, List.length_take]; rfl)) ?_
  with_reducible refine (hypercubelaw10_Other.calls k (t237.length : Int) _ _ l3 t249 _ ?side1 ?side2 A10.out).mono ?_
  (case side1 => repeat (first | exact (Kd.C_below HR3.out HB.out) | (with_reducible refine Kd.C_alloc ?_ _) | (with_reducible refine Kd.C_drewN ?_ _) | (with_reducible refine Kd.C_drew ?_)))
  (case side2 => exact HC3.out)
  rintro e w58 ⟨v250, rfl, ho0, hb⟩
  refine ⟨_, rfl, ?_⟩
  have n0_ := Aside0.mk (Kd.R_below (by (with_reducible repeat (first | apply Kd.R_alloc | apply Kd.R_drewN | apply Kd.R_drew)); exact HO239.out) hb)
  have n1_ := Aside0.mk (Kd.S_below (by (with_reducible repeat (first | apply Kd.S_alloc | apply Kd.S_drewN | apply Kd.S_drew)); exact HO243.out) hb)
  have n2_ := Aside0.mk (Kd.R_elder' (by (with_reducible repeat (first | apply Kd.R_alloc | apply Kd.R_drewN | apply Kd.R_drew)); exact HO248.out) (Kd.R_base ho0) hb)
  have n3_ := Aside0.mk (Kd.R_lower (Kd.R_new' ho0 (Kd.R_lt (by (with_reducible repeat (first | apply Kd.R_alloc | apply Kd.R_drewN | apply Kd.R_drew)); exact HO248.out))) (below_size (by repeat (first | (with_reducible first | exact HB.out | apply below_alloc | apply pw_below_drewN | apply below_drew1 | refine below_set ?_ GE244.out) | exact HB.out))))
  have n4_ := Aside0.mk (blk_below (g := gb244) (o := .cells #[.slice Ao53 t237.length co53, .int .i64 t240] 33 (0, 0)) (by (with_reducible repeat (first | refine blk_drewN ?_ _ | refine blk_drew ?_ | refine blk_alloc ?_ _)); exact BK244.out) hb)
  have n5_ := Aside0.mk (below_step (by repeat (first | (with_reducible first | exact HB.out | apply below_alloc | apply pw_below_drewN | apply below_drew1 | refine below_set ?_ GE244.out) | exact HB.out)) hb)
  clear HO239
  clear HO243
  clear HO248
  clear BK244
  clear HB
  have HO239 := n0_
  have HO243 := n1_
  have HO248 := n2_
  have HO251 := n3_
  have BK244 := n4_
  have HB := n5_
  clear n0_ n1_ n2_ n3_ n4_ n5_
  (try clear hb)
  (try clear hb2)
  (try clear hk)
  (try clear hi)
  (try clear ho0)
  refine hK.out _ _ ⟨(blk_cell BK244.out 0).trans rfl, (blk_cell BK244.out 1).trans rfl⟩ (fun hHeld => ?_)
  clear hK K
  refine norm_ (a' := ?_) ?_ ?_
  rotate_left
  ·show Act.put _ (some 31) _ = _
   simp only [Act.put, sl0, sl1, sl2, i64_w, i32_w]
   rfl
  refine pure_ (i := 8) (N := some 12) (v := ?_) (a' := ?_) (fl_ 9 1) rfl rfl (any_of HT_.out (by kernel_rfl)) (fun _ _ _ h => h) (Or.inl ⟨by rfl, ?_⟩) ?_ ?_
  rotate_left
  ·intro w'
   go_simp
   with_reducible rfl
  rotate_left
  ·simp only [Act.put, sl0, sl1, sl2, i64_w, i32_w]
   rfl
  refine pure_ (i := 9) (N := some 13) (v := ?_) (a' := ?_) (fl_ 10 0) rfl rfl (any_of HT_.out (by kernel_rfl)) (fun _ _ _ h => h) (Or.inl ⟨by rfl, ?_⟩) ?_ ?_
  rotate_left
  ·intro w'
   go_simp
   with_reducible rfl
  rotate_left
  ·simp only [Act.put, sl0, sl1, sl2, i64_w, i32_w]
   rfl
  refine done_ (done_of HT_.out (by kernel_rfl)) ?_
  try go_wp2
  have n0_ := Aside0.mk (Kd.R_drew HO239.out)
  have n1_ := Aside0.mk (Kd.S_drew HO243.out)
  have n2_ := Aside0.mk (Kd.R_drew HO248.out)
  have n3_ := Aside0.mk (Kd.R_drew HO251.out)
  have n4_ := Aside0.mk (blk_drew BK244.out)
  have n5_ := Aside0.mk (below_drew1 HB.out)
  clear HO239
  clear HO243
  clear HO248
  clear HO251
  clear BK244
  clear HB
  have HO239 := n0_
  have HO243 := n1_
  have HO248 := n2_
  have HO251 := n3_
  have BK244 := n4_
  have HB := n5_
  clear n0_ n1_ n2_ n3_ n4_ n5_
  obtain ⟨Ao60, co60, eo60⟩ := Kd.R_slice HO251.out
  (first | subst eo60 | (injection eo60 with f1_ f2_ f3_; have f4_ := f1_.symm; have f5_ := f3_.symm; clear f1_ f2_ f3_; subst f4_; subst f5_))
  refine start_ (n := 28) (S := fun w' => w'.cell? ⟨gb244, 0, none⟩ = some (.slice Ao53 t237.length co53) ∧ w'.cell? ⟨gb244, 1, none⟩ = some (.int .i64 t240)) (ds := []) (fl_ 0 28) (by kernel_rfl) rfl rfl ⟨(blk_cell BK244.out 0).trans rfl, (blk_cell BK244.out 1).trans rfl⟩ (fun hHeld => ?_); refine with_tabW hypercubelaw10_SortsLeast.tab6 hypercubelaw10_SortsLeast.bits6 (fun HT_ HW_ => ?_)
  generalize w58.drew = w59 at HO239 HO243 HO248 HO251 BK244 HB hHeld ⊢
  refine pure_ (i := 0) (N := some 32) (v := ?_) (a' := ?_) (fl_ 1 27) rfl rfl (any_of HT_.out (by kernel_rfl)) (fun _ _ _ h => h) (Or.inl ⟨by rfl, ?_⟩) ?_ ?_
  rotate_left
  ·intro w'
   go_simp
   with_reducible rfl
  rotate_left
  ·simp only [Act.put, sl0, sl1, sl2, i64_w, i32_w]
   rfl
  refine pure_ (i := 1) (N := some 33) (v := ?_) (a' := ?_) (fl_ 2 26) rfl rfl (any_of HT_.out (by kernel_rfl)) (fun _ _ _ h => h) (Or.inl ⟨by rfl, ?_⟩) ?_ ?_
  rotate_left
  ·intro w'
   go_simp
   with_reducible rfl
  rotate_left
  ·simp only [Act.put, sl0, sl1, sl2, i64_w, i32_w]
   rfl
  refine take_ (i := 2) (N := some 34) (v := ?_) (a' := ?_) (fl_ 3 25) rfl rfl (take_ofW HT_.out HW_.out (by kernel_rfl)) (fun _ _ _ h => h) (Or.inl ⟨by rfl, ?_⟩) hHeld ?_ ?_
  rotate_left
  ·rintro w' ⟨s0, s1⟩
   go_simp
   with_reducible rfl
  rotate_left
  ·simp only [Act.put, sl0, sl1, sl2, i64_w, i32_w]
   rfl
  refine pure_ (i := 3) (N := some 35) (v := ?_) (a' := ?_) (fl_ 4 24) rfl rfl (any_of HT_.out (by kernel_rfl)) (fun _ _ _ h => h) (Or.inl ⟨by rfl, ?_⟩) ?_ ?_
  rotate_left
  ·intro w'
   go_simp
   with_reducible rfl
  rotate_left
  ·simp only [Act.put, sl0, sl1, sl2, i64_w, i32_w]
   rfl
  refine one_ (i := 4) (N := some 36) (fl_ 5 23) rfl rfl (one_of HT_.out (by kernel_rfl)) (by decide) (fun K hK => ?_)
  refine goes_ Try.func54 (by kernel_rfl) rfl #[.slice Ao60 t249.length co60, .int .i64 (t237.length : Int)] (by rfl) rfl rfl (by (try simp only [List.map_toArray, List.map_cons, List.map_nil]); first | done | rfl | (simp only [List.length_drop, List.length_take]; rfl)) ?_
  with_reducible refine (sorts_Right.calls _ _ t249 (t237.length : Int) false _ ?side1 ?side2 A11.out).mono ?_
  (case side1 => repeat (first | exact (Kd.R_reads' HO251.out).2.2 | (with_reducible refine Kd.C_alloc ?_ _) | (with_reducible refine Kd.C_drewN ?_ _) | (with_reducible refine Kd.C_drew ?_)))
  (case side2 => exact (Kd.R_reads' HO251.out).2.1)
  rintro e w61 ⟨rfl, hb⟩
  refine ⟨_, rfl, ?_⟩
  have n0_ := Aside0.mk (Kd.R_below (by (with_reducible repeat (first | apply Kd.R_alloc | apply Kd.R_drewN | apply Kd.R_drew)); exact HO239.out) hb)
  have n1_ := Aside0.mk (Kd.S_below (by (with_reducible repeat (first | apply Kd.S_alloc | apply Kd.S_drewN | apply Kd.S_drew)); exact HO243.out) hb)
  have n2_ := Aside0.mk (Kd.R_below (by (with_reducible repeat (first | apply Kd.R_alloc | apply Kd.R_drewN | apply Kd.R_drew)); exact HO248.out) hb)
  have n3_ := Aside0.mk (Kd.R_below (by (with_reducible repeat (first | apply Kd.R_alloc | apply Kd.R_drewN | apply Kd.R_drew)); exact HO251.out) hb)
  have n4_ := Aside0.mk (blk_below (g := gb244) (o := .cells #[.slice Ao53 t237.length co53, .int .i64 t240] 33 (0, 0)) (by (with_reducible repeat (first | refine blk_drewN ?_ _ | refine blk_drew ?_ | refine blk_alloc ?_ _)); exact BK244.out) hb)
  have n5_ := Aside0.mk (below_step (by repeat (first | (with_reducible first | exact HB.out | apply below_alloc | apply pw_below_drewN | apply below_drew1 | refine below_set ?_ GE244.out) | exact HB.out)) hb)
  clear HO239
  clear HO243
  clear HO248
  clear HO251
  clear BK244
  clear HB
  have HO239 := n0_
  have HO243 := n1_
  have HO248 := n2_
  have HO251 := n3_
  have BK244 := n4_
  have HB := n5_
  clear n0_ n1_ n2_ n3_ n4_ n5_
  (try clear hb)
  (try clear hb2)
  (try clear hk)
  (try clear hi)
  refine hK.out _ _ ⟨(blk_cell BK244.out 0).trans rfl, (blk_cell BK244.out 1).trans rfl⟩ (fun hHeld => ?_)
  clear hK K
  refine norm_ (a' := ?_) ?_ ?_
  rotate_left
  ·show Act.put _ (some 36) _ = _
   simp only [Act.put, sl0, sl1, sl2, i64_w, i32_w]
   rfl
  refine pure_ (i := 5) (N := some 37) (v := ?_) (a' := ?_) (fl_ 6 22) rfl rfl (any_of HT_.out (by kernel_rfl)) (fun _ _ _ h => h) (Or.inl ⟨by rfl, ?_⟩) ?_ ?_
  rotate_left
  ·intro w'
   go_simp
   with_reducible rfl
  rotate_left
  ·simp only [Act.put, sl0, sl1, sl2, i64_w, i32_w]
   rfl
  refine pure_ (i := 6) (N := some 38) (v := undef) (a' := ?_) (fl_ 7 21) rfl rfl (any_of HT_.out (by kernel_rfl)) (fun _ _ _ h => h) (Or.inr ⟨by rfl, rfl⟩) ?_ ?_
  rotate_left
  ·simp only [Act.put, sl0, sl1, sl2, i64_w, i32_w]
   rfl
  refine pure_ (i := 7) (N := some 39) (v := undef) (a' := ?_) (fl_ 8 20) rfl rfl (any_of HT_.out (by kernel_rfl)) (fun _ _ _ h => h) (Or.inr ⟨by rfl, rfl⟩) ?_ ?_
  rotate_left
  ·simp only [Act.put, sl0, sl1, sl2, i64_w, i32_w]
   rfl
  refine pure_ (i := 8) (N := some 40) (v := undef) (a' := ?_) (fl_ 9 19) rfl rfl (any_of HT_.out (by kernel_rfl)) (fun _ _ _ h => h) (Or.inr ⟨by rfl, rfl⟩) ?_ ?_
  rotate_left
  ·simp only [Act.put, sl0, sl1, sl2, i64_w, i32_w]
   rfl
  refine pure_ (i := 9) (N := some 41) (v := undef) (a' := ?_) (fl_ 10 18) rfl rfl (any_of HT_.out (by kernel_rfl)) (fun _ _ _ h => h) (Or.inr ⟨by rfl, rfl⟩) ?_ ?_
  rotate_left
  ·simp only [Act.put, sl0, sl1, sl2, i64_w, i32_w]
   rfl
  refine pure_ (i := 10) (N := some 42) (v := undef) (a' := ?_) (fl_ 11 17) rfl rfl (any_of HT_.out (by kernel_rfl)) (fun _ _ _ h => h) (Or.inr ⟨by rfl, rfl⟩) ?_ ?_
  rotate_left
  ·simp only [Act.put, sl0, sl1, sl2, i64_w, i32_w]
   rfl
  refine pure_ (i := 11) (N := some 43) (v := undef) (a' := ?_) (fl_ 12 16) rfl rfl (any_of HT_.out (by kernel_rfl)) (fun _ _ _ h => h) (Or.inr ⟨by rfl, rfl⟩) ?_ ?_
  rotate_left
  ·simp only [Act.put, sl0, sl1, sl2, i64_w, i32_w]
   rfl
  refine pure_ (i := 12) (N := some 44) (v := undef) (a' := ?_) (fl_ 13 15) rfl rfl (any_of HT_.out (by kernel_rfl)) (fun _ _ _ h => h) (Or.inr ⟨by rfl, rfl⟩) ?_ ?_
  rotate_left
  ·simp only [Act.put, sl0, sl1, sl2, i64_w, i32_w]
   rfl
  refine pure_ (i := 13) (N := some 45) (v := undef) (a' := ?_) (fl_ 14 14) rfl rfl (any_of HT_.out (by kernel_rfl)) (fun _ _ _ h => h) (Or.inr ⟨by rfl, rfl⟩) ?_ ?_
  rotate_left
  ·simp only [Act.put, sl0, sl1, sl2, i64_w, i32_w]
   rfl
  refine pure_ (i := 14) (N := some 46) (v := undef) (a' := ?_) (fl_ 15 13) rfl rfl (any_of HT_.out (by kernel_rfl)) (fun _ _ _ h => h) (Or.inr ⟨by rfl, rfl⟩) ?_ ?_
  rotate_left
  ·simp only [Act.put, sl0, sl1, sl2, i64_w, i32_w]
   rfl
  refine pure_ (i := 15) (N := some 47) (v := ?_) (a' := ?_) (fl_ 16 12) rfl rfl (any_of HT_.out (by kernel_rfl)) (fun _ _ _ h => h) (Or.inl ⟨by rfl, ?_⟩) ?_ ?_
  rotate_left
  ·intro w'
   go_simp
   with_reducible rfl
  rotate_left
  ·simp only [Act.put, sl0, sl1, sl2, i64_w, i32_w]
   rfl
  refine pure_ (i := 16) (N := some 48) (v := ?_) (a' := ?_) (fl_ 17 11) rfl rfl (any_of HT_.out (by kernel_rfl)) (fun _ _ _ h => h) (Or.inl ⟨by rfl, ?_⟩) ?_ ?_
  rotate_left
  ·intro w'
   go_simp
   with_reducible rfl
  rotate_left
  ·simp only [Act.put, sl0, sl1, sl2, i64_w, i32_w]
   rfl
  refine pure_ (i := 17) (N := some 49) (v := undef) (a' := ?_) (fl_ 18 10) rfl rfl (any_of HT_.out (by kernel_rfl)) (fun _ _ _ h => h) (Or.inr ⟨by rfl, rfl⟩) ?_ ?_
  rotate_left
  ·simp only [Act.put, sl0, sl1, sl2, i64_w, i32_w]
   rfl
  refine pure_ (i := 18) (N := some 50) (v := undef) (a' := ?_) (fl_ 19 9) rfl rfl (any_of HT_.out (by kernel_rfl)) (fun _ _ _ h => h) (Or.inr ⟨by rfl, rfl⟩) ?_ ?_
  rotate_left
  ·simp only [Act.put, sl0, sl1, sl2, i64_w, i32_w]
   rfl
  refine pure_ (i := 19) (N := some 51) (v := undef) (a' := ?_) (fl_ 20 8) rfl rfl (any_of HT_.out (by kernel_rfl)) (fun _ _ _ h => h) (Or.inr ⟨by rfl, rfl⟩) ?_ ?_
  rotate_left
  ·simp only [Act.put, sl0, sl1, sl2, i64_w, i32_w]
   rfl
  refine pure_ (i := 20) (N := some 52) (v := undef) (a' := ?_) (fl_ 21 7) rfl rfl (any_of HT_.out (by kernel_rfl)) (fun _ _ _ h => h) (Or.inr ⟨by rfl, rfl⟩) ?_ ?_
  rotate_left
  ·simp only [Act.put, sl0, sl1, sl2, i64_w, i32_w]
   rfl
  refine pure_ (i := 21) (N := some 53) (v := undef) (a' := ?_) (fl_ 22 6) rfl rfl (any_of HT_.out (by kernel_rfl)) (fun _ _ _ h => h) (Or.inr ⟨by rfl, rfl⟩) ?_ ?_
  rotate_left
  ·simp only [Act.put, sl0, sl1, sl2, i64_w, i32_w]
   rfl
  refine pure_ (i := 22) (N := some 54) (v := undef) (a' := ?_) (fl_ 23 5) rfl rfl (any_of HT_.out (by kernel_rfl)) (fun _ _ _ h => h) (Or.inr ⟨by rfl, rfl⟩) ?_ ?_
  rotate_left
  ·simp only [Act.put, sl0, sl1, sl2, i64_w, i32_w]
   rfl
  refine pure_ (i := 23) (N := some 55) (v := undef) (a' := ?_) (fl_ 24 4) rfl rfl (any_of HT_.out (by kernel_rfl)) (fun _ _ _ h => h) (Or.inr ⟨by rfl, rfl⟩) ?_ ?_
  rotate_left
  ·simp only [Act.put, sl0, sl1, sl2, i64_w, i32_w]
   rfl
  refine pure_ (i := 24) (N := some 56) (v := undef) (a' := ?_) (fl_ 25 3) rfl rfl (any_of HT_.out (by kernel_rfl)) (fun _ _ _ h => h) (Or.inr ⟨by rfl, rfl⟩) ?_ ?_
  rotate_left
  ·simp only [Act.put, sl0, sl1, sl2, i64_w, i32_w]
   rfl
  refine pure_ (i := 25) (N := some 57) (v := undef) (a' := ?_) (fl_ 26 2) rfl rfl (any_of HT_.out (by kernel_rfl)) (fun _ _ _ h => h) (Or.inr ⟨by rfl, rfl⟩) ?_ ?_
  rotate_left
  ·simp only [Act.put, sl0, sl1, sl2, i64_w, i32_w]
   rfl
  refine pure_ (i := 26) (N := some 58) (v := ?_) (a' := ?_) (fl_ 27 1) rfl rfl (any_of HT_.out (by kernel_rfl)) (fun _ _ _ h => h) (Or.inl ⟨by rfl, ?_⟩) ?_ ?_
  rotate_left
  ·intro w'
   go_simp
   with_reducible rfl
  rotate_left
  ·simp only [Act.put, sl0, sl1, sl2, i64_w, i32_w]
   rfl
  refine pure_ (i := 27) (N := some 8) (v := ?_) (a' := ?_) (fl_ 28 0) rfl rfl (any_of HT_.out (by kernel_rfl)) (fun _ _ _ h => h) (Or.inl ⟨by rfl, ?_⟩) ?_ ?_
  rotate_left
  ·intro w'
   go_simp
   with_reducible rfl
  rotate_left
  ·simp only [Act.put, sl0, sl1, sl2, i64_w, i32_w]
   rfl
  refine done_ (done_of HT_.out (by kernel_rfl)) ?_
  try go_wp2
  go_ret
  exact ⟨by first | rfl | (simp [errW_none, errW_some] <;> rfl) | (simp [*, errW_none, errW_some] <;> rfl), by repeat (first | (with_reducible first | exact HB.out | apply below_alloc | apply pw_below_drewN | apply below_drew1 | refine below_set ?_ GE244.out) | exact HB.out)⟩
 subst c12
 have H1 : ((sorts_Cost.f t237 t240 t245 t246).bind fun t253 => ((sorts_Cost.f t237 t240 t245 t249).bind fun t254 => (if t253 ≤ t254 then ((sorts_Cost.f t237 t240 t245 t249).bind fun t255 => ((hypercuberef10_Cost.f k t237 t240 t245 t249).bind fun t256 => (some (t255 == t256)))) else (some false)))) = some r := by rw [if_pos rfl] at H; exact H
 clear H
 have H := H1
 clear H1
 replace H := Option.bind_eq_some_iff.mp H
 obtain ⟨t253, A130, H⟩ := H
 replace H : ((sorts_Cost.f t237 t240 t245 t249).bind fun t254 => (if t253 ≤ t254 then ((sorts_Cost.f t237 t240 t245 t249).bind fun t255 => ((hypercuberef10_Cost.f k t237 t240 t245 t249).bind fun t256 => (some (t255 == t256)))) else (some false))) = some r := H
 have A13 := Aside0.mk A130
 clear A130
 replace H := Option.bind_eq_some_iff.mp H
 obtain ⟨t254, A140, H⟩ := H
 replace H : (if t253 ≤ t254 then ((sorts_Cost.f t237 t240 t245 t249).bind fun t255 => ((hypercuberef10_Cost.f k t237 t240 t245 t249).bind fun t256 => (some (t255 == t256)))) else (some false)) = some r := H
 have A14 := Aside0.mk A140
 clear A140
 by_cases c15 : t253 ≤ t254
 rotate_left
 ·rw [if_neg c15] at H
  have c15b0 : decide (t253 ≤ t254) = false := decide_eq_false c15
  clear c15
  obtain rfl := Option.some.inj H
  go_enter Try.func21, Try.ntmps21
  try go_wp2_with (first | ((with_reducible refine gate_callee (f := 51) rfl ?_); refine goesL_ (some 14) rfl rfl Try.func51 (by kernel_rfl) rfl #[] rfl (by (try simp only [List.map_toArray, List.map_cons, List.map_nil]); first | done | rfl | (simp only [List.length_drop, List.length_take]; rfl)) ?_; (with_reducible refine (hypercubelaw10_known.calls  true _ A5.out).mono ?_); rintro e w35 ⟨rfl, hb⟩; refine ⟨_, rfl, ?_⟩; have n0_ := Aside0.mk (below_step (by repeat (first | (with_reducible first | exact HB.out | apply below_alloc | apply pw_below_drewN | apply below_drew1) | exact HB.out)) hb); clear HB; have HB := n0_; clear n0_; (try clear hb); (try clear hb2); (try clear hk); (try clear hi)) | ((with_reducible refine gate_callee (f := 32) rfl ?_); refine goesL_ (some 19) rfl rfl Try.func32 (by kernel_rfl) rfl #[.int .i64 a0, .slice A1 l1.length c1, .int .i64 0, .slice none 0 0] rfl (by (try simp only [List.map_toArray, List.map_cons, List.map_nil]); first | done | rfl | (simp only [List.length_drop, List.length_take]; rfl)) ?_; (refine (hypercubelaw1_Facts.calls k a0 _ _ l1 0 _ _ ([] : List Int) t237 t240 t241 _ ?side1 ?side2 ?side3 ?side4 A7.out).mono ?_); (case side1 => repeat (first | exact (Kd.C_below HR1.out HB.out) | (with_reducible refine Kd.C_alloc ?_ _) | (with_reducible refine Kd.C_drewN ?_ _) | (with_reducible refine Kd.C_drew ?_))); (case side2 => exact HC1.out); (case side3 => exact Kd.C_nil _ _); (case side4 => exact Nat.le_refl _); rintro e w36 ⟨v238, v242, rfl, ho0, ho1, hb⟩; refine ⟨_, rfl, ?_⟩; have n0_ := Aside0.mk (Kd.R_lower ho0 (below_size (by repeat (first | (with_reducible first | exact HB.out | apply below_alloc | apply pw_below_drewN | apply below_drew1) | exact HB.out)))); have n1_ := Aside0.mk (Kd.S_lower ho1 (below_size (by repeat (first | (with_reducible first | exact HB.out | apply below_alloc | apply pw_below_drewN | apply below_drew1) | exact HB.out)))); have n2_ := Aside0.mk (below_step (by repeat (first | (with_reducible first | exact HB.out | apply below_alloc | apply pw_below_drewN | apply below_drew1) | exact HB.out)) hb); clear HB; have HO239 := n0_; have HO243 := n1_; have HB := n2_; clear n0_ n1_ n2_; (try clear hb); (try clear hb2); (try clear hk); (try clear hi); (try clear ho0); (try clear ho1)) | ((with_reducible refine gate_dst (N := 9) rfl ?_); refine box_event ?hg (N := 9) ?hd (cs := #[.slice none 0 0, .int .i64 0]) (t := 33) ?hr ?_; (case hd => rfl); (case hg => rfl); (case hr => first | (go_simp; done) | (go_simp; rfl)); intro gb244 hg w37 hbox hb; have n0_ := Aside0.mk (Kd.R_below (by (with_reducible repeat (first | apply Kd.R_alloc | apply Kd.R_drewN | apply Kd.R_drew)); exact HO239.out) hb); have n1_ := Aside0.mk (Kd.S_below (by (with_reducible repeat (first | apply Kd.S_alloc | apply Kd.S_drewN | apply Kd.S_drew)); exact HO243.out) hb); have n2_ := Aside0.mk (below_step (by repeat (first | (with_reducible first | exact HB.out | apply below_alloc | apply pw_below_drewN | apply below_drew1) | exact HB.out)) hb); have n3_ := Aside0.mk (hbox); have n4_ := Aside0.mk ((by rw [hg]; exact (below_size (by repeat (first | (with_reducible first | exact HB.out | apply below_alloc | apply pw_below_drewN | apply below_drew1) | exact HB.out))) : w.heap.size ≤ gb244)); have n5_ := Aside0.mk ((by rw [hg]; exact (below_size (by repeat (first | (with_reducible first | exact HB.out | apply below_alloc | apply pw_below_drewN | apply below_drew1) | exact HB.out))) : w.heap.size ≤ gb244)); clear HO239; clear HO243; clear HB; have HO239 := n0_; have HO243 := n1_; have HB := n2_; have BK244 := n3_; have GW244 := n4_; have GE244 := n5_; clear n0_ n1_ n2_ n3_ n4_ n5_; clear hb hbox hg; obtain ⟨Ao38, co38, eo38⟩ := Kd.R_slice HO239.out; subst eo38; have hcz39_0 : w37.cell? ⟨gb244, 0, none⟩ = some (.slice none 0 0) := (blk_cell BK244.out 0).trans rfl; have hcz39_1 : w37.cell? ⟨gb244, 1, none⟩ = some (.int .i64 0) := (blk_cell BK244.out 1).trans rfl; have hfz39_0 := blk_frozen BK244.out 0; have hfz39_1 := blk_frozen BK244.out 1) | ((with_reducible refine gate_callee (f := 52) rfl ?_); refine goesL_ (some 23) rfl rfl Try.func52 (by kernel_rfl) rfl #[.int .i64 a2, .int .i64 301] rfl (by (try simp only [List.map_toArray, List.map_cons, List.map_nil]); first | done | rfl | (simp only [List.length_drop, List.length_take]; rfl)) ?_; (with_reducible refine (hypercubelaw10_within.calls a2 301 t245 _ A8.out).mono ?_); rintro e w' ⟨rfl, ⟨nd, rfl⟩⟩; refine ⟨_, rfl, ?_⟩))
  have n0_ : Aside0 (Kd.R (Kd.int .i64) 3 ((w37.setCell ⟨gb244, 0, none⟩ (.slice Ao38 t237.length co38)).setCell ⟨gb244, 1, none⟩ (.int .i64 t240)) w.heap.size (fun _ => True) (.slice Ao38 t237.length co38) t237) := ⟨by (with_reducible repeat (first | apply Kd.R_alloc | apply Kd.R_drewN | apply Kd.R_drew)); exact Kd.R_mono (Kd.R_far (p := ⟨gb244, 1, none⟩) (Kd.R_far (p := ⟨gb244, 0, none⟩) (Kd.R_types HO239.out BK244.out (by decide)) (fun _ hk => hk.2) (.slice Ao38 t237.length co38)) (fun _ hk => hk.2) (.int .i64 t240)) (fun _ hk => trivial)⟩
  have n1_ : Aside0 (Kd.S k39 39 ((w37.setCell ⟨gb244, 0, none⟩ (.slice Ao38 t237.length co38)).setCell ⟨gb244, 1, none⟩ (.int .i64 t240)) w.heap.size (fun k_ => some k_ ≠ (.slice Ao38 t237.length co38 : Value).ownBlock) v242 t241) := ⟨by (with_reducible repeat (first | apply Kd.S_alloc | apply Kd.S_drewN | apply Kd.S_drew)); exact Kd.S_mono (Kd.S_far (p := ⟨gb244, 1, none⟩) (Kd.S_far (p := ⟨gb244, 0, none⟩) (Kd.S_types HO243.out BK244.out (by decide)) (fun _ hk => hk.2) (.slice Ao38 t237.length co38)) (fun _ hk => hk.2) (.int .i64 t240)) (fun _ hk => hk.1)⟩
  have n2_ : Aside0 (((w37.setCell ⟨gb244, 0, none⟩ (.slice Ao38 t237.length co38)).setCell ⟨gb244, 1, none⟩ (.int .i64 t240)).heap[gb244]? = some (.cells #[.slice Ao38 t237.length co38, .int .i64 t240] 33 (0, 0))) := ⟨by (with_reducible repeat (first | refine blk_drewN ?_ _ | refine blk_drew ?_ | refine blk_alloc ?_ _)); refine blk_put (cs := #[.slice Ao38 t237.length co38, .int .i64 0]) ?_ 1 _ rfl; (with_reducible repeat (first | refine blk_drewN ?_ _ | refine blk_drew ?_ | refine blk_alloc ?_ _)); refine blk_put (cs := #[.slice none 0 0, .int .i64 0]) ?_ 0 _ rfl; (with_reducible repeat (first | refine blk_drewN ?_ _ | refine blk_drew ?_ | refine blk_alloc ?_ _)); exact BK244.out⟩
  have n3_ : Aside0 (Below w.heap.size w ((w37.setCell ⟨gb244, 0, none⟩ (.slice Ao38 t237.length co38)).setCell ⟨gb244, 1, none⟩ (.int .i64 t240))) := ⟨by repeat (first | (with_reducible first | exact HB.out | apply below_alloc | apply pw_below_drewN | apply below_drew1 | refine below_set ?_ GE244.out) | exact HB.out)⟩
  (try clear HO239)
  (try clear HO243)
  (try clear BK244)
  (try clear HB)
  generalize ((w37.setCell ⟨gb244, 0, none⟩ (.slice Ao38 t237.length co38)).setCell ⟨gb244, 1, none⟩ (.int .i64 t240)) = w40 at n0_ n1_ n2_ n3_ ⊢
  have HO239 := n0_
  have HO243 := n1_
  have BK244 := n2_
  have HB := n3_
  clear n0_ n1_ n2_ n3_
  (try (rw [drewN_self w40]; generalize hq_ : World.drewN w40 _ = w40; have n0_ : Aside0 (Kd.R (Kd.int .i64) 3 w40 w.heap.size (fun _ => True) (.slice Ao38 t237.length co38) t237) := ⟨by rw [← hq_]; exact (by (with_reducible repeat (first | apply Kd.R_alloc | apply Kd.R_drewN | apply Kd.R_drew)); exact HO239.out)⟩; have n1_ : Aside0 (Kd.S k39 39 w40 w.heap.size (fun k_ => some k_ ≠ (.slice Ao38 t237.length co38 : Value).ownBlock) v242 t241) := ⟨by rw [← hq_]; exact (by (with_reducible repeat (first | apply Kd.S_alloc | apply Kd.S_drewN | apply Kd.S_drew)); exact HO243.out)⟩; have n2_ : Aside0 (w40.heap[gb244]? = some (.cells #[.slice Ao38 t237.length co38, .int .i64 t240] 33 (0, 0))) := ⟨by rw [← hq_]; exact (by (with_reducible repeat (first | refine blk_drewN ?_ _ | refine blk_drew ?_ | refine blk_alloc ?_ _)); exact BK244.out)⟩; have n3_ : Aside0 (Below w.heap.size w w40) := ⟨by rw [← hq_]; exact (by repeat (first | (with_reducible first | exact HB.out | apply below_alloc | apply pw_below_drewN | apply below_drew1 | refine below_set ?_ GE244.out) | exact HB.out))⟩; clear HO239 HO243 BK244 HB hq_; have HO239 := n0_; have HO243 := n1_; have BK244 := n2_; have HB := n3_; clear n0_ n1_ n2_ n3_))
  have n0_ := Aside0.mk (Kd.R_drew HO239.out)
  have n1_ := Aside0.mk (Kd.S_drew HO243.out)
  have n2_ := Aside0.mk (blk_drew BK244.out)
  have n3_ := Aside0.mk (below_drew1 HB.out)
  clear HO239
  clear HO243
  clear BK244
  clear HB
  have HO239 := n0_
  have HO243 := n1_
  have BK244 := n2_
  have HB := n3_
  clear n0_ n1_ n2_ n3_
  refine start_ (n := 10) (S := fun w' => w'.cell? ⟨gb244, 0, none⟩ = some (.slice Ao38 t237.length co38) ∧ w'.cell? ⟨gb244, 1, none⟩ = some (.int .i64 t240)) (ds := []) (fl_ 0 10) (by kernel_rfl) rfl rfl ⟨(blk_cell BK244.out 0).trans rfl, (blk_cell BK244.out 1).trans rfl⟩ (fun hHeld => ?_); refine with_tabW hypercubelaw10_SortsLeast.tab5 hypercubelaw10_SortsLeast.bits5 (fun HT_ HW_ => ?_)
  generalize w40.drew = w41 at HO239 HO243 BK244 HB hHeld ⊢
  refine pure_ (i := 1) (N := some 25) (v := ?_) (a' := ?_) #[Z,Y,Z,Z,Z,Z,Z,Z,Z,Z] rfl rfl (any_of HT_.out (by kernel_rfl)) (fun _ _ _ h => h) (Or.inl ⟨by rfl, ?_⟩) ?_ ?_
  rotate_left
  ·intro w'
   go_simp
   with_reducible rfl
  rotate_left
  ·simp only [Act.put, sl0, sl1, sl2, i64_w, i32_w]
   rfl
  refine pure_ (i := 3) (N := some 27) (v := ?_) (a' := ?_) #[Z,Y,Z,Y,Z,Z,Z,Z,Z,Z] rfl rfl (any_of HT_.out (by kernel_rfl)) (fun _ _ _ h => h) (Or.inl ⟨by rfl, ?_⟩) ?_ ?_
  rotate_left
  ·intro w'
   go_simp
   with_reducible rfl
  rotate_left
  ·simp only [Act.put, sl0, sl1, sl2, i64_w, i32_w]
   rfl
  refine pure_ (i := 6) (N := some 30) (v := ?_) (a' := ?_) #[Z,Y,Z,Y,Z,Z,Y,Z,Z,Z] rfl rfl (any_of HT_.out (by kernel_rfl)) (fun _ _ _ h => h) (Or.inl ⟨by rfl, ?_⟩) ?_ ?_
  rotate_left
  ·intro w'
   go_simp
   with_reducible rfl
  rotate_left
  ·simp only [Act.put, sl0, sl1, sl2, i64_w, i32_w]
   rfl
  refine take_ (i := 0) (N := some 24) (v := ?_) (a' := ?_) #[Y,Y,Z,Y,Z,Z,Y,Z,Z,Z] rfl rfl (take_ofW HT_.out HW_.out (by kernel_rfl)) (fun _ _ _ h => h) (Or.inl ⟨by rfl, ?_⟩) hHeld ?_ ?_
  rotate_left
  ·rintro w' ⟨s0, s1⟩
   go_simp
   with_reducible rfl
  rotate_left
  ·simp only [Act.put, sl0, sl1, sl2, i64_w, i32_w]
   rfl
  refine take_ (i := 4) (N := some 28) (v := ?_) (a' := ?_) #[Y,Y,Z,Y,Y,Z,Y,Z,Z,Z] rfl rfl (take_ofW HT_.out HW_.out (by kernel_rfl)) (fun _ _ _ h => h) (Or.inl ⟨by rfl, ?_⟩) hHeld ?_ ?_
  rotate_left
  ·rintro w' ⟨s0, s1⟩
   go_simp
   with_reducible rfl
  rotate_left
  ·simp only [Act.put, sl0, sl1, sl2, i64_w, i32_w]
   rfl
  refine pure_ (i := 5) (N := some 29) (v := ?_) (a' := ?_) #[Y,Y,Z,Y,Y,Y,Y,Z,Z,Z] rfl rfl (any_of HT_.out (by kernel_rfl)) (fun _ _ _ h => h) (Or.inl ⟨by rfl, ?_⟩) ?_ ?_
  rotate_left
  ·intro w'
   go_simp
   with_reducible rfl
  rotate_left
  ·simp only [Act.put, sl0, sl1, sl2, i64_w, i32_w]
   rfl
  refine one_ (i := 2) (N := some 26) (fl_ 7 3) rfl rfl (one_of HT_.out (by kernel_rfl)) (by decide) (fun K hK => ?_)
  refine goes_ Try.func55 (by kernel_rfl) rfl #[.agg #[.slice Ao38 t237.length co38, .int .i64 t240], .int .i64 t245] (by rfl) rfl rfl (by (try simp only [List.map_toArray, List.map_cons, List.map_nil]); first | done | rfl | (simp only [List.length_drop, List.length_take]; rfl)) ?_
  with_reducible refine (sorts_Plan.calls _ _ t237 t240 t245 t246 _ ?side1 ?side2 A9.out).mono ?_
  (case side1 => repeat (first | exact (Kd.R_reads' HO239.out).2.2 | (with_reducible refine Kd.C_alloc ?_ _) | (with_reducible refine Kd.C_drewN ?_ _) | (with_reducible refine Kd.C_drew ?_)))
  (case side2 => exact (Kd.R_reads' HO239.out).2.1)
  rintro e w42 ⟨v247, rfl, ho0, hb⟩
  refine ⟨_, rfl, ?_⟩
  have n0_ := Aside0.mk (Kd.R_below (by (with_reducible repeat (first | apply Kd.R_alloc | apply Kd.R_drewN | apply Kd.R_drew)); exact HO239.out) hb)
  have n1_ := Aside0.mk (Kd.S_below (by (with_reducible repeat (first | apply Kd.S_alloc | apply Kd.S_drewN | apply Kd.S_drew)); exact HO243.out) hb)
  have n2_ := Aside0.mk (Kd.R_lower ho0 (below_size (by repeat (first | (with_reducible first | exact HB.out | apply below_alloc | apply pw_below_drewN | apply below_drew1 | refine below_set ?_ GE244.out) | exact HB.out))))
  have n3_ := Aside0.mk (blk_below (g := gb244) (o := .cells #[.slice Ao38 t237.length co38, .int .i64 t240] 33 (0, 0)) (by (with_reducible repeat (first | refine blk_drewN ?_ _ | refine blk_drew ?_ | refine blk_alloc ?_ _)); exact BK244.out) hb)
  have n4_ := Aside0.mk (below_step (by repeat (first | (with_reducible first | exact HB.out | apply below_alloc | apply pw_below_drewN | apply below_drew1 | refine below_set ?_ GE244.out) | exact HB.out)) hb)
  clear HO239
  clear HO243
  clear BK244
  clear HB
  have HO239 := n0_
  have HO243 := n1_
  have HO248 := n2_
  have BK244 := n3_
  have HB := n4_
  clear n0_ n1_ n2_ n3_ n4_
  (try clear hb)
  (try clear hb2)
  (try clear hk)
  (try clear hi)
  (try clear ho0)
  refine hK.out _ _ ⟨(blk_cell BK244.out 0).trans rfl, (blk_cell BK244.out 1).trans rfl⟩ (fun hHeld => ?_)
  clear hK K
  refine norm_ (a' := ?_) ?_ ?_
  rotate_left
  ·show Act.put _ (some 26) _ = _
   simp only [Act.put, sl0, sl1, sl2, i64_w, i32_w]
   rfl
  refine one_ (i := 7) (N := some 31) (fl_ 8 2) rfl rfl (one_of HT_.out (by kernel_rfl)) (by decide) (fun K hK => ?_)
  refine goes_ Try.func53 (by kernel_rfl) rfl #[.int .i64 (t237.length : Int), .slice A3 l3.length c3] (by rfl) rfl rfl (by (try simp only [List.map_toArray, List.map_cons, List.map_nil]); first | done | rfl | (simp only [List.length_drop, List.length_take]; rfl)) ?_
  with_reducible refine (hypercubelaw10_Other.calls k (t237.length : Int) _ _ l3 t249 _ ?side1 ?side2 A10.out).mono ?_
  (case side1 => repeat (first | exact (Kd.C_below HR3.out HB.out) | (with_reducible refine Kd.C_alloc ?_ _) | (with_reducible refine Kd.C_drewN ?_ _) | (with_reducible refine Kd.C_drew ?_)))
  (case side2 => exact HC3.out)
  rintro e w43 ⟨v250, rfl, ho0, hb⟩
  refine ⟨_, rfl, ?_⟩
  have n0_ := Aside0.mk (Kd.R_below (by (with_reducible repeat (first | apply Kd.R_alloc | apply Kd.R_drewN | apply Kd.R_drew)); exact HO239.out) hb)
  have n1_ := Aside0.mk (Kd.S_below (by (with_reducible repeat (first | apply Kd.S_alloc | apply Kd.S_drewN | apply Kd.S_drew)); exact HO243.out) hb)
  have n2_ := Aside0.mk (Kd.R_elder' (by (with_reducible repeat (first | apply Kd.R_alloc | apply Kd.R_drewN | apply Kd.R_drew)); exact HO248.out) (Kd.R_base ho0) hb)
  have n3_ := Aside0.mk (Kd.R_lower (Kd.R_new' ho0 (Kd.R_lt (by (with_reducible repeat (first | apply Kd.R_alloc | apply Kd.R_drewN | apply Kd.R_drew)); exact HO248.out))) (below_size (by repeat (first | (with_reducible first | exact HB.out | apply below_alloc | apply pw_below_drewN | apply below_drew1 | refine below_set ?_ GE244.out) | exact HB.out))))
  have n4_ := Aside0.mk (blk_below (g := gb244) (o := .cells #[.slice Ao38 t237.length co38, .int .i64 t240] 33 (0, 0)) (by (with_reducible repeat (first | refine blk_drewN ?_ _ | refine blk_drew ?_ | refine blk_alloc ?_ _)); exact BK244.out) hb)
  have n5_ := Aside0.mk (below_step (by repeat (first | (with_reducible first | exact HB.out | apply below_alloc | apply pw_below_drewN | apply below_drew1 | refine below_set ?_ GE244.out) | exact HB.out)) hb)
  clear HO239
  clear HO243
  clear HO248
  clear BK244
  clear HB
  have HO239 := n0_
  have HO243 := n1_
  have HO248 := n2_
  have HO251 := n3_
  have BK244 := n4_
  have HB := n5_
  clear n0_ n1_ n2_ n3_ n4_ n5_
  (try clear hb)
  (try clear hb2)
  (try clear hk)
  (try clear hi)
  (try clear ho0)
  refine hK.out _ _ ⟨(blk_cell BK244.out 0).trans rfl, (blk_cell BK244.out 1).trans rfl⟩ (fun hHeld => ?_)
  clear hK K
  refine norm_ (a' := ?_) ?_ ?_
  rotate_left
  ·show Act.put _ (some 31) _ = _
   simp only [Act.put, sl0, sl1, sl2, i64_w, i32_w]
   rfl
  refine pure_ (i := 8) (N := some 12) (v := ?_) (a' := ?_) (fl_ 9 1) rfl rfl (any_of HT_.out (by kernel_rfl)) (fun _ _ _ h => h) (Or.inl ⟨by rfl, ?_⟩) ?_ ?_
  rotate_left
  ·intro w'
   go_simp
   with_reducible rfl
  rotate_left
  ·simp only [Act.put, sl0, sl1, sl2, i64_w, i32_w]
   rfl
  refine pure_ (i := 9) (N := some 13) (v := ?_) (a' := ?_) (fl_ 10 0) rfl rfl (any_of HT_.out (by kernel_rfl)) (fun _ _ _ h => h) (Or.inl ⟨by rfl, ?_⟩) ?_ ?_
  rotate_left
  ·intro w'
   go_simp
   with_reducible rfl
  rotate_left
  ·simp only [Act.put, sl0, sl1, sl2, i64_w, i32_w]
   rfl
  refine done_ (done_of HT_.out (by kernel_rfl)) ?_
  try go_wp2
  have n0_ := Aside0.mk (Kd.R_drew HO239.out)
  have n1_ := Aside0.mk (Kd.S_drew HO243.out)
  have n2_ := Aside0.mk (Kd.R_drew HO248.out)
  have n3_ := Aside0.mk (Kd.R_drew HO251.out)
  have n4_ := Aside0.mk (blk_drew BK244.out)
  have n5_ := Aside0.mk (below_drew1 HB.out)
  clear HO239
  clear HO243
  clear HO248
  clear HO251
  clear BK244
  clear HB
  have HO239 := n0_
  have HO243 := n1_
  have HO248 := n2_
  have HO251 := n3_
  have BK244 := n4_
  have HB := n5_
  clear n0_ n1_ n2_ n3_ n4_ n5_
  obtain ⟨Ao45, co45, eo45⟩ := Kd.R_slice HO251.out
  (first | subst eo45 | (injection eo45 with f1_ f2_ f3_; have f4_ := f1_.symm; have f5_ := f3_.symm; clear f1_ f2_ f3_; subst f4_; subst f5_))
  refine start_ (n := 28) (S := fun w' => w'.cell? ⟨gb244, 0, none⟩ = some (.slice Ao38 t237.length co38) ∧ w'.cell? ⟨gb244, 1, none⟩ = some (.int .i64 t240)) (ds := []) (fl_ 0 28) (by kernel_rfl) rfl rfl ⟨(blk_cell BK244.out 0).trans rfl, (blk_cell BK244.out 1).trans rfl⟩ (fun hHeld => ?_); refine with_tabW hypercubelaw10_SortsLeast.tab6 hypercubelaw10_SortsLeast.bits6 (fun HT_ HW_ => ?_)
  generalize w43.drew = w44 at HO239 HO243 HO248 HO251 BK244 HB hHeld ⊢
  refine pure_ (i := 0) (N := some 32) (v := ?_) (a' := ?_) (fl_ 1 27) rfl rfl (any_of HT_.out (by kernel_rfl)) (fun _ _ _ h => h) (Or.inl ⟨by rfl, ?_⟩) ?_ ?_
  rotate_left
  ·intro w'
   go_simp
   with_reducible rfl
  rotate_left
  ·simp only [Act.put, sl0, sl1, sl2, i64_w, i32_w]
   rfl
  refine pure_ (i := 1) (N := some 33) (v := ?_) (a' := ?_) (fl_ 2 26) rfl rfl (any_of HT_.out (by kernel_rfl)) (fun _ _ _ h => h) (Or.inl ⟨by rfl, ?_⟩) ?_ ?_
  rotate_left
  ·intro w'
   go_simp
   with_reducible rfl
  rotate_left
  ·simp only [Act.put, sl0, sl1, sl2, i64_w, i32_w]
   rfl
  refine take_ (i := 2) (N := some 34) (v := ?_) (a' := ?_) (fl_ 3 25) rfl rfl (take_ofW HT_.out HW_.out (by kernel_rfl)) (fun _ _ _ h => h) (Or.inl ⟨by rfl, ?_⟩) hHeld ?_ ?_
  rotate_left
  ·rintro w' ⟨s0, s1⟩
   go_simp
   with_reducible rfl
  rotate_left
  ·simp only [Act.put, sl0, sl1, sl2, i64_w, i32_w]
   rfl
  refine pure_ (i := 3) (N := some 35) (v := ?_) (a' := ?_) (fl_ 4 24) rfl rfl (any_of HT_.out (by kernel_rfl)) (fun _ _ _ h => h) (Or.inl ⟨by rfl, ?_⟩) ?_ ?_
  rotate_left
  ·intro w'
   go_simp
   with_reducible rfl
  rotate_left
  ·simp only [Act.put, sl0, sl1, sl2, i64_w, i32_w]
   rfl
  refine one_ (i := 4) (N := some 36) (fl_ 5 23) rfl rfl (one_of HT_.out (by kernel_rfl)) (by decide) (fun K hK => ?_)
  refine goes_ Try.func54 (by kernel_rfl) rfl #[.slice Ao45 t249.length co45, .int .i64 (t237.length : Int)] (by rfl) rfl rfl (by (try simp only [List.map_toArray, List.map_cons, List.map_nil]); first | done | rfl | (simp only [List.length_drop, List.length_take]; rfl)) ?_
  with_reducible refine (sorts_Right.calls _ _ t249 (t237.length : Int) true _ ?side1 ?side2 A11.out).mono ?_
  (case side1 => repeat (first | exact (Kd.R_reads' HO251.out).2.2 | (with_reducible refine Kd.C_alloc ?_ _) | (with_reducible refine Kd.C_drewN ?_ _) | (with_reducible refine Kd.C_drew ?_)))
  (case side2 => exact (Kd.R_reads' HO251.out).2.1)
  rintro e w46 ⟨rfl, hb⟩
  refine ⟨_, rfl, ?_⟩
  have n0_ := Aside0.mk (Kd.R_below (by (with_reducible repeat (first | apply Kd.R_alloc | apply Kd.R_drewN | apply Kd.R_drew)); exact HO239.out) hb)
  have n1_ := Aside0.mk (Kd.S_below (by (with_reducible repeat (first | apply Kd.S_alloc | apply Kd.S_drewN | apply Kd.S_drew)); exact HO243.out) hb)
  have n2_ := Aside0.mk (Kd.R_below (by (with_reducible repeat (first | apply Kd.R_alloc | apply Kd.R_drewN | apply Kd.R_drew)); exact HO248.out) hb)
  have n3_ := Aside0.mk (Kd.R_below (by (with_reducible repeat (first | apply Kd.R_alloc | apply Kd.R_drewN | apply Kd.R_drew)); exact HO251.out) hb)
  have n4_ := Aside0.mk (blk_below (g := gb244) (o := .cells #[.slice Ao38 t237.length co38, .int .i64 t240] 33 (0, 0)) (by (with_reducible repeat (first | refine blk_drewN ?_ _ | refine blk_drew ?_ | refine blk_alloc ?_ _)); exact BK244.out) hb)
  have n5_ := Aside0.mk (below_step (by repeat (first | (with_reducible first | exact HB.out | apply below_alloc | apply pw_below_drewN | apply below_drew1 | refine below_set ?_ GE244.out) | exact HB.out)) hb)
  clear HO239
  clear HO243
  clear HO248
  clear HO251
  clear BK244
  clear HB
  have HO239 := n0_
  have HO243 := n1_
  have HO248 := n2_
  have HO251 := n3_
  have BK244 := n4_
  have HB := n5_
  clear n0_ n1_ n2_ n3_ n4_ n5_
  (try clear hb)
  (try clear hb2)
  (try clear hk)
  (try clear hi)
  obtain ⟨Ao47, co47, eo47⟩ := Kd.R_slice HO248.out
  (first | subst eo47 | (injection eo47 with f1_ f2_ f3_; have f4_ := f1_.symm; have f5_ := f3_.symm; clear f1_ f2_ f3_; subst f4_; subst f5_))
  refine hK.out _ _ ⟨(blk_cell BK244.out 0).trans rfl, (blk_cell BK244.out 1).trans rfl⟩ (fun hHeld => ?_)
  clear hK K
  refine norm_ (a' := ?_) ?_ ?_
  rotate_left
  ·show Act.put _ (some 36) _ = _
   simp only [Act.put, sl0, sl1, sl2, i64_w, i32_w]
   rfl
  refine pure_ (i := 5) (N := some 37) (v := ?_) (a' := ?_) (fl_ 6 22) rfl rfl (any_of HT_.out (by kernel_rfl)) (fun _ _ _ h => h) (Or.inl ⟨by rfl, ?_⟩) ?_ ?_
  rotate_left
  ·intro w'
   go_simp
   with_reducible rfl
  rotate_left
  ·simp only [Act.put, sl0, sl1, sl2, i64_w, i32_w]
   rfl
  refine pure_ (i := 7) (N := some 39) (v := ?_) (a' := ?_) #[Y,Y,Y,Y,Y,Y,Z,Y,Z,Z,Z,Z,Z,Z,Z,Z,Z,Z,Z,Z,Z,Z,Z,Z,Z,Z,Z,Z] rfl rfl (any_of HT_.out (by kernel_rfl)) (fun _ _ _ h => h) (Or.inl ⟨by rfl, ?_⟩) ?_ ?_
  rotate_left
  ·intro w'
   go_simp
   with_reducible rfl
  rotate_left
  ·simp only [Act.put, sl0, sl1, sl2, i64_w, i32_w]
   rfl
  refine pure_ (i := 8) (N := some 40) (v := ?_) (a' := ?_) #[Y,Y,Y,Y,Y,Y,Z,Y,Y,Z,Z,Z,Z,Z,Z,Z,Z,Z,Z,Z,Z,Z,Z,Z,Z,Z,Z,Z] rfl rfl (any_of HT_.out (by kernel_rfl)) (fun _ _ _ h => h) (Or.inl ⟨by rfl, ?_⟩) ?_ ?_
  rotate_left
  ·intro w'
   go_simp
   with_reducible rfl
  rotate_left
  ·simp only [Act.put, sl0, sl1, sl2, i64_w, i32_w]
   rfl
  refine pure_ (i := 11) (N := some 43) (v := ?_) (a' := ?_) #[Y,Y,Y,Y,Y,Y,Z,Y,Y,Z,Z,Y,Z,Z,Z,Z,Z,Z,Z,Z,Z,Z,Z,Z,Z,Z,Z,Z] rfl rfl (any_of HT_.out (by kernel_rfl)) (fun _ _ _ h => h) (Or.inl ⟨by rfl, ?_⟩) ?_ ?_
  rotate_left
  ·intro w'
   go_simp
   with_reducible rfl
  rotate_left
  ·simp only [Act.put, sl0, sl1, sl2, i64_w, i32_w]
   rfl
  refine pure_ (i := 12) (N := some 44) (v := ?_) (a' := ?_) #[Y,Y,Y,Y,Y,Y,Z,Y,Y,Z,Z,Y,Y,Z,Z,Z,Z,Z,Z,Z,Z,Z,Z,Z,Z,Z,Z,Z] rfl rfl (any_of HT_.out (by kernel_rfl)) (fun _ _ _ h => h) (Or.inl ⟨by rfl, ?_⟩) ?_ ?_
  rotate_left
  ·intro w'
   go_simp
   with_reducible rfl
  rotate_left
  ·simp only [Act.put, sl0, sl1, sl2, i64_w, i32_w]
   rfl
  refine take_ (i := 6) (N := some 38) (v := ?_) (a' := ?_) #[Y,Y,Y,Y,Y,Y,Y,Y,Y,Z,Z,Y,Y,Z,Z,Z,Z,Z,Z,Z,Z,Z,Z,Z,Z,Z,Z,Z] rfl rfl (take_ofW HT_.out HW_.out (by kernel_rfl)) (fun _ _ _ h => h) (Or.inl ⟨by rfl, ?_⟩) hHeld ?_ ?_
  rotate_left
  ·rintro w' ⟨s0, s1⟩
   go_simp
   with_reducible rfl
  rotate_left
  ·simp only [Act.put, sl0, sl1, sl2, i64_w, i32_w]
   rfl
  refine take_ (i := 10) (N := some 42) (v := ?_) (a' := ?_) #[Y,Y,Y,Y,Y,Y,Y,Y,Y,Z,Y,Y,Y,Z,Z,Z,Z,Z,Z,Z,Z,Z,Z,Z,Z,Z,Z,Z] rfl rfl (take_ofW HT_.out HW_.out (by kernel_rfl)) (fun _ _ _ h => h) (Or.inl ⟨by rfl, ?_⟩) hHeld ?_ ?_
  rotate_left
  ·rintro w' ⟨s0, s1⟩
   go_simp
   with_reducible rfl
  rotate_left
  ·simp only [Act.put, sl0, sl1, sl2, i64_w, i32_w]
   rfl
  refine one_ (i := 9) (N := some 41) (fl_ 13 15) rfl rfl (one_of HT_.out (by kernel_rfl)) (by decide) (fun K hK => ?_)
  refine goes_ Try.func56 (by kernel_rfl) rfl #[.agg #[.slice Ao38 t237.length co38, .int .i64 t240], .int .i64 t245, .slice Ao47 t246.length co47] (by rfl) rfl rfl (by (try simp only [List.map_toArray, List.map_cons, List.map_nil]); first | done | rfl | (simp only [List.length_drop, List.length_take]; rfl)) ?_
  with_reducible refine (sorts_Cost.calls _ _ t237 t240 t245 _ _ t246 t253 _ ?side1 ?side2 ?side3 ?side4 A13.out).mono ?_
  (case side1 => repeat (first | exact (Kd.R_reads' HO239.out).2.2 | (with_reducible refine Kd.C_alloc ?_ _) | (with_reducible refine Kd.C_drewN ?_ _) | (with_reducible refine Kd.C_drew ?_)))
  (case side2 => exact (Kd.R_reads' HO239.out).2.1)
  (case side3 => repeat (first | exact (Kd.R_reads' HO248.out).2.2 | (with_reducible refine Kd.C_alloc ?_ _) | (with_reducible refine Kd.C_drewN ?_ _) | (with_reducible refine Kd.C_drew ?_)))
  (case side4 => exact (Kd.R_reads' HO248.out).2.1)
  rintro e w48 ⟨rfl, hb⟩
  refine ⟨_, rfl, ?_⟩
  have n0_ := Aside0.mk (Kd.R_below (by (with_reducible repeat (first | apply Kd.R_alloc | apply Kd.R_drewN | apply Kd.R_drew)); exact HO239.out) hb)
  have n1_ := Aside0.mk (Kd.S_below (by (with_reducible repeat (first | apply Kd.S_alloc | apply Kd.S_drewN | apply Kd.S_drew)); exact HO243.out) hb)
  have n2_ := Aside0.mk (Kd.R_below (by (with_reducible repeat (first | apply Kd.R_alloc | apply Kd.R_drewN | apply Kd.R_drew)); exact HO248.out) hb)
  have n3_ := Aside0.mk (Kd.R_below (by (with_reducible repeat (first | apply Kd.R_alloc | apply Kd.R_drewN | apply Kd.R_drew)); exact HO251.out) hb)
  have n4_ := Aside0.mk (blk_below (g := gb244) (o := .cells #[.slice Ao38 t237.length co38, .int .i64 t240] 33 (0, 0)) (by (with_reducible repeat (first | refine blk_drewN ?_ _ | refine blk_drew ?_ | refine blk_alloc ?_ _)); exact BK244.out) hb)
  have n5_ := Aside0.mk (below_step (by repeat (first | (with_reducible first | exact HB.out | apply below_alloc | apply pw_below_drewN | apply below_drew1 | refine below_set ?_ GE244.out) | exact HB.out)) hb)
  clear HO239
  clear HO243
  clear HO248
  clear HO251
  clear BK244
  clear HB
  have HO239 := n0_
  have HO243 := n1_
  have HO248 := n2_
  have HO251 := n3_
  have BK244 := n4_
  have HB := n5_
  clear n0_ n1_ n2_ n3_ n4_ n5_
  (try clear hb)
  (try clear hb2)
  (try clear hk)
  (try clear hi)
  refine hK.out _ _ ⟨(blk_cell BK244.out 0).trans rfl, (blk_cell BK244.out 1).trans rfl⟩ (fun hHeld => ?_)
  clear hK K
  refine norm_ (a' := ?_) ?_ ?_
  rotate_left
  ·show Act.put _ (some 41) _ = _
   simp only [Act.put, sl0, sl1, sl2, i64_w, i32_w]
   rfl
  refine one_ (i := 13) (N := some 45) (fl_ 14 14) rfl rfl (one_of HT_.out (by kernel_rfl)) (by decide) (fun K hK => ?_)
  refine goes_ Try.func56 (by kernel_rfl) rfl #[.agg #[.slice Ao38 t237.length co38, .int .i64 t240], .int .i64 t245, .slice Ao45 t249.length co45] (by rfl) rfl rfl (by (try simp only [List.map_toArray, List.map_cons, List.map_nil]); first | done | rfl | (simp only [List.length_drop, List.length_take]; rfl)) ?_
  with_reducible refine (sorts_Cost.calls _ _ t237 t240 t245 _ _ t249 t254 _ ?side1 ?side2 ?side3 ?side4 A14.out).mono ?_
  (case side1 => repeat (first | exact (Kd.R_reads' HO239.out).2.2 | (with_reducible refine Kd.C_alloc ?_ _) | (with_reducible refine Kd.C_drewN ?_ _) | (with_reducible refine Kd.C_drew ?_)))
  (case side2 => exact (Kd.R_reads' HO239.out).2.1)
  (case side3 => repeat (first | exact (Kd.R_reads' HO251.out).2.2 | (with_reducible refine Kd.C_alloc ?_ _) | (with_reducible refine Kd.C_drewN ?_ _) | (with_reducible refine Kd.C_drew ?_)))
  (case side4 => exact (Kd.R_reads' HO251.out).2.1)
  rintro e w49 ⟨rfl, hb⟩
  refine ⟨_, rfl, ?_⟩
  have n0_ := Aside0.mk (Kd.R_below (by (with_reducible repeat (first | apply Kd.R_alloc | apply Kd.R_drewN | apply Kd.R_drew)); exact HO239.out) hb)
  have n1_ := Aside0.mk (Kd.S_below (by (with_reducible repeat (first | apply Kd.S_alloc | apply Kd.S_drewN | apply Kd.S_drew)); exact HO243.out) hb)
  have n2_ := Aside0.mk (Kd.R_below (by (with_reducible repeat (first | apply Kd.R_alloc | apply Kd.R_drewN | apply Kd.R_drew)); exact HO248.out) hb)
  have n3_ := Aside0.mk (Kd.R_below (by (with_reducible repeat (first | apply Kd.R_alloc | apply Kd.R_drewN | apply Kd.R_drew)); exact HO251.out) hb)
  have n4_ := Aside0.mk (blk_below (g := gb244) (o := .cells #[.slice Ao38 t237.length co38, .int .i64 t240] 33 (0, 0)) (by (with_reducible repeat (first | refine blk_drewN ?_ _ | refine blk_drew ?_ | refine blk_alloc ?_ _)); exact BK244.out) hb)
  have n5_ := Aside0.mk (below_step (by repeat (first | (with_reducible first | exact HB.out | apply below_alloc | apply pw_below_drewN | apply below_drew1 | refine below_set ?_ GE244.out) | exact HB.out)) hb)
  clear HO239
  clear HO243
  clear HO248
  clear HO251
  clear BK244
  clear HB
  have HO239 := n0_
  have HO243 := n1_
  have HO248 := n2_
  have HO251 := n3_
  have BK244 := n4_
  have HB := n5_
  clear n0_ n1_ n2_ n3_ n4_ n5_
  (try clear hb)
  (try clear hb2)
  (try clear hk)
  (try clear hi)
  refine hK.out _ _ ⟨(blk_cell BK244.out 0).trans rfl, (blk_cell BK244.out 1).trans rfl⟩ (fun hHeld => ?_)
  clear hK K
  refine norm_ (a' := ?_) ?_ ?_
  rotate_left
  ·show Act.put _ (some 45) _ = _
   simp only [Act.put, sl0, sl1, sl2, i64_w, i32_w]
   rfl
  refine pure_ (i := 14) (N := some 46) (v := ?_) (a' := ?_) (fl_ 15 13) rfl rfl (any_of HT_.out (by kernel_rfl)) (fun _ _ _ h => h) (Or.inl ⟨by rfl, ?_⟩) ?_ ?_
  rotate_left
  ·intro w'
   go_simp
   with_reducible rfl
  rotate_left
  ·simp only [Act.put, sl0, sl1, sl2, i64_w, i32_w]
   rfl
  refine pure_ (i := 15) (N := some 47) (v := ?_) (a' := ?_) (fl_ 16 12) rfl rfl (any_of HT_.out (by kernel_rfl)) (fun _ _ _ h => h) (Or.inl ⟨by rfl, ?_⟩) ?_ ?_
  rotate_left
  ·intro w'
   go_simp
   with_reducible rfl
  rotate_left
  ·simp only [Act.put, sl0, sl1, sl2, i64_w, i32_w]
   rfl
  refine pure_ (i := 16) (N := some 48) (v := ?_) (a' := ?_) (fl_ 17 11) rfl rfl (any_of HT_.out (by kernel_rfl)) (fun _ _ _ h => h) (Or.inl ⟨by rfl, ?_⟩) ?_ ?_
  rotate_left
  ·intro w'
   go_simp
   with_reducible rfl
  rotate_left
  ·simp only [Act.put, sl0, sl1, sl2, i64_w, i32_w]
   rfl
  refine pure_ (i := 17) (N := some 49) (v := undef) (a' := ?_) (fl_ 18 10) rfl rfl (any_of HT_.out (by kernel_rfl)) (fun _ _ _ h => h) (Or.inr ⟨by rfl, rfl⟩) ?_ ?_
  rotate_left
  ·simp only [Act.put, sl0, sl1, sl2, i64_w, i32_w]
   rfl
  refine pure_ (i := 18) (N := some 50) (v := undef) (a' := ?_) (fl_ 19 9) rfl rfl (any_of HT_.out (by kernel_rfl)) (fun _ _ _ h => h) (Or.inr ⟨by rfl, rfl⟩) ?_ ?_
  rotate_left
  ·simp only [Act.put, sl0, sl1, sl2, i64_w, i32_w]
   rfl
  refine pure_ (i := 19) (N := some 51) (v := undef) (a' := ?_) (fl_ 20 8) rfl rfl (any_of HT_.out (by kernel_rfl)) (fun _ _ _ h => h) (Or.inr ⟨by rfl, rfl⟩) ?_ ?_
  rotate_left
  ·simp only [Act.put, sl0, sl1, sl2, i64_w, i32_w]
   rfl
  refine pure_ (i := 20) (N := some 52) (v := undef) (a' := ?_) (fl_ 21 7) rfl rfl (any_of HT_.out (by kernel_rfl)) (fun _ _ _ h => h) (Or.inr ⟨by rfl, rfl⟩) ?_ ?_
  rotate_left
  ·simp only [Act.put, sl0, sl1, sl2, i64_w, i32_w]
   rfl
  refine pure_ (i := 21) (N := some 53) (v := undef) (a' := ?_) (fl_ 22 6) rfl rfl (any_of HT_.out (by kernel_rfl)) (fun _ _ _ h => h) (Or.inr ⟨by rfl, rfl⟩) ?_ ?_
  rotate_left
  ·simp only [Act.put, sl0, sl1, sl2, i64_w, i32_w]
   rfl
  refine pure_ (i := 22) (N := some 54) (v := undef) (a' := ?_) (fl_ 23 5) rfl rfl (any_of HT_.out (by kernel_rfl)) (fun _ _ _ h => h) (Or.inr ⟨by rfl, rfl⟩) ?_ ?_
  rotate_left
  ·simp only [Act.put, sl0, sl1, sl2, i64_w, i32_w]
   rfl
  refine pure_ (i := 23) (N := some 55) (v := undef) (a' := ?_) (fl_ 24 4) rfl rfl (any_of HT_.out (by kernel_rfl)) (fun _ _ _ h => h) (Or.inr ⟨by rfl, rfl⟩) ?_ ?_
  rotate_left
  ·simp only [Act.put, sl0, sl1, sl2, i64_w, i32_w]
   rfl
  refine pure_ (i := 24) (N := some 56) (v := undef) (a' := ?_) (fl_ 25 3) rfl rfl (any_of HT_.out (by kernel_rfl)) (fun _ _ _ h => h) (Or.inr ⟨by rfl, rfl⟩) ?_ ?_
  rotate_left
  ·simp only [Act.put, sl0, sl1, sl2, i64_w, i32_w]
   rfl
  refine pure_ (i := 25) (N := some 57) (v := undef) (a' := ?_) (fl_ 26 2) rfl rfl (any_of HT_.out (by kernel_rfl)) (fun _ _ _ h => h) (Or.inr ⟨by rfl, rfl⟩) ?_ ?_
  rotate_left
  ·simp only [Act.put, sl0, sl1, sl2, i64_w, i32_w]
   rfl
  refine pure_ (i := 26) (N := some 58) (v := ?_) (a' := ?_) (fl_ 27 1) rfl rfl (any_of HT_.out (by kernel_rfl)) (fun _ _ _ h => h) (Or.inl ⟨by rfl, ?_⟩) ?_ ?_
  rotate_left
  ·intro w'
   go_simp
   with_reducible rfl
  rotate_left
  ·simp only [Act.put, sl0, sl1, sl2, i64_w, i32_w]
   rfl
  refine pure_ (i := 27) (N := some 8) (v := ?_) (a' := ?_) (fl_ 28 0) rfl rfl (any_of HT_.out (by kernel_rfl)) (fun _ _ _ h => h) (Or.inl ⟨by rfl, ?_⟩) ?_ ?_
  rotate_left
  ·intro w'
   go_simp
   with_reducible rfl
  rotate_left
  ·simp only [Act.put, sl0, sl1, sl2, i64_w, i32_w]
   rfl
  refine done_ (done_of HT_.out (by kernel_rfl)) ?_
  try go_wp2
  go_ret
  exact ⟨by first | rfl | (simp [errW_none, errW_some] <;> rfl) | (simp [*, errW_none, errW_some] <;> rfl), by repeat (first | (with_reducible first | exact HB.out | apply below_alloc | apply pw_below_drewN | apply below_drew1 | refine below_set ?_ GE244.out) | exact HB.out)⟩
 rw [if_pos c15] at H
 have c15b0 : decide (t253 ≤ t254) = true := decide_eq_true c15
 clear c15
 replace H := Option.bind_eq_some_iff.mp H
 obtain ⟨t255, A160, H⟩ := H
 replace H : ((hypercuberef10_Cost.f k t237 t240 t245 t249).bind fun t256 => (some (t255 == t256))) = some r := H
 have A16 := Aside0.mk A160
 clear A160
 replace H := Option.bind_eq_some_iff.mp H
 obtain ⟨t256, A170, H⟩ := H
 replace H : (some (t255 == t256)) = some r := H
 have A17 := Aside0.mk A170
 clear A170
 obtain rfl := Option.some.inj H
 go_enter Try.func21, Try.ntmps21
 try go_wp2_with (first | ((with_reducible refine gate_callee (f := 51) rfl ?_); refine goesL_ (some 14) rfl rfl Try.func51 (by kernel_rfl) rfl #[] rfl (by (try simp only [List.map_toArray, List.map_cons, List.map_nil]); first | done | rfl | (simp only [List.length_drop, List.length_take]; rfl)) ?_; (with_reducible refine (hypercubelaw10_known.calls  true _ A5.out).mono ?_); rintro e w18 ⟨rfl, hb⟩; refine ⟨_, rfl, ?_⟩; have n0_ := Aside0.mk (below_step (by repeat (first | (with_reducible first | exact HB.out | apply below_alloc | apply pw_below_drewN | apply below_drew1) | exact HB.out)) hb); clear HB; have HB := n0_; clear n0_; (try clear hb); (try clear hb2); (try clear hk); (try clear hi)) | ((with_reducible refine gate_callee (f := 32) rfl ?_); refine goesL_ (some 19) rfl rfl Try.func32 (by kernel_rfl) rfl #[.int .i64 a0, .slice A1 l1.length c1, .int .i64 0, .slice none 0 0] rfl (by (try simp only [List.map_toArray, List.map_cons, List.map_nil]); first | done | rfl | (simp only [List.length_drop, List.length_take]; rfl)) ?_; (refine (hypercubelaw1_Facts.calls k a0 _ _ l1 0 _ _ ([] : List Int) t237 t240 t241 _ ?side1 ?side2 ?side3 ?side4 A7.out).mono ?_); (case side1 => repeat (first | exact (Kd.C_below HR1.out HB.out) | (with_reducible refine Kd.C_alloc ?_ _) | (with_reducible refine Kd.C_drewN ?_ _) | (with_reducible refine Kd.C_drew ?_))); (case side2 => exact HC1.out); (case side3 => exact Kd.C_nil _ _); (case side4 => exact Nat.le_refl _); rintro e w19 ⟨v238, v242, rfl, ho0, ho1, hb⟩; refine ⟨_, rfl, ?_⟩; have n0_ := Aside0.mk (Kd.R_lower ho0 (below_size (by repeat (first | (with_reducible first | exact HB.out | apply below_alloc | apply pw_below_drewN | apply below_drew1) | exact HB.out)))); have n1_ := Aside0.mk (Kd.S_lower ho1 (below_size (by repeat (first | (with_reducible first | exact HB.out | apply below_alloc | apply pw_below_drewN | apply below_drew1) | exact HB.out)))); have n2_ := Aside0.mk (below_step (by repeat (first | (with_reducible first | exact HB.out | apply below_alloc | apply pw_below_drewN | apply below_drew1) | exact HB.out)) hb); clear HB; have HO239 := n0_; have HO243 := n1_; have HB := n2_; clear n0_ n1_ n2_; (try clear hb); (try clear hb2); (try clear hk); (try clear hi); (try clear ho0); (try clear ho1)) | ((with_reducible refine gate_dst (N := 9) rfl ?_); refine box_event ?hg (N := 9) ?hd (cs := #[.slice none 0 0, .int .i64 0]) (t := 33) ?hr ?_; (case hd => rfl); (case hg => rfl); (case hr => first | (go_simp; done) | (go_simp; rfl)); intro gb244 hg w20 hbox hb; have n0_ := Aside0.mk (Kd.R_below (by (with_reducible repeat (first | apply Kd.R_alloc | apply Kd.R_drewN | apply Kd.R_drew)); exact HO239.out) hb); have n1_ := Aside0.mk (Kd.S_below (by (with_reducible repeat (first | apply Kd.S_alloc | apply Kd.S_drewN | apply Kd.S_drew)); exact HO243.out) hb); have n2_ := Aside0.mk (below_step (by repeat (first | (with_reducible first | exact HB.out | apply below_alloc | apply pw_below_drewN | apply below_drew1) | exact HB.out)) hb); have n3_ := Aside0.mk (hbox); have n4_ := Aside0.mk ((by rw [hg]; exact (below_size (by repeat (first | (with_reducible first | exact HB.out | apply below_alloc | apply pw_below_drewN | apply below_drew1) | exact HB.out))) : w.heap.size ≤ gb244)); have n5_ := Aside0.mk ((by rw [hg]; exact (below_size (by repeat (first | (with_reducible first | exact HB.out | apply below_alloc | apply pw_below_drewN | apply below_drew1) | exact HB.out))) : w.heap.size ≤ gb244)); clear HO239; clear HO243; clear HB; have HO239 := n0_; have HO243 := n1_; have HB := n2_; have BK244 := n3_; have GW244 := n4_; have GE244 := n5_; clear n0_ n1_ n2_ n3_ n4_ n5_; clear hb hbox hg; obtain ⟨Ao21, co21, eo21⟩ := Kd.R_slice HO239.out; subst eo21; have hcz22_0 : w20.cell? ⟨gb244, 0, none⟩ = some (.slice none 0 0) := (blk_cell BK244.out 0).trans rfl; have hcz22_1 : w20.cell? ⟨gb244, 1, none⟩ = some (.int .i64 0) := (blk_cell BK244.out 1).trans rfl; have hfz22_0 := blk_frozen BK244.out 0; have hfz22_1 := blk_frozen BK244.out 1) | ((with_reducible refine gate_callee (f := 52) rfl ?_); refine goesL_ (some 23) rfl rfl Try.func52 (by kernel_rfl) rfl #[.int .i64 a2, .int .i64 301] rfl (by (try simp only [List.map_toArray, List.map_cons, List.map_nil]); first | done | rfl | (simp only [List.length_drop, List.length_take]; rfl)) ?_; (with_reducible refine (hypercubelaw10_within.calls a2 301 t245 _ A8.out).mono ?_); rintro e w' ⟨rfl, ⟨nd, rfl⟩⟩; refine ⟨_, rfl, ?_⟩))
 have n0_ : Aside0 (Kd.R (Kd.int .i64) 3 ((w20.setCell ⟨gb244, 0, none⟩ (.slice Ao21 t237.length co21)).setCell ⟨gb244, 1, none⟩ (.int .i64 t240)) w.heap.size (fun _ => True) (.slice Ao21 t237.length co21) t237) := ⟨by (with_reducible repeat (first | apply Kd.R_alloc | apply Kd.R_drewN | apply Kd.R_drew)); exact Kd.R_mono (Kd.R_far (p := ⟨gb244, 1, none⟩) (Kd.R_far (p := ⟨gb244, 0, none⟩) (Kd.R_types HO239.out BK244.out (by decide)) (fun _ hk => hk.2) (.slice Ao21 t237.length co21)) (fun _ hk => hk.2) (.int .i64 t240)) (fun _ hk => trivial)⟩
 have n1_ : Aside0 (Kd.S k39 39 ((w20.setCell ⟨gb244, 0, none⟩ (.slice Ao21 t237.length co21)).setCell ⟨gb244, 1, none⟩ (.int .i64 t240)) w.heap.size (fun k_ => some k_ ≠ (.slice Ao21 t237.length co21 : Value).ownBlock) v242 t241) := ⟨by (with_reducible repeat (first | apply Kd.S_alloc | apply Kd.S_drewN | apply Kd.S_drew)); exact Kd.S_mono (Kd.S_far (p := ⟨gb244, 1, none⟩) (Kd.S_far (p := ⟨gb244, 0, none⟩) (Kd.S_types HO243.out BK244.out (by decide)) (fun _ hk => hk.2) (.slice Ao21 t237.length co21)) (fun _ hk => hk.2) (.int .i64 t240)) (fun _ hk => hk.1)⟩
 have n2_ : Aside0 (((w20.setCell ⟨gb244, 0, none⟩ (.slice Ao21 t237.length co21)).setCell ⟨gb244, 1, none⟩ (.int .i64 t240)).heap[gb244]? = some (.cells #[.slice Ao21 t237.length co21, .int .i64 t240] 33 (0, 0))) := ⟨by (with_reducible repeat (first | refine blk_drewN ?_ _ | refine blk_drew ?_ | refine blk_alloc ?_ _)); refine blk_put (cs := #[.slice Ao21 t237.length co21, .int .i64 0]) ?_ 1 _ rfl; (with_reducible repeat (first | refine blk_drewN ?_ _ | refine blk_drew ?_ | refine blk_alloc ?_ _)); refine blk_put (cs := #[.slice none 0 0, .int .i64 0]) ?_ 0 _ rfl; (with_reducible repeat (first | refine blk_drewN ?_ _ | refine blk_drew ?_ | refine blk_alloc ?_ _)); exact BK244.out⟩
 have n3_ : Aside0 (Below w.heap.size w ((w20.setCell ⟨gb244, 0, none⟩ (.slice Ao21 t237.length co21)).setCell ⟨gb244, 1, none⟩ (.int .i64 t240))) := ⟨by repeat (first | (with_reducible first | exact HB.out | apply below_alloc | apply pw_below_drewN | apply below_drew1 | refine below_set ?_ GE244.out) | exact HB.out)⟩
 (try clear HO239)
 (try clear HO243)
 (try clear BK244)
 (try clear HB)
 generalize ((w20.setCell ⟨gb244, 0, none⟩ (.slice Ao21 t237.length co21)).setCell ⟨gb244, 1, none⟩ (.int .i64 t240)) = w23 at n0_ n1_ n2_ n3_ ⊢
 have HO239 := n0_
 have HO243 := n1_
 have BK244 := n2_
 have HB := n3_
 clear n0_ n1_ n2_ n3_
 (try (rw [drewN_self w23]; generalize hq_ : World.drewN w23 _ = w23; have n0_ : Aside0 (Kd.R (Kd.int .i64) 3 w23 w.heap.size (fun _ => True) (.slice Ao21 t237.length co21) t237) := ⟨by rw [← hq_]; exact (by (with_reducible repeat (first | apply Kd.R_alloc | apply Kd.R_drewN | apply Kd.R_drew)); exact HO239.out)⟩; have n1_ : Aside0 (Kd.S k39 39 w23 w.heap.size (fun k_ => some k_ ≠ (.slice Ao21 t237.length co21 : Value).ownBlock) v242 t241) := ⟨by rw [← hq_]; exact (by (with_reducible repeat (first | apply Kd.S_alloc | apply Kd.S_drewN | apply Kd.S_drew)); exact HO243.out)⟩; have n2_ : Aside0 (w23.heap[gb244]? = some (.cells #[.slice Ao21 t237.length co21, .int .i64 t240] 33 (0, 0))) := ⟨by rw [← hq_]; exact (by (with_reducible repeat (first | refine blk_drewN ?_ _ | refine blk_drew ?_ | refine blk_alloc ?_ _)); exact BK244.out)⟩; have n3_ : Aside0 (Below w.heap.size w w23) := ⟨by rw [← hq_]; exact (by repeat (first | (with_reducible first | exact HB.out | apply below_alloc | apply pw_below_drewN | apply below_drew1 | refine below_set ?_ GE244.out) | exact HB.out))⟩; clear HO239 HO243 BK244 HB hq_; have HO239 := n0_; have HO243 := n1_; have BK244 := n2_; have HB := n3_; clear n0_ n1_ n2_ n3_))
 have n0_ := Aside0.mk (Kd.R_drew HO239.out)
 have n1_ := Aside0.mk (Kd.S_drew HO243.out)
 have n2_ := Aside0.mk (blk_drew BK244.out)
 have n3_ := Aside0.mk (below_drew1 HB.out)
 clear HO239
 clear HO243
 clear BK244
 clear HB
 have HO239 := n0_
 have HO243 := n1_
 have BK244 := n2_
 have HB := n3_
 clear n0_ n1_ n2_ n3_
 refine start_ (n := 10) (S := fun w' => w'.cell? ⟨gb244, 0, none⟩ = some (.slice Ao21 t237.length co21) ∧ w'.cell? ⟨gb244, 1, none⟩ = some (.int .i64 t240)) (ds := []) (fl_ 0 10) (by kernel_rfl) rfl rfl ⟨(blk_cell BK244.out 0).trans rfl, (blk_cell BK244.out 1).trans rfl⟩ (fun hHeld => ?_); refine with_tabW hypercubelaw10_SortsLeast.tab5 hypercubelaw10_SortsLeast.bits5 (fun HT_ HW_ => ?_)
 generalize w23.drew = w24 at HO239 HO243 BK244 HB hHeld ⊢
 refine pure_ (i := 1) (N := some 25) (v := ?_) (a' := ?_) #[Z,Y,Z,Z,Z,Z,Z,Z,Z,Z] rfl rfl (any_of HT_.out (by kernel_rfl)) (fun _ _ _ h => h) (Or.inl ⟨by rfl, ?_⟩) ?_ ?_
 rotate_left
 ·intro w'
  go_simp
  with_reducible rfl
 rotate_left
 ·simp only [Act.put, sl0, sl1, sl2, i64_w, i32_w]
  rfl
 refine pure_ (i := 3) (N := some 27) (v := ?_) (a' := ?_) #[Z,Y,Z,Y,Z,Z,Z,Z,Z,Z] rfl rfl (any_of HT_.out (by kernel_rfl)) (fun _ _ _ h => h) (Or.inl ⟨by rfl, ?_⟩) ?_ ?_
 rotate_left
 ·intro w'
  go_simp
  with_reducible rfl
 rotate_left
 ·simp only [Act.put, sl0, sl1, sl2, i64_w, i32_w]
  rfl
 refine pure_ (i := 6) (N := some 30) (v := ?_) (a' := ?_) #[Z,Y,Z,Y,Z,Z,Y,Z,Z,Z] rfl rfl (any_of HT_.out (by kernel_rfl)) (fun _ _ _ h => h) (Or.inl ⟨by rfl, ?_⟩) ?_ ?_
 rotate_left
 ·intro w'
  go_simp
  with_reducible rfl
 rotate_left
 ·simp only [Act.put, sl0, sl1, sl2, i64_w, i32_w]
  rfl
 refine take_ (i := 0) (N := some 24) (v := ?_) (a' := ?_) #[Y,Y,Z,Y,Z,Z,Y,Z,Z,Z] rfl rfl (take_ofW HT_.out HW_.out (by kernel_rfl)) (fun _ _ _ h => h) (Or.inl ⟨by rfl, ?_⟩) hHeld ?_ ?_
 rotate_left
 ·rintro w' ⟨s0, s1⟩
  go_simp
  with_reducible rfl
 rotate_left
 ·simp only [Act.put, sl0, sl1, sl2, i64_w, i32_w]
  rfl
 refine take_ (i := 4) (N := some 28) (v := ?_) (a' := ?_) #[Y,Y,Z,Y,Y,Z,Y,Z,Z,Z] rfl rfl (take_ofW HT_.out HW_.out (by kernel_rfl)) (fun _ _ _ h => h) (Or.inl ⟨by rfl, ?_⟩) hHeld ?_ ?_
 rotate_left
 ·rintro w' ⟨s0, s1⟩
  go_simp
  with_reducible rfl
 rotate_left
 ·simp only [Act.put, sl0, sl1, sl2, i64_w, i32_w]
  rfl
 refine pure_ (i := 5) (N := some 29) (v := ?_) (a' := ?_) #[Y,Y,Z,Y,Y,Y,Y,Z,Z,Z] rfl rfl (any_of HT_.out (by kernel_rfl)) (fun _ _ _ h => h) (Or.inl ⟨by rfl, ?_⟩) ?_ ?_
 rotate_left
 ·intro w'
  go_simp
  with_reducible rfl
 rotate_left
 ·simp only [Act.put, sl0, sl1, sl2, i64_w, i32_w]
  rfl
 refine one_ (i := 2) (N := some 26) (fl_ 7 3) rfl rfl (one_of HT_.out (by kernel_rfl)) (by decide) (fun K hK => ?_)
 refine goes_ Try.func55 (by kernel_rfl) rfl #[.agg #[.slice Ao21 t237.length co21, .int .i64 t240], .int .i64 t245] (by rfl) rfl rfl (by (try simp only [List.map_toArray, List.map_cons, List.map_nil]); first | done | rfl | (simp only [List.length_drop, List.length_take]; rfl)) ?_
 with_reducible refine (sorts_Plan.calls _ _ t237 t240 t245 t246 _ ?side1 ?side2 A9.out).mono ?_
 (case side1 => repeat (first | exact (Kd.R_reads' HO239.out).2.2 | (with_reducible refine Kd.C_alloc ?_ _) | (with_reducible refine Kd.C_drewN ?_ _) | (with_reducible refine Kd.C_drew ?_)))
 (case side2 => exact (Kd.R_reads' HO239.out).2.1)
 rintro e w25 ⟨v247, rfl, ho0, hb⟩
 refine ⟨_, rfl, ?_⟩
 have n0_ := Aside0.mk (Kd.R_below (by (with_reducible repeat (first | apply Kd.R_alloc | apply Kd.R_drewN | apply Kd.R_drew)); exact HO239.out) hb)
 have n1_ := Aside0.mk (Kd.S_below (by (with_reducible repeat (first | apply Kd.S_alloc | apply Kd.S_drewN | apply Kd.S_drew)); exact HO243.out) hb)
 have n2_ := Aside0.mk (Kd.R_lower ho0 (below_size (by repeat (first | (with_reducible first | exact HB.out | apply below_alloc | apply pw_below_drewN | apply below_drew1 | refine below_set ?_ GE244.out) | exact HB.out))))
 have n3_ := Aside0.mk (blk_below (g := gb244) (o := .cells #[.slice Ao21 t237.length co21, .int .i64 t240] 33 (0, 0)) (by (with_reducible repeat (first | refine blk_drewN ?_ _ | refine blk_drew ?_ | refine blk_alloc ?_ _)); exact BK244.out) hb)
 have n4_ := Aside0.mk (below_step (by repeat (first | (with_reducible first | exact HB.out | apply below_alloc | apply pw_below_drewN | apply below_drew1 | refine below_set ?_ GE244.out) | exact HB.out)) hb)
 clear HO239
 clear HO243
 clear BK244
 clear HB
 have HO239 := n0_
 have HO243 := n1_
 have HO248 := n2_
 have BK244 := n3_
 have HB := n4_
 clear n0_ n1_ n2_ n3_ n4_
 (try clear hb)
 (try clear hb2)
 (try clear hk)
 (try clear hi)
 (try clear ho0)
 refine hK.out _ _ ⟨(blk_cell BK244.out 0).trans rfl, (blk_cell BK244.out 1).trans rfl⟩ (fun hHeld => ?_)
 clear hK K
 refine norm_ (a' := ?_) ?_ ?_
 rotate_left
 ·show Act.put _ (some 26) _ = _
  simp only [Act.put, sl0, sl1, sl2, i64_w, i32_w]
  rfl
 refine one_ (i := 7) (N := some 31) (fl_ 8 2) rfl rfl (one_of HT_.out (by kernel_rfl)) (by decide) (fun K hK => ?_)
 refine goes_ Try.func53 (by kernel_rfl) rfl #[.int .i64 (t237.length : Int), .slice A3 l3.length c3] (by rfl) rfl rfl (by (try simp only [List.map_toArray, List.map_cons, List.map_nil]); first | done | rfl | (simp only [List.length_drop, List.length_take]; rfl)) ?_
 with_reducible refine (hypercubelaw10_Other.calls k (t237.length : Int) _ _ l3 t249 _ ?side1 ?side2 A10.out).mono ?_
 (case side1 => repeat (first | exact (Kd.C_below HR3.out HB.out) | (with_reducible refine Kd.C_alloc ?_ _) | (with_reducible refine Kd.C_drewN ?_ _) | (with_reducible refine Kd.C_drew ?_)))
 (case side2 => exact HC3.out)
 rintro e w26 ⟨v250, rfl, ho0, hb⟩
 refine ⟨_, rfl, ?_⟩
 have n0_ := Aside0.mk (Kd.R_below (by (with_reducible repeat (first | apply Kd.R_alloc | apply Kd.R_drewN | apply Kd.R_drew)); exact HO239.out) hb)
 have n1_ := Aside0.mk (Kd.S_below (by (with_reducible repeat (first | apply Kd.S_alloc | apply Kd.S_drewN | apply Kd.S_drew)); exact HO243.out) hb)
 have n2_ := Aside0.mk (Kd.R_elder' (by (with_reducible repeat (first | apply Kd.R_alloc | apply Kd.R_drewN | apply Kd.R_drew)); exact HO248.out) (Kd.R_base ho0) hb)
 have n3_ := Aside0.mk (Kd.R_lower (Kd.R_new' ho0 (Kd.R_lt (by (with_reducible repeat (first | apply Kd.R_alloc | apply Kd.R_drewN | apply Kd.R_drew)); exact HO248.out))) (below_size (by repeat (first | (with_reducible first | exact HB.out | apply below_alloc | apply pw_below_drewN | apply below_drew1 | refine below_set ?_ GE244.out) | exact HB.out))))
 have n4_ := Aside0.mk (blk_below (g := gb244) (o := .cells #[.slice Ao21 t237.length co21, .int .i64 t240] 33 (0, 0)) (by (with_reducible repeat (first | refine blk_drewN ?_ _ | refine blk_drew ?_ | refine blk_alloc ?_ _)); exact BK244.out) hb)
 have n5_ := Aside0.mk (below_step (by repeat (first | (with_reducible first | exact HB.out | apply below_alloc | apply pw_below_drewN | apply below_drew1 | refine below_set ?_ GE244.out) | exact HB.out)) hb)
 clear HO239
 clear HO243
 clear HO248
 clear BK244
 clear HB
 have HO239 := n0_
 have HO243 := n1_
 have HO248 := n2_
 have HO251 := n3_
 have BK244 := n4_
 have HB := n5_
 clear n0_ n1_ n2_ n3_ n4_ n5_
 (try clear hb)
 (try clear hb2)
 (try clear hk)
 (try clear hi)
 (try clear ho0)
 refine hK.out _ _ ⟨(blk_cell BK244.out 0).trans rfl, (blk_cell BK244.out 1).trans rfl⟩ (fun hHeld => ?_)
 clear hK K
 refine norm_ (a' := ?_) ?_ ?_
 rotate_left
 ·show Act.put _ (some 31) _ = _
  simp only [Act.put, sl0, sl1, sl2, i64_w, i32_w]
  rfl
 refine pure_ (i := 8) (N := some 12) (v := ?_) (a' := ?_) (fl_ 9 1) rfl rfl (any_of HT_.out (by kernel_rfl)) (fun _ _ _ h => h) (Or.inl ⟨by rfl, ?_⟩) ?_ ?_
 rotate_left
 ·intro w'
  go_simp
  with_reducible rfl
 rotate_left
 ·simp only [Act.put, sl0, sl1, sl2, i64_w, i32_w]
  rfl
 refine pure_ (i := 9) (N := some 13) (v := ?_) (a' := ?_) (fl_ 10 0) rfl rfl (any_of HT_.out (by kernel_rfl)) (fun _ _ _ h => h) (Or.inl ⟨by rfl, ?_⟩) ?_ ?_
 rotate_left
 ·intro w'
  go_simp
  with_reducible rfl
 rotate_left
 ·simp only [Act.put, sl0, sl1, sl2, i64_w, i32_w]
  rfl
 refine done_ (done_of HT_.out (by kernel_rfl)) ?_
 try go_wp2
 have n0_ := Aside0.mk (Kd.R_drew HO239.out)
 have n1_ := Aside0.mk (Kd.S_drew HO243.out)
 have n2_ := Aside0.mk (Kd.R_drew HO248.out)
 have n3_ := Aside0.mk (Kd.R_drew HO251.out)
 have n4_ := Aside0.mk (blk_drew BK244.out)
 have n5_ := Aside0.mk (below_drew1 HB.out)
 clear HO239
 clear HO243
 clear HO248
 clear HO251
 clear BK244
 clear HB
 have HO239 := n0_
 have HO243 := n1_
 have HO248 := n2_
 have HO251 := n3_
 have BK244 := n4_
 have HB := n5_
 clear n0_ n1_ n2_ n3_ n4_ n5_
 obtain ⟨Ao28, co28, eo28⟩ := Kd.R_slice HO251.out
 (first | subst eo28 | (injection eo28 with f1_ f2_ f3_; have f4_ := f1_.symm; have f5_ := f3_.symm; clear f1_ f2_ f3_; subst f4_; subst f5_))
 refine start_ (n := 28) (S := fun w' => w'.cell? ⟨gb244, 0, none⟩ = some (.slice Ao21 t237.length co21) ∧ w'.cell? ⟨gb244, 1, none⟩ = some (.int .i64 t240)) (ds := []) (fl_ 0 28) (by kernel_rfl) rfl rfl ⟨(blk_cell BK244.out 0).trans rfl, (blk_cell BK244.out 1).trans rfl⟩ (fun hHeld => ?_); refine with_tabW hypercubelaw10_SortsLeast.tab6 hypercubelaw10_SortsLeast.bits6 (fun HT_ HW_ => ?_)
 generalize w26.drew = w27 at HO239 HO243 HO248 HO251 BK244 HB hHeld ⊢
 refine pure_ (i := 0) (N := some 32) (v := ?_) (a' := ?_) (fl_ 1 27) rfl rfl (any_of HT_.out (by kernel_rfl)) (fun _ _ _ h => h) (Or.inl ⟨by rfl, ?_⟩) ?_ ?_
 rotate_left
 ·intro w'
  go_simp
  with_reducible rfl
 rotate_left
 ·simp only [Act.put, sl0, sl1, sl2, i64_w, i32_w]
  rfl
 refine pure_ (i := 1) (N := some 33) (v := ?_) (a' := ?_) (fl_ 2 26) rfl rfl (any_of HT_.out (by kernel_rfl)) (fun _ _ _ h => h) (Or.inl ⟨by rfl, ?_⟩) ?_ ?_
 rotate_left
 ·intro w'
  go_simp
  with_reducible rfl
 rotate_left
 ·simp only [Act.put, sl0, sl1, sl2, i64_w, i32_w]
  rfl
 refine take_ (i := 2) (N := some 34) (v := ?_) (a' := ?_) (fl_ 3 25) rfl rfl (take_ofW HT_.out HW_.out (by kernel_rfl)) (fun _ _ _ h => h) (Or.inl ⟨by rfl, ?_⟩) hHeld ?_ ?_
 rotate_left
 ·rintro w' ⟨s0, s1⟩
  go_simp
  with_reducible rfl
 rotate_left
 ·simp only [Act.put, sl0, sl1, sl2, i64_w, i32_w]
  rfl
 refine pure_ (i := 3) (N := some 35) (v := ?_) (a' := ?_) (fl_ 4 24) rfl rfl (any_of HT_.out (by kernel_rfl)) (fun _ _ _ h => h) (Or.inl ⟨by rfl, ?_⟩) ?_ ?_
 rotate_left
 ·intro w'
  go_simp
  with_reducible rfl
 rotate_left
 ·simp only [Act.put, sl0, sl1, sl2, i64_w, i32_w]
  rfl
 refine one_ (i := 4) (N := some 36) (fl_ 5 23) rfl rfl (one_of HT_.out (by kernel_rfl)) (by decide) (fun K hK => ?_)
 refine goes_ Try.func54 (by kernel_rfl) rfl #[.slice Ao28 t249.length co28, .int .i64 (t237.length : Int)] (by rfl) rfl rfl (by (try simp only [List.map_toArray, List.map_cons, List.map_nil]); first | done | rfl | (simp only [List.length_drop, List.length_take]; rfl)) ?_
 with_reducible refine (sorts_Right.calls _ _ t249 (t237.length : Int) true _ ?side1 ?side2 A11.out).mono ?_
 (case side1 => repeat (first | exact (Kd.R_reads' HO251.out).2.2 | (with_reducible refine Kd.C_alloc ?_ _) | (with_reducible refine Kd.C_drewN ?_ _) | (with_reducible refine Kd.C_drew ?_)))
 (case side2 => exact (Kd.R_reads' HO251.out).2.1)
 rintro e w29 ⟨rfl, hb⟩
 refine ⟨_, rfl, ?_⟩
 have n0_ := Aside0.mk (Kd.R_below (by (with_reducible repeat (first | apply Kd.R_alloc | apply Kd.R_drewN | apply Kd.R_drew)); exact HO239.out) hb)
 have n1_ := Aside0.mk (Kd.S_below (by (with_reducible repeat (first | apply Kd.S_alloc | apply Kd.S_drewN | apply Kd.S_drew)); exact HO243.out) hb)
 have n2_ := Aside0.mk (Kd.R_below (by (with_reducible repeat (first | apply Kd.R_alloc | apply Kd.R_drewN | apply Kd.R_drew)); exact HO248.out) hb)
 have n3_ := Aside0.mk (Kd.R_below (by (with_reducible repeat (first | apply Kd.R_alloc | apply Kd.R_drewN | apply Kd.R_drew)); exact HO251.out) hb)
 have n4_ := Aside0.mk (blk_below (g := gb244) (o := .cells #[.slice Ao21 t237.length co21, .int .i64 t240] 33 (0, 0)) (by (with_reducible repeat (first | refine blk_drewN ?_ _ | refine blk_drew ?_ | refine blk_alloc ?_ _)); exact BK244.out) hb)
 have n5_ := Aside0.mk (below_step (by repeat (first | (with_reducible first | exact HB.out | apply below_alloc | apply pw_below_drewN | apply below_drew1 | refine below_set ?_ GE244.out) | exact HB.out)) hb)
 clear HO239
 clear HO243
 clear HO248
 clear HO251
 clear BK244
 clear HB
 have HO239 := n0_
 have HO243 := n1_
 have HO248 := n2_
 have HO251 := n3_
 have BK244 := n4_
 have HB := n5_
 clear n0_ n1_ n2_ n3_ n4_ n5_
 (try clear hb)
 (try clear hb2)
 (try clear hk)
 (try clear hi)
 obtain ⟨Ao30, co30, eo30⟩ := Kd.R_slice HO248.out
 (first | subst eo30 | (injection eo30 with f1_ f2_ f3_; have f4_ := f1_.symm; have f5_ := f3_.symm; clear f1_ f2_ f3_; subst f4_; subst f5_))
 refine hK.out _ _ ⟨(blk_cell BK244.out 0).trans rfl, (blk_cell BK244.out 1).trans rfl⟩ (fun hHeld => ?_)
 clear hK K
 refine norm_ (a' := ?_) ?_ ?_
 rotate_left
 ·show Act.put _ (some 36) _ = _
  simp only [Act.put, sl0, sl1, sl2, i64_w, i32_w]
  rfl
 refine pure_ (i := 5) (N := some 37) (v := ?_) (a' := ?_) (fl_ 6 22) rfl rfl (any_of HT_.out (by kernel_rfl)) (fun _ _ _ h => h) (Or.inl ⟨by rfl, ?_⟩) ?_ ?_
 rotate_left
 ·intro w'
  go_simp
  with_reducible rfl
 rotate_left
 ·simp only [Act.put, sl0, sl1, sl2, i64_w, i32_w]
  rfl
 refine pure_ (i := 7) (N := some 39) (v := ?_) (a' := ?_) #[Y,Y,Y,Y,Y,Y,Z,Y,Z,Z,Z,Z,Z,Z,Z,Z,Z,Z,Z,Z,Z,Z,Z,Z,Z,Z,Z,Z] rfl rfl (any_of HT_.out (by kernel_rfl)) (fun _ _ _ h => h) (Or.inl ⟨by rfl, ?_⟩) ?_ ?_
 rotate_left
 ·intro w'
  go_simp
  with_reducible rfl
 rotate_left
 ·simp only [Act.put, sl0, sl1, sl2, i64_w, i32_w]
  rfl
 refine pure_ (i := 8) (N := some 40) (v := ?_) (a' := ?_) #[Y,Y,Y,Y,Y,Y,Z,Y,Y,Z,Z,Z,Z,Z,Z,Z,Z,Z,Z,Z,Z,Z,Z,Z,Z,Z,Z,Z] rfl rfl (any_of HT_.out (by kernel_rfl)) (fun _ _ _ h => h) (Or.inl ⟨by rfl, ?_⟩) ?_ ?_
 rotate_left
 ·intro w'
  go_simp
  with_reducible rfl
 rotate_left
 ·simp only [Act.put, sl0, sl1, sl2, i64_w, i32_w]
  rfl
 refine pure_ (i := 11) (N := some 43) (v := ?_) (a' := ?_) #[Y,Y,Y,Y,Y,Y,Z,Y,Y,Z,Z,Y,Z,Z,Z,Z,Z,Z,Z,Z,Z,Z,Z,Z,Z,Z,Z,Z] rfl rfl (any_of HT_.out (by kernel_rfl)) (fun _ _ _ h => h) (Or.inl ⟨by rfl, ?_⟩) ?_ ?_
 rotate_left
 ·intro w'
  go_simp
  with_reducible rfl
 rotate_left
 ·simp only [Act.put, sl0, sl1, sl2, i64_w, i32_w]
  rfl
 refine pure_ (i := 12) (N := some 44) (v := ?_) (a' := ?_) #[Y,Y,Y,Y,Y,Y,Z,Y,Y,Z,Z,Y,Y,Z,Z,Z,Z,Z,Z,Z,Z,Z,Z,Z,Z,Z,Z,Z] rfl rfl (any_of HT_.out (by kernel_rfl)) (fun _ _ _ h => h) (Or.inl ⟨by rfl, ?_⟩) ?_ ?_
 rotate_left
 ·intro w'
  go_simp
  with_reducible rfl
 rotate_left
 ·simp only [Act.put, sl0, sl1, sl2, i64_w, i32_w]
  rfl
 refine take_ (i := 6) (N := some 38) (v := ?_) (a' := ?_) #[Y,Y,Y,Y,Y,Y,Y,Y,Y,Z,Z,Y,Y,Z,Z,Z,Z,Z,Z,Z,Z,Z,Z,Z,Z,Z,Z,Z] rfl rfl (take_ofW HT_.out HW_.out (by kernel_rfl)) (fun _ _ _ h => h) (Or.inl ⟨by rfl, ?_⟩) hHeld ?_ ?_
 rotate_left
 ·rintro w' ⟨s0, s1⟩
  go_simp
  with_reducible rfl
 rotate_left
 ·simp only [Act.put, sl0, sl1, sl2, i64_w, i32_w]
  rfl
 refine take_ (i := 10) (N := some 42) (v := ?_) (a' := ?_) #[Y,Y,Y,Y,Y,Y,Y,Y,Y,Z,Y,Y,Y,Z,Z,Z,Z,Z,Z,Z,Z,Z,Z,Z,Z,Z,Z,Z] rfl rfl (take_ofW HT_.out HW_.out (by kernel_rfl)) (fun _ _ _ h => h) (Or.inl ⟨by rfl, ?_⟩) hHeld ?_ ?_
 rotate_left
 ·rintro w' ⟨s0, s1⟩
  go_simp
  with_reducible rfl
 rotate_left
 ·simp only [Act.put, sl0, sl1, sl2, i64_w, i32_w]
  rfl
 refine one_ (i := 9) (N := some 41) (fl_ 13 15) rfl rfl (one_of HT_.out (by kernel_rfl)) (by decide) (fun K hK => ?_)
 refine goes_ Try.func56 (by kernel_rfl) rfl #[.agg #[.slice Ao21 t237.length co21, .int .i64 t240], .int .i64 t245, .slice Ao30 t246.length co30] (by rfl) rfl rfl (by (try simp only [List.map_toArray, List.map_cons, List.map_nil]); first | done | rfl | (simp only [List.length_drop, List.length_take]; rfl)) ?_
 with_reducible refine (sorts_Cost.calls _ _ t237 t240 t245 _ _ t246 t253 _ ?side1 ?side2 ?side3 ?side4 A13.out).mono ?_
 (case side1 => repeat (first | exact (Kd.R_reads' HO239.out).2.2 | (with_reducible refine Kd.C_alloc ?_ _) | (with_reducible refine Kd.C_drewN ?_ _) | (with_reducible refine Kd.C_drew ?_)))
 (case side2 => exact (Kd.R_reads' HO239.out).2.1)
 (case side3 => repeat (first | exact (Kd.R_reads' HO248.out).2.2 | (with_reducible refine Kd.C_alloc ?_ _) | (with_reducible refine Kd.C_drewN ?_ _) | (with_reducible refine Kd.C_drew ?_)))
 (case side4 => exact (Kd.R_reads' HO248.out).2.1)
 rintro e w31 ⟨rfl, hb⟩
 refine ⟨_, rfl, ?_⟩
 have n0_ := Aside0.mk (Kd.R_below (by (with_reducible repeat (first | apply Kd.R_alloc | apply Kd.R_drewN | apply Kd.R_drew)); exact HO239.out) hb)
 have n1_ := Aside0.mk (Kd.S_below (by (with_reducible repeat (first | apply Kd.S_alloc | apply Kd.S_drewN | apply Kd.S_drew)); exact HO243.out) hb)
 have n2_ := Aside0.mk (Kd.R_below (by (with_reducible repeat (first | apply Kd.R_alloc | apply Kd.R_drewN | apply Kd.R_drew)); exact HO248.out) hb)
 have n3_ := Aside0.mk (Kd.R_below (by (with_reducible repeat (first | apply Kd.R_alloc | apply Kd.R_drewN | apply Kd.R_drew)); exact HO251.out) hb)
 have n4_ := Aside0.mk (blk_below (g := gb244) (o := .cells #[.slice Ao21 t237.length co21, .int .i64 t240] 33 (0, 0)) (by (with_reducible repeat (first | refine blk_drewN ?_ _ | refine blk_drew ?_ | refine blk_alloc ?_ _)); exact BK244.out) hb)
 have n5_ := Aside0.mk (below_step (by repeat (first | (with_reducible first | exact HB.out | apply below_alloc | apply pw_below_drewN | apply below_drew1 | refine below_set ?_ GE244.out) | exact HB.out)) hb)
 clear HO239
 clear HO243
 clear HO248
 clear HO251
 clear BK244
 clear HB
 have HO239 := n0_
 have HO243 := n1_
 have HO248 := n2_
 have HO251 := n3_
 have BK244 := n4_
 have HB := n5_
 clear n0_ n1_ n2_ n3_ n4_ n5_
 (try clear hb)
 (try clear hb2)
 (try clear hk)
 (try clear hi)
 refine hK.out _ _ ⟨(blk_cell BK244.out 0).trans rfl, (blk_cell BK244.out 1).trans rfl⟩ (fun hHeld => ?_)
 clear hK K
 refine norm_ (a' := ?_) ?_ ?_
 rotate_left
 ·show Act.put _ (some 41) _ = _
  simp only [Act.put, sl0, sl1, sl2, i64_w, i32_w]
  rfl
 refine one_ (i := 13) (N := some 45) (fl_ 14 14) rfl rfl (one_of HT_.out (by kernel_rfl)) (by decide) (fun K hK => ?_)
 refine goes_ Try.func56 (by kernel_rfl) rfl #[.agg #[.slice Ao21 t237.length co21, .int .i64 t240], .int .i64 t245, .slice Ao28 t249.length co28] (by rfl) rfl rfl (by (try simp only [List.map_toArray, List.map_cons, List.map_nil]); first | done | rfl | (simp only [List.length_drop, List.length_take]; rfl)) ?_
 with_reducible refine (sorts_Cost.calls _ _ t237 t240 t245 _ _ t249 t254 _ ?side1 ?side2 ?side3 ?side4 A14.out).mono ?_
 (case side1 => repeat (first | exact (Kd.R_reads' HO239.out).2.2 | (with_reducible refine Kd.C_alloc ?_ _) | (with_reducible refine Kd.C_drewN ?_ _) | (with_reducible refine Kd.C_drew ?_)))
 (case side2 => exact (Kd.R_reads' HO239.out).2.1)
 (case side3 => repeat (first | exact (Kd.R_reads' HO251.out).2.2 | (with_reducible refine Kd.C_alloc ?_ _) | (with_reducible refine Kd.C_drewN ?_ _) | (with_reducible refine Kd.C_drew ?_)))
 (case side4 => exact (Kd.R_reads' HO251.out).2.1)
 rintro e w32 ⟨rfl, hb⟩
 refine ⟨_, rfl, ?_⟩
 have n0_ := Aside0.mk (Kd.R_below (by (with_reducible repeat (first | apply Kd.R_alloc | apply Kd.R_drewN | apply Kd.R_drew)); exact HO239.out) hb)
 have n1_ := Aside0.mk (Kd.S_below (by (with_reducible repeat (first | apply Kd.S_alloc | apply Kd.S_drewN | apply Kd.S_drew)); exact HO243.out) hb)
 have n2_ := Aside0.mk (Kd.R_below (by (with_reducible repeat (first | apply Kd.R_alloc | apply Kd.R_drewN | apply Kd.R_drew)); exact HO248.out) hb)
 have n3_ := Aside0.mk (Kd.R_below (by (with_reducible repeat (first | apply Kd.R_alloc | apply Kd.R_drewN | apply Kd.R_drew)); exact HO251.out) hb)
 have n4_ := Aside0.mk (blk_below (g := gb244) (o := .cells #[.slice Ao21 t237.length co21, .int .i64 t240] 33 (0, 0)) (by (with_reducible repeat (first | refine blk_drewN ?_ _ | refine blk_drew ?_ | refine blk_alloc ?_ _)); exact BK244.out) hb)
 have n5_ := Aside0.mk (below_step (by repeat (first | (with_reducible first | exact HB.out | apply below_alloc | apply pw_below_drewN | apply below_drew1 | refine below_set ?_ GE244.out) | exact HB.out)) hb)
 clear HO239
 clear HO243
 clear HO248
 clear HO251
 clear BK244
 clear HB
 have HO239 := n0_
 have HO243 := n1_
 have HO248 := n2_
 have HO251 := n3_
 have BK244 := n4_
 have HB := n5_
 clear n0_ n1_ n2_ n3_ n4_ n5_
 (try clear hb)
 (try clear hb2)
 (try clear hk)
 (try clear hi)
 refine hK.out _ _ ⟨(blk_cell BK244.out 0).trans rfl, (blk_cell BK244.out 1).trans rfl⟩ (fun hHeld => ?_)
 clear hK K
 refine norm_ (a' := ?_) ?_ ?_
 rotate_left
 ·show Act.put _ (some 45) _ = _
  simp only [Act.put, sl0, sl1, sl2, i64_w, i32_w]
  rfl
 refine pure_ (i := 14) (N := some 46) (v := ?_) (a' := ?_) (fl_ 15 13) rfl rfl (any_of HT_.out (by kernel_rfl)) (fun _ _ _ h => h) (Or.inl ⟨by rfl, ?_⟩) ?_ ?_
 rotate_left
 ·intro w'
  go_simp
  with_reducible rfl
 rotate_left
 ·simp only [Act.put, sl0, sl1, sl2, i64_w, i32_w]
  rfl
 refine pure_ (i := 15) (N := some 47) (v := ?_) (a' := ?_) (fl_ 16 12) rfl rfl (any_of HT_.out (by kernel_rfl)) (fun _ _ _ h => h) (Or.inl ⟨by rfl, ?_⟩) ?_ ?_
 rotate_left
 ·intro w'
  go_simp
  with_reducible rfl
 rotate_left
 ·simp only [Act.put, sl0, sl1, sl2, i64_w, i32_w]
  rfl
 refine pure_ (i := 16) (N := some 48) (v := ?_) (a' := ?_) (fl_ 17 11) rfl rfl (any_of HT_.out (by kernel_rfl)) (fun _ _ _ h => h) (Or.inl ⟨by rfl, ?_⟩) ?_ ?_
 rotate_left
 ·intro w'
  go_simp
  with_reducible rfl
 rotate_left
 ·simp only [Act.put, sl0, sl1, sl2, i64_w, i32_w]
  rfl
 refine pure_ (i := 18) (N := some 50) (v := ?_) (a' := ?_) #[Y,Y,Y,Y,Y,Y,Y,Y,Y,Y,Y,Y,Y,Y,Y,Y,Y,Z,Y,Z,Z,Z,Z,Z,Z,Z,Z,Z] rfl rfl (any_of HT_.out (by kernel_rfl)) (fun _ _ _ h => h) (Or.inl ⟨by rfl, ?_⟩) ?_ ?_
 rotate_left
 ·intro w'
  go_simp
  with_reducible rfl
 rotate_left
 ·simp only [Act.put, sl0, sl1, sl2, i64_w, i32_w]
  rfl
 refine pure_ (i := 19) (N := some 51) (v := ?_) (a' := ?_) #[Y,Y,Y,Y,Y,Y,Y,Y,Y,Y,Y,Y,Y,Y,Y,Y,Y,Z,Y,Y,Z,Z,Z,Z,Z,Z,Z,Z] rfl rfl (any_of HT_.out (by kernel_rfl)) (fun _ _ _ h => h) (Or.inl ⟨by rfl, ?_⟩) ?_ ?_
 rotate_left
 ·intro w'
  go_simp
  with_reducible rfl
 rotate_left
 ·simp only [Act.put, sl0, sl1, sl2, i64_w, i32_w]
  rfl
 refine pure_ (i := 22) (N := some 54) (v := ?_) (a' := ?_) #[Y,Y,Y,Y,Y,Y,Y,Y,Y,Y,Y,Y,Y,Y,Y,Y,Y,Z,Y,Y,Z,Z,Y,Z,Z,Z,Z,Z] rfl rfl (any_of HT_.out (by kernel_rfl)) (fun _ _ _ h => h) (Or.inl ⟨by rfl, ?_⟩) ?_ ?_
 rotate_left
 ·intro w'
  go_simp
  with_reducible rfl
 rotate_left
 ·simp only [Act.put, sl0, sl1, sl2, i64_w, i32_w]
  rfl
 refine pure_ (i := 23) (N := some 55) (v := ?_) (a' := ?_) #[Y,Y,Y,Y,Y,Y,Y,Y,Y,Y,Y,Y,Y,Y,Y,Y,Y,Z,Y,Y,Z,Z,Y,Y,Z,Z,Z,Z] rfl rfl (any_of HT_.out (by kernel_rfl)) (fun _ _ _ h => h) (Or.inl ⟨by rfl, ?_⟩) ?_ ?_
 rotate_left
 ·intro w'
  go_simp
  with_reducible rfl
 rotate_left
 ·simp only [Act.put, sl0, sl1, sl2, i64_w, i32_w]
  rfl
 refine take_ (i := 17) (N := some 49) (v := ?_) (a' := ?_) #[Y,Y,Y,Y,Y,Y,Y,Y,Y,Y,Y,Y,Y,Y,Y,Y,Y,Y,Y,Y,Z,Z,Y,Y,Z,Z,Z,Z] rfl rfl (take_ofW HT_.out HW_.out (by kernel_rfl)) (fun _ _ _ h => h) (Or.inl ⟨by rfl, ?_⟩) hHeld ?_ ?_
 rotate_left
 ·rintro w' ⟨s0, s1⟩
  go_simp
  with_reducible rfl
 rotate_left
 ·simp only [Act.put, sl0, sl1, sl2, i64_w, i32_w]
  rfl
 refine take_ (i := 21) (N := some 53) (v := ?_) (a' := ?_) #[Y,Y,Y,Y,Y,Y,Y,Y,Y,Y,Y,Y,Y,Y,Y,Y,Y,Y,Y,Y,Z,Y,Y,Y,Z,Z,Z,Z] rfl rfl (take_ofW HT_.out HW_.out (by kernel_rfl)) (fun _ _ _ h => h) (Or.inl ⟨by rfl, ?_⟩) hHeld ?_ ?_
 rotate_left
 ·rintro w' ⟨s0, s1⟩
  go_simp
  with_reducible rfl
 rotate_left
 ·simp only [Act.put, sl0, sl1, sl2, i64_w, i32_w]
  rfl
 refine one_ (i := 20) (N := some 52) (fl_ 24 4) rfl rfl (one_of HT_.out (by kernel_rfl)) (by decide) (fun K hK => ?_)
 refine goes_ Try.func56 (by kernel_rfl) rfl #[.agg #[.slice Ao21 t237.length co21, .int .i64 t240], .int .i64 t245, .slice Ao28 t249.length co28] (by rfl) rfl rfl (by (try simp only [List.map_toArray, List.map_cons, List.map_nil]); first | done | rfl | (simp only [List.length_drop, List.length_take]; rfl)) ?_
 with_reducible refine (sorts_Cost.calls _ _ t237 t240 t245 _ _ t249 t255 _ ?side1 ?side2 ?side3 ?side4 A16.out).mono ?_
 (case side1 => repeat (first | exact (Kd.R_reads' HO239.out).2.2 | (with_reducible refine Kd.C_alloc ?_ _) | (with_reducible refine Kd.C_drewN ?_ _) | (with_reducible refine Kd.C_drew ?_)))
 (case side2 => exact (Kd.R_reads' HO239.out).2.1)
 (case side3 => repeat (first | exact (Kd.R_reads' HO251.out).2.2 | (with_reducible refine Kd.C_alloc ?_ _) | (with_reducible refine Kd.C_drewN ?_ _) | (with_reducible refine Kd.C_drew ?_)))
 (case side4 => exact (Kd.R_reads' HO251.out).2.1)
 rintro e w33 ⟨rfl, hb⟩
 refine ⟨_, rfl, ?_⟩
 have n0_ := Aside0.mk (Kd.R_below (by (with_reducible repeat (first | apply Kd.R_alloc | apply Kd.R_drewN | apply Kd.R_drew)); exact HO239.out) hb)
 have n1_ := Aside0.mk (Kd.S_below (by (with_reducible repeat (first | apply Kd.S_alloc | apply Kd.S_drewN | apply Kd.S_drew)); exact HO243.out) hb)
 have n2_ := Aside0.mk (Kd.R_below (by (with_reducible repeat (first | apply Kd.R_alloc | apply Kd.R_drewN | apply Kd.R_drew)); exact HO248.out) hb)
 have n3_ := Aside0.mk (Kd.R_below (by (with_reducible repeat (first | apply Kd.R_alloc | apply Kd.R_drewN | apply Kd.R_drew)); exact HO251.out) hb)
 have n4_ := Aside0.mk (blk_below (g := gb244) (o := .cells #[.slice Ao21 t237.length co21, .int .i64 t240] 33 (0, 0)) (by (with_reducible repeat (first | refine blk_drewN ?_ _ | refine blk_drew ?_ | refine blk_alloc ?_ _)); exact BK244.out) hb)
 have n5_ := Aside0.mk (below_step (by repeat (first | (with_reducible first | exact HB.out | apply below_alloc | apply pw_below_drewN | apply below_drew1 | refine below_set ?_ GE244.out) | exact HB.out)) hb)
 clear HO239
 clear HO243
 clear HO248
 clear HO251
 clear BK244
 clear HB
 have HO239 := n0_
 have HO243 := n1_
 have HO248 := n2_
 have HO251 := n3_
 have BK244 := n4_
 have HB := n5_
 clear n0_ n1_ n2_ n3_ n4_ n5_
 (try clear hb)
 (try clear hb2)
 (try clear hk)
 (try clear hi)
 refine hK.out _ _ ⟨(blk_cell BK244.out 0).trans rfl, (blk_cell BK244.out 1).trans rfl⟩ (fun hHeld => ?_)
 clear hK K
 refine norm_ (a' := ?_) ?_ ?_
 rotate_left
 ·show Act.put _ (some 52) _ = _
  simp only [Act.put, sl0, sl1, sl2, i64_w, i32_w]
  rfl
 refine one_ (i := 24) (N := some 56) (fl_ 25 3) rfl rfl (one_of HT_.out (by kernel_rfl)) (by decide) (fun K hK => ?_)
 refine goes_ Try.func43 (by kernel_rfl) rfl #[.agg #[.slice Ao21 t237.length co21, .int .i64 t240], .int .i64 t245, .slice Ao28 t249.length co28] (by rfl) rfl rfl (by (try simp only [List.map_toArray, List.map_cons, List.map_nil]); first | done | rfl | (simp only [List.length_drop, List.length_take]; rfl)) ?_
 with_reducible refine (hypercuberef10_Cost.calls k _ _ t237 t240 t245 _ _ t249 t256 _ ?side1 ?side2 ?side3 ?side4 A17.out).mono ?_
 (case side1 => repeat (first | exact (Kd.R_reads' HO239.out).2.2 | (with_reducible refine Kd.C_alloc ?_ _) | (with_reducible refine Kd.C_drewN ?_ _) | (with_reducible refine Kd.C_drew ?_)))
 (case side2 => exact (Kd.R_reads' HO239.out).2.1)
 (case side3 => repeat (first | exact (Kd.R_reads' HO251.out).2.2 | (with_reducible refine Kd.C_alloc ?_ _) | (with_reducible refine Kd.C_drewN ?_ _) | (with_reducible refine Kd.C_drew ?_)))
 (case side4 => exact (Kd.R_reads' HO251.out).2.1)
 rintro e w34 ⟨rfl, hb⟩
 refine ⟨_, rfl, ?_⟩
 have n0_ := Aside0.mk (Kd.R_below (by (with_reducible repeat (first | apply Kd.R_alloc | apply Kd.R_drewN | apply Kd.R_drew)); exact HO239.out) hb)
 have n1_ := Aside0.mk (Kd.S_below (by (with_reducible repeat (first | apply Kd.S_alloc | apply Kd.S_drewN | apply Kd.S_drew)); exact HO243.out) hb)
 have n2_ := Aside0.mk (Kd.R_below (by (with_reducible repeat (first | apply Kd.R_alloc | apply Kd.R_drewN | apply Kd.R_drew)); exact HO248.out) hb)
 have n3_ := Aside0.mk (Kd.R_below (by (with_reducible repeat (first | apply Kd.R_alloc | apply Kd.R_drewN | apply Kd.R_drew)); exact HO251.out) hb)
 have n4_ := Aside0.mk (blk_below (g := gb244) (o := .cells #[.slice Ao21 t237.length co21, .int .i64 t240] 33 (0, 0)) (by (with_reducible repeat (first | refine blk_drewN ?_ _ | refine blk_drew ?_ | refine blk_alloc ?_ _)); exact BK244.out) hb)
 have n5_ := Aside0.mk (below_step (by repeat (first | (with_reducible first | exact HB.out | apply below_alloc | apply pw_below_drewN | apply below_drew1 | refine below_set ?_ GE244.out) | exact HB.out)) hb)
 clear HO239
 clear HO243
 clear HO248
 clear HO251
 clear BK244
 clear HB
 have HO239 := n0_
 have HO243 := n1_
 have HO248 := n2_
 have HO251 := n3_
 have BK244 := n4_
 have HB := n5_
 clear n0_ n1_ n2_ n3_ n4_ n5_
 (try clear hb)
 (try clear hb2)
 (try clear hk)
 (try clear hi)
 refine hK.out _ _ ⟨(blk_cell BK244.out 0).trans rfl, (blk_cell BK244.out 1).trans rfl⟩ (fun hHeld => ?_)
 clear hK K
 refine norm_ (a' := ?_) ?_ ?_
 rotate_left
 ·show Act.put _ (some 56) _ = _
  simp only [Act.put, sl0, sl1, sl2, i64_w, i32_w]
  rfl
 refine pure_ (i := 25) (N := some 57) (v := ?_) (a' := ?_) (fl_ 26 2) rfl rfl (any_of HT_.out (by kernel_rfl)) (fun _ _ _ h => h) (Or.inl ⟨by rfl, ?_⟩) ?_ ?_
 rotate_left
 ·intro w'
  go_simp
  with_reducible rfl
 rotate_left
 ·simp only [Act.put, sl0, sl1, sl2, i64_w, i32_w]
  rfl
 refine pure_ (i := 26) (N := some 58) (v := ?_) (a' := ?_) (fl_ 27 1) rfl rfl (any_of HT_.out (by kernel_rfl)) (fun _ _ _ h => h) (Or.inl ⟨by rfl, ?_⟩) ?_ ?_
 rotate_left
 ·intro w'
  go_simp
  with_reducible rfl
 rotate_left
 ·simp only [Act.put, sl0, sl1, sl2, i64_w, i32_w]
  rfl
 refine pure_ (i := 27) (N := some 8) (v := ?_) (a' := ?_) (fl_ 28 0) rfl rfl (any_of HT_.out (by kernel_rfl)) (fun _ _ _ h => h) (Or.inl ⟨by rfl, ?_⟩) ?_ ?_
 rotate_left
 ·intro w'
  go_simp
  with_reducible rfl
 rotate_left
 ·simp only [Act.put, sl0, sl1, sl2, i64_w, i32_w]
  rfl
 refine done_ (done_of HT_.out (by kernel_rfl)) ?_
 try go_wp2
 go_ret
 exact ⟨by first | rfl | (simp [errW_none, errW_some] <;> rfl) | (simp [*, errW_none, errW_some] <;> rfl), by repeat (first | (with_reducible first | exact HB.out | apply below_alloc | apply pw_below_drewN | apply below_drew1 | refine below_set ?_ GE244.out) | exact HB.out)⟩

/-- THE ONE PURE STATEMENT of hypercubelaw10_SortsLeast: yours. -/
def hypercubelaw10_SortsLeast.Pure : Prop := ∀ (a0 : Int) (l1 : List Int) (a2 : Int) (l3 : List Int), (Lit.int .i64 a0).wf = true → l1.length ≤ maxLen → l1.length * 8 ≤ 140737488351232 → (∀ x ∈ l1, (Lit.int .i64 x).wf = true) → (Lit.int .i64 a2).wf = true → l3.length ≤ maxLen → l3.length * 8 ≤ 140737488351232 → (∀ x ∈ l3, (Lit.int .i64 x).wf = true) → ∃ k, hypercubelaw10_SortsLeast.f k a0 l1 a2 l3 = some true
theorem hypercubelaw10_SortsLeast.walk (P : hypercubelaw10_SortsLeast.Pure) (a0 : Int) (a1 : Option Addr) (len1 cap1 : Nat) (z1 : List Int) (a2 : Int) (a3 : Option Addr) (len3 cap3 : Nat) (z3 : List Int) (w : World) (w0 : (Lit.int .i64 a0).wf = true) (w1 : (a1 = none ∧ len1 = 0 ∧ cap1 = 0 ∧ z1 = []) ∨ ∃ x, a1 = some x ∧ len1 ≤ cap1 ∧ cap1 ≤ maxLen ∧ z1.length = cap1 ∧ (∀ i, i < z1.length → w.cell? (x.add i) = some (.int .i64 (z1.getD i 0))) ∧ ∀ n ∈ z1, (Lit.int .i64 n).wf = true) (y1 : len1 * 8 ≤ 140737488351232) (w2 : (Lit.int .i64 a2).wf = true) (w3 : (a3 = none ∧ len3 = 0 ∧ cap3 = 0 ∧ z3 = []) ∨ ∃ x, a3 = some x ∧ len3 ≤ cap3 ∧ cap3 ≤ maxLen ∧ z3.length = cap3 ∧ (∀ i, i < z3.length → w.cell? (x.add i) = some (.int .i64 (z3.getD i 0))) ∧ ∀ n ∈ z3, (Lit.int .i64 n).wf = true) (y3 : len3 * 8 ≤ 140737488351232) :
 Calls Try.prog 21 #[.int .i64 a0, .slice a1 len1 cap1, .int .i64 a2, .slice a3 len3 cap3] w fun e w' => e = .returned (.bool true) ∧ Below w.heap.size w w' := by
 obtain ⟨l1, rfl, hr1, hm1, hw1, hc1⟩ := ReadsInt.ofRowC w1
 obtain ⟨l3, rfl, hr3, hm3, hw3, hc3⟩ := ReadsInt.ofRowC w3
 obtain ⟨k, h⟩ := P a0 l1 a2 l3 w0 hm1 y1 hw1 w2 hm3 y3 hw3
 refine (hypercubelaw10_SortsLeast.calls k a0 _ _ l1 a2 _ _ l3 true w (Kd.C_of_reads (d := (0 : Int)) (h1 := fun _ => rfl) hr1) hc1 (Kd.C_of_reads (d := (0 : Int)) (h1 := fun _ => rfl) hr3) hc3 h).mono ?_
 rintro e w' ⟨rfl, hd⟩
 exact ⟨rfl, hd⟩

end Go.Proofs.Ytlplaidcdocbmaa.PSortsLeast
