-- Cut by pack.py, a program of this session; not trusted: Lean checks it.
import Derived.Test.YtlplaidcdocbmaaZPSortsOrdersx0
import Derived.Test.YtlplaidcdocbmaaZPSortsOrdersx1
import Derived.Test.YtlplaidcdocbmaaZPSortsOrdersx2
import Derived.Test.YtlplaidcdocbmaaZPSortsOrdersx3
import Derived.Test.YtlplaidcdocbmaaZPSortsOrdersx4
import Derived.Test.YtlplaidcdocbmaaZPSortsOrdersx5
namespace Go.Proofs.Ytlplaidcdocbmaa.PSortsOrders
open Go.RowKit Go.Proofs.YtlplaidcdocbmaaW.PrintWords Go.Proofs.YtlplaidcdocbmaaW.PrintLast Go.Proofs.YtlplaidcdocbmaaW.PrintMore
private abbrev fl_ (a b : Nat) : Array Bool := (List.replicate a true ++ List.replicate b false).toArray
private abbrev Y : Bool := true
private abbrev Z : Bool := false
open List renaming setIfInBounds_toArray → sl0, set_cons_zero → sl1, set_cons_succ → sl2
private theorem od_ {p : Prop} [Decidable p] (h : decide p = true := by first | (with_reducible assumption) | assumption) : p := of_decide_eq_true h
attribute [local go_sem] max2_int min2_int max_two min_two max_three min_three max_four min_four   -- for this text's walks alone
set_option linter.unusedVariables false
set_option linter.unusedSimpArgs false

/-! ### hypercubelaw10_SortsOrders: function 25 -/
mutual
def hypercubelaw10_SortsOrders.j0 : Nat → Int → List (S49) → List (List Int) → Bool → Option (Bool)
 | 0, _, _, _, _ => none
 | k + 1, x5, x6, x7, x35 => if x35 = true then (some false) else (hypercubelaw10_SortsOrders.l0 k x5 x6 x7 0)
def hypercubelaw10_SortsOrders.l0 : Nat → Int → List (S49) → List (List Int) → Int → Option (Bool)
 | 0, _, _, _, _ => none
 | k + 1, x5, x6, x7, x8 => if x8 < (x6.length : Int) then (hypercubelaw10_SortsOrders.l1 k x5 x6 x7 x8 0 0) else (some true)
def hypercubelaw10_SortsOrders.l1 : Nat → Int → List (S49) → List (List Int) → Int → Int → Int → Option (Bool)
 | 0, _, _, _, _, _, _ => none
 | k + 1, x5, x6, x7, x8, x9, x10 => if 0 ≤ x8 then (if x8 < (x7.length : Int) then (if x10 < ((rd_L3 x7 x8).length : Int) then (if 0 ≤ x10 then (if (rd (rd_L3 x7 x8) x10) < 0 then (some false) else (if (rd (rd_L3 x7 x8) x10) ≥ x5 then (some false) else (if 0 ≤ (IntKind.u64.wrap (rd (rd_L3 x7 x8) x10)) then (if (Go.bits .and .i64 (shr .i64 x9 (IntKind.u64.wrap (rd (rd_L3 x7 x8) x10))) 1) = 1 then (some false) else (hypercubelaw10_SortsOrders.l1 k x5 x6 x7 x8 (Go.bits .or .i64 x9 (shl .i64 1 (IntKind.u64.wrap (rd (rd_L3 x7 x8) x10)))) (wrap64 (x10 + 1)))) else (none)))) else (none)) else (if x8 < (x6.length : Int) then (if x9 = ((rd_T49 x6 x8).f0) then (hypercubelaw10_SortsOrders.l2 k x5 x6 x7 x8 0) else (some false)) else (none))) else (none)) else (none)
def hypercubelaw10_SortsOrders.l2 : Nat → Int → List (S49) → List (List Int) → Int → Int → Option (Bool)
 | 0, _, _, _, _, _ => none
 | k + 1, x5, x6, x7, x8, x11 => if x11 < (x6.length : Int) then (if 0 ≤ x8 then (if x8 < (x6.length : Int) then (hypercubelaw10_SortsOrders.j4 k x5 x6 x7 x8 x11 ((rd_T49 x6 x8).f2)) else (none)) else (none)) else (hypercubelaw10_SortsOrders.j4 k x5 x6 x7 x8 x11 false)
def hypercubelaw10_SortsOrders.j4 : Nat → Int → List (S49) → List (List Int) → Int → Int → Bool → Option (Bool)
 | 0, _, _, _, _, _, _ => none
 | k + 1, x5, x6, x7, x8, x11, x112 => if x112 = true then (if 0 ≤ x11 then (if x11 < (x6.length : Int) then (if 0 ≤ x8 then (if x8 < (x6.length : Int) then (if ((rd_T49 x6 x11).f0) = ((rd_T49 x6 x8).f1) then (if x11 < (x7.length : Int) then (if x8 < (x7.length : Int) then (if ((rd_L3 x7 x11).length : Int) = (wrap64 (((rd_L3 x7 x8).length : Int) + 1)) then (if 0 ≤ ((rd_L3 x7 x8).length : Int) then (if ((rd_L3 x7 x8).length : Int) ≤ ((rd_L3 x7 x11).length : Int) then ((hypercuberef1_Ints.f k ((rd_L3 x7 x11).take (((rd_L3 x7 x8).length : Int) : Int).toNat) (rd_L3 x7 x8)).bind fun t272 => (if t272 = true then (hypercubelaw10_SortsOrders.l2 k x5 x6 x7 x8 (wrap64 (x11 + 1))) else (some false))) else (none)) else (none)) else (some false)) else (none)) else (none)) else (hypercubelaw10_SortsOrders.l2 k x5 x6 x7 x8 (wrap64 (x11 + 1)))) else (none)) else (none)) else (none)) else (none)) else (hypercubelaw10_SortsOrders.l0 k x5 x6 x7 (wrap64 (x8 + 1)))
end
def hypercubelaw10_SortsOrders.f (k : Nat) (a0 : Int) (l1 : List Int) : Option (Bool) := (hypercubelaw10_known.f).bind fun t238 => (if t238 = true then ((hypercubelaw10_within.f a0 4).bind fun t239 => ((hypercubelaw10_Other.f k (wrap64 (1 + t239)) l1).bind fun t240 => ((sorts_Orders.f t240 (wrap64 (1 + t239))).bind fun t243 => (if (t243.length : Int) = (t240.length : Int) then ((hypercuberef10_Orders.f k t240 (wrap64 (1 + t239))).bind fun t246 => ((hypercubelaw10_same.f k t243 t246).bind fun t249 => (hypercubelaw10_SortsOrders.j0 k (wrap64 (1 + t239)) t240 t243 (!t249)))) else (hypercubelaw10_SortsOrders.j0 k (wrap64 (1 + t239)) t240 t243 true))))) else (some false))
theorem hypercubelaw10_SortsOrders.mono_l : ∀ k, (∀ y0 y1 y2 y3, LeO (hypercubelaw10_SortsOrders.j0 k y0 y1 y2 y3) (hypercubelaw10_SortsOrders.j0 (k + 1) y0 y1 y2 y3)) ∧ (∀ y0 y1 y2 y3, LeO (hypercubelaw10_SortsOrders.l0 k y0 y1 y2 y3) (hypercubelaw10_SortsOrders.l0 (k + 1) y0 y1 y2 y3)) ∧ (∀ y0 y1 y2 y3 y4 y5, LeO (hypercubelaw10_SortsOrders.l1 k y0 y1 y2 y3 y4 y5) (hypercubelaw10_SortsOrders.l1 (k + 1) y0 y1 y2 y3 y4 y5)) ∧ (∀ y0 y1 y2 y3 y4, LeO (hypercubelaw10_SortsOrders.l2 k y0 y1 y2 y3 y4) (hypercubelaw10_SortsOrders.l2 (k + 1) y0 y1 y2 y3 y4)) ∧ (∀ y0 y1 y2 y3 y4 y5, LeO (hypercubelaw10_SortsOrders.j4 k y0 y1 y2 y3 y4 y5) (hypercubelaw10_SortsOrders.j4 (k + 1) y0 y1 y2 y3 y4 y5))
 | 0 => ⟨fun _ _ _ _ r h => by simp [hypercubelaw10_SortsOrders.j0] at h, fun _ _ _ _ r h => by simp [hypercubelaw10_SortsOrders.l0] at h, fun _ _ _ _ _ _ r h => by simp [hypercubelaw10_SortsOrders.l1] at h, fun _ _ _ _ _ r h => by simp [hypercubelaw10_SortsOrders.l2] at h, fun _ _ _ _ _ _ r h => by simp [hypercubelaw10_SortsOrders.j4] at h⟩
 | k + 1 => by
  obtain ⟨ih0, ih1, ih2, ih3, ih4⟩ := hypercubelaw10_SortsOrders.mono_l k
  refine ⟨?_, ?_, ?_, ?_, ?_⟩
  ·intro y0 y1 y2 y3
   unfold hypercubelaw10_SortsOrders.j0
   repeat' first
   | (with_reducible exact ih0 _ _ _ _)
   | (with_reducible exact ih1 _ _ _ _)
   | (with_reducible exact ih2 _ _ _ _ _ _)
   | (with_reducible exact ih3 _ _ _ _ _)
   | (with_reducible exact ih4 _ _ _ _ _ _)
   | (with_reducible exact hypercubelaw10_Other.mono _ _ _)
   | (with_reducible exact hypercubelaw10_same.mono _ _ _)
   | (with_reducible exact hypercuberef10_Orders.mono _ _ _)
   | (with_reducible exact hypercuberef1_Ints.mono _ _ _)
   | (with_reducible exact LeO.refl _)
   | (with_reducible exact LeO.none _)
   | (with_reducible refine LeO.ite ?_ ?_)
   | (with_reducible refine LeO.bind ?_ (fun _ => ?_))
   | exact ih0 _ _ _ _
   | exact ih1 _ _ _ _
   | exact ih2 _ _ _ _ _ _
   | exact ih3 _ _ _ _ _
   | exact ih4 _ _ _ _ _ _
   | exact hypercubelaw10_Other.mono _ _ _
   | exact hypercubelaw10_same.mono _ _ _
   | exact hypercuberef10_Orders.mono _ _ _
   | exact hypercuberef1_Ints.mono _ _ _
   | exact LeO.none _
   | refine LeO.ite ?_ ?_
   | refine LeO.bind ?_ (fun _ => ?_)
  ·intro y0 y1 y2 y3
   unfold hypercubelaw10_SortsOrders.l0
   repeat' first
   | (with_reducible exact ih0 _ _ _ _)
   | (with_reducible exact ih1 _ _ _ _)
   | (with_reducible exact ih2 _ _ _ _ _ _)
   | (with_reducible exact ih3 _ _ _ _ _)
   | (with_reducible exact ih4 _ _ _ _ _ _)
   | (with_reducible exact hypercubelaw10_Other.mono _ _ _)
   | (with_reducible exact hypercubelaw10_same.mono _ _ _)
   | (with_reducible exact hypercuberef10_Orders.mono _ _ _)
   | (with_reducible exact hypercuberef1_Ints.mono _ _ _)
   | (with_reducible exact LeO.refl _)
   | (with_reducible exact LeO.none _)
   | (with_reducible refine LeO.ite ?_ ?_)
   | (with_reducible refine LeO.bind ?_ (fun _ => ?_))
   | exact ih0 _ _ _ _
   | exact ih1 _ _ _ _
   | exact ih2 _ _ _ _ _ _
   | exact ih3 _ _ _ _ _
   | exact ih4 _ _ _ _ _ _
   | exact hypercubelaw10_Other.mono _ _ _
   | exact hypercubelaw10_same.mono _ _ _
   | exact hypercuberef10_Orders.mono _ _ _
   | exact hypercuberef1_Ints.mono _ _ _
   | exact LeO.none _
   | refine LeO.ite ?_ ?_
   | refine LeO.bind ?_ (fun _ => ?_)
  ·intro y0 y1 y2 y3 y4 y5
   unfold hypercubelaw10_SortsOrders.l1
   repeat' first
   | (with_reducible exact ih0 _ _ _ _)
   | (with_reducible exact ih1 _ _ _ _)
   | (with_reducible exact ih2 _ _ _ _ _ _)
   | (with_reducible exact ih3 _ _ _ _ _)
   | (with_reducible exact ih4 _ _ _ _ _ _)
   | (with_reducible exact hypercubelaw10_Other.mono _ _ _)
   | (with_reducible exact hypercubelaw10_same.mono _ _ _)
   | (with_reducible exact hypercuberef10_Orders.mono _ _ _)
   | (with_reducible exact hypercuberef1_Ints.mono _ _ _)
   | (with_reducible exact LeO.refl _)
   | (with_reducible exact LeO.none _)
   | (with_reducible refine LeO.ite ?_ ?_)
   | (with_reducible refine LeO.bind ?_ (fun _ => ?_))
   | exact ih0 _ _ _ _
   | exact ih1 _ _ _ _
   | exact ih2 _ _ _ _ _ _
   | exact ih3 _ _ _ _ _
   | exact ih4 _ _ _ _ _ _
   | exact hypercubelaw10_Other.mono _ _ _
   | exact hypercubelaw10_same.mono _ _ _
   | exact hypercuberef10_Orders.mono _ _ _
   | exact hypercuberef1_Ints.mono _ _ _
   | exact LeO.none _
   | refine LeO.ite ?_ ?_
   | refine LeO.bind ?_ (fun _ => ?_)
  ·intro y0 y1 y2 y3 y4
   unfold hypercubelaw10_SortsOrders.l2
   repeat' first
   | (with_reducible exact ih0 _ _ _ _)
   | (with_reducible exact ih1 _ _ _ _)
   | (with_reducible exact ih2 _ _ _ _ _ _)
   | (with_reducible exact ih3 _ _ _ _ _)
   | (with_reducible exact ih4 _ _ _ _ _ _)
   | (with_reducible exact hypercubelaw10_Other.mono _ _ _)
   | (with_reducible exact hypercubelaw10_same.mono _ _ _)
   | (with_reducible exact hypercuberef10_Orders.mono _ _ _)
   | (with_reducible exact hypercuberef1_Ints.mono _ _ _)
   | (with_reducible exact LeO.refl _)
   | (with_reducible exact LeO.none _)
   | (with_reducible refine LeO.ite ?_ ?_)
   | (with_reducible refine LeO.bind ?_ (fun _ => ?_))
   | exact ih0 _ _ _ _
   | exact ih1 _ _ _ _
   | exact ih2 _ _ _ _ _ _
   | exact ih3 _ _ _ _ _
   | exact ih4 _ _ _ _ _ _
   | exact hypercubelaw10_Other.mono _ _ _
   | exact hypercubelaw10_same.mono _ _ _
   | exact hypercuberef10_Orders.mono _ _ _
   | exact hypercuberef1_Ints.mono _ _ _
   | exact LeO.none _
   | refine LeO.ite ?_ ?_
   | refine LeO.bind ?_ (fun _ => ?_)
  intro y0 y1 y2 y3 y4 y5
  unfold hypercubelaw10_SortsOrders.j4
  repeat' first
  | (with_reducible exact ih0 _ _ _ _)
  | (with_reducible exact ih1 _ _ _ _)
  | (with_reducible exact ih2 _ _ _ _ _ _)
  | (with_reducible exact ih3 _ _ _ _ _)
  | (with_reducible exact ih4 _ _ _ _ _ _)
  | (with_reducible exact hypercubelaw10_Other.mono _ _ _)
  | (with_reducible exact hypercubelaw10_same.mono _ _ _)
  | (with_reducible exact hypercuberef10_Orders.mono _ _ _)
  | (with_reducible exact hypercuberef1_Ints.mono _ _ _)
  | (with_reducible exact LeO.refl _)
  | (with_reducible exact LeO.none _)
  | (with_reducible refine LeO.ite ?_ ?_)
  | (with_reducible refine LeO.bind ?_ (fun _ => ?_))
  | exact ih0 _ _ _ _
  | exact ih1 _ _ _ _
  | exact ih2 _ _ _ _ _ _
  | exact ih3 _ _ _ _ _
  | exact ih4 _ _ _ _ _ _
  | exact hypercubelaw10_Other.mono _ _ _
  | exact hypercubelaw10_same.mono _ _ _
  | exact hypercuberef10_Orders.mono _ _ _
  | exact hypercuberef1_Ints.mono _ _ _
  | exact LeO.none _
  | refine LeO.ite ?_ ?_
  | refine LeO.bind ?_ (fun _ => ?_)
def hypercubelaw10_SortsOrders.T23 : Bool × List (List Nat × List Nat) := (true, [([], []), ([], []), ([0, 1], [0, 1]), ([2], [2]), ([3], [3]), ([], []), ([], []), ([5, 6], [5, 6]), ([7], [7]), ([8], [8]), ([4, 9], [4, 9]), ([10], [10]), ([11], [11]), ([11], [11]), ([12, 13, 11], [11, 12, 13]), ([14, 11], [11, 14]), ([15, 11], [11, 15]), ([11], [11]), ([11], [11]), ([17, 18, 11], [11, 17, 18]), ([19, 11], [11, 19]), ([20, 11], [11, 20]), ([21, 11], [11, 21]), ([16, 22, 11], [11, 16, 22]), ([23, 11, 11], [11, 23]), ([24], [24]), ([24], [24]), ([25, 26, 24], [24, 25, 26]), ([27, 24], [24, 27]), ([24], [24]), ([24], [24]), ([29, 30, 24], [24, 29, 30]), ([31, 24], [24, 31]), ([32, 24], [24, 32]), ([28, 33, 24], [24, 28, 33]), ([24], [24]), ([24], [24]), ([35, 36, 24], [24, 35, 36]), ([37, 24], [24, 37]), ([34, 38, 24, 24], [24, 34, 38]), ([39, 24], [24, 39]), ([24, 40, 11], [11, 24, 40]), ([11, 41], [11, 41])])
def hypercubelaw10_SortsOrders.B23 : List Nat := [0, 0, 3, 7, 15, 0, 0, 96, 224, 480, 1023, 2047, 4095, 4095, 16383, 32767, 65535, 4095, 4095, 397311, 921599, 1970175, 4067327, 8388607, 16777215, 33554431, 33554431, 134217727, 268435455, 33554431, 33554431, 1644167167, 3791650815, 8086618111, 17179869183, 33554431, 33554431, 103112769535, 240551723007, 549755813887, 1099511627775, 2199023255551, 4398046511103]
theorem hypercubelaw10_SortsOrders.tab23 : rtab .any (opsOf Try.f25 23) = hypercubelaw10_SortsOrders.T23 := by kernel_rfl
theorem hypercubelaw10_SortsOrders.bits23 : waitsOk hypercubelaw10_SortsOrders.T23.2 hypercubelaw10_SortsOrders.B23 = true := by kernel_rfl
set_option maxHeartbeats 8000000 in
set_option maxRecDepth 100000 in
theorem hypercubelaw10_SortsOrders.calls (k : Nat) (a0 : Int) (A1 : Option Addr) (c1 : Nat) (l1 : List Int) (r : Bool) (w : World) (hr1 : Kd.C (Kd.int .i64) w A1 l1.length l1) (hc1 : l1.length ≤ c1) (h : hypercubelaw10_SortsOrders.f k a0 l1 = some r) :
 Calls Try.prog 25 #[.int .i64 a0, .slice A1 l1.length c1] w fun e w' => e = .returned (.bool r) ∧ Below w.heap.size w w' := by
 have HR1 := Aside0.mk hr1
 have HC1 := Aside0.mk hc1
 clear hr1 hc1
 have HB := Aside0.mk (Below.refl w.heap.size w)
 have H : ((hypercubelaw10_known.f).bind fun t238 => (if t238 = true then ((hypercubelaw10_within.f a0 4).bind fun t239 => ((hypercubelaw10_Other.f k (wrap64 (1 + t239)) l1).bind fun t240 => ((sorts_Orders.f t240 (wrap64 (1 + t239))).bind fun t243 => (if (t243.length : Int) = (t240.length : Int) then ((hypercuberef10_Orders.f k t240 (wrap64 (1 + t239))).bind fun t246 => ((hypercubelaw10_same.f k t243 t246).bind fun t249 => (hypercubelaw10_SortsOrders.j0 k (wrap64 (1 + t239)) t240 t243 (!t249)))) else (hypercubelaw10_SortsOrders.j0 k (wrap64 (1 + t239)) t240 t243 true))))) else (some false))) = some r := h
 clear h
 replace H := Option.bind_eq_some_iff.mp H
 obtain ⟨t238, A30, H⟩ := H
 replace H : (if t238 = true then ((hypercubelaw10_within.f a0 4).bind fun t239 => ((hypercubelaw10_Other.f k (wrap64 (1 + t239)) l1).bind fun t240 => ((sorts_Orders.f t240 (wrap64 (1 + t239))).bind fun t243 => (if (t243.length : Int) = (t240.length : Int) then ((hypercuberef10_Orders.f k t240 (wrap64 (1 + t239))).bind fun t246 => ((hypercubelaw10_same.f k t243 t246).bind fun t249 => (hypercubelaw10_SortsOrders.j0 k (wrap64 (1 + t239)) t240 t243 (!t249)))) else (hypercubelaw10_SortsOrders.j0 k (wrap64 (1 + t239)) t240 t243 true))))) else (some false)) = some r := H
 have A3 := Aside0.mk A30
 clear A30
 by_cases c4 : t238 = true
 rotate_left
 ·replace c4 := Bool.eq_false_iff.mpr c4
  subst c4
  have H1 : (some false) = some r := by rw [if_neg (show ¬ (false = true) by decide)] at H; exact H
  clear H
  have H := H1
  clear H1
  obtain rfl := Option.some.inj H
  go_enter Try.func25, Try.ntmps25
  go_wp2_with (first | ((with_reducible refine gate_callee (f := 51) rfl ?_); refine goesL_ (some 12) rfl rfl Try.func51 (by kernel_rfl) rfl #[] rfl (by (try simp only [List.map_toArray, List.map_cons, List.map_nil]); first | done | rfl | (simp only [List.length_drop, List.length_take]; rfl)) ?_; (with_reducible refine (hypercubelaw10_known.calls  false _ A3.out).mono ?_); rintro e w65 ⟨rfl, hb⟩; refine ⟨_, rfl, ?_⟩; have n0_ := Aside0.mk (below_step (by repeat (first | (with_reducible first | exact HB.out | apply below_alloc | apply pw_below_drewN | apply below_drew1) | exact HB.out)) hb); clear HB; have HB := n0_; clear n0_; (try clear hb); (try clear hb2); (try clear hk); (try clear hi)))
  go_ret
  exact ⟨by first | rfl | (simp [errW_none, errW_some] <;> rfl) | (simp [*, errW_none, errW_some] <;> rfl), by repeat (first | (with_reducible first | exact HB.out | apply below_alloc | apply pw_below_drewN | apply below_drew1) | exact HB.out)⟩
 subst c4
 have H1 : ((hypercubelaw10_within.f a0 4).bind fun t239 => ((hypercubelaw10_Other.f k (wrap64 (1 + t239)) l1).bind fun t240 => ((sorts_Orders.f t240 (wrap64 (1 + t239))).bind fun t243 => (if (t243.length : Int) = (t240.length : Int) then ((hypercuberef10_Orders.f k t240 (wrap64 (1 + t239))).bind fun t246 => ((hypercubelaw10_same.f k t243 t246).bind fun t249 => (hypercubelaw10_SortsOrders.j0 k (wrap64 (1 + t239)) t240 t243 (!t249)))) else (hypercubelaw10_SortsOrders.j0 k (wrap64 (1 + t239)) t240 t243 true))))) = some r := by rw [if_pos rfl] at H; exact H
 clear H
 have H := H1
 clear H1
 replace H := Option.bind_eq_some_iff.mp H
 obtain ⟨t239, A50, H⟩ := H
 replace H : ((hypercubelaw10_Other.f k (wrap64 (1 + t239)) l1).bind fun t240 => ((sorts_Orders.f t240 (wrap64 (1 + t239))).bind fun t243 => (if (t243.length : Int) = (t240.length : Int) then ((hypercuberef10_Orders.f k t240 (wrap64 (1 + t239))).bind fun t246 => ((hypercubelaw10_same.f k t243 t246).bind fun t249 => (hypercubelaw10_SortsOrders.j0 k (wrap64 (1 + t239)) t240 t243 (!t249)))) else (hypercubelaw10_SortsOrders.j0 k (wrap64 (1 + t239)) t240 t243 true)))) = some r := H
 have A5 := Aside0.mk A50
 clear A50
 replace H := Option.bind_eq_some_iff.mp H
 obtain ⟨t240, A60, H⟩ := H
 replace H : ((sorts_Orders.f t240 (wrap64 (1 + t239))).bind fun t243 => (if (t243.length : Int) = (t240.length : Int) then ((hypercuberef10_Orders.f k t240 (wrap64 (1 + t239))).bind fun t246 => ((hypercubelaw10_same.f k t243 t246).bind fun t249 => (hypercubelaw10_SortsOrders.j0 k (wrap64 (1 + t239)) t240 t243 (!t249)))) else (hypercubelaw10_SortsOrders.j0 k (wrap64 (1 + t239)) t240 t243 true))) = some r := H
 have A6 := Aside0.mk A60
 clear A60
 replace H := Option.bind_eq_some_iff.mp H
 obtain ⟨t243, A70, H⟩ := H
 replace H : (if (t243.length : Int) = (t240.length : Int) then ((hypercuberef10_Orders.f k t240 (wrap64 (1 + t239))).bind fun t246 => ((hypercubelaw10_same.f k t243 t246).bind fun t249 => (hypercubelaw10_SortsOrders.j0 k (wrap64 (1 + t239)) t240 t243 (!t249)))) else (hypercubelaw10_SortsOrders.j0 k (wrap64 (1 + t239)) t240 t243 true)) = some r := H
 have A7 := Aside0.mk A70
 clear A70
 have HC8 := Aside0.mk H
 clear H
 go_enter Try.func25, Try.ntmps25
 go_upto_region 6 with (first | ((with_reducible refine gate_callee (f := 51) rfl ?_); refine goesL_ (some 12) rfl rfl Try.func51 (by kernel_rfl) rfl #[] rfl (by (try simp only [List.map_toArray, List.map_cons, List.map_nil]); first | done | rfl | (simp only [List.length_drop, List.length_take]; rfl)) ?_; (with_reducible refine (hypercubelaw10_known.calls  true _ A3.out).mono ?_); rintro e w9 ⟨rfl, hb⟩; refine ⟨_, rfl, ?_⟩; have n0_ := Aside0.mk (below_step (by repeat (first | (with_reducible first | exact HB.out | apply below_alloc | apply pw_below_drewN | apply below_drew1) | exact HB.out)) hb); clear HB; have HB := n0_; clear n0_; (try clear hb); (try clear hb2); (try clear hk); (try clear hi)) | ((with_reducible refine gate_callee (f := 52) rfl ?_); refine goesL_ (some 15) rfl rfl Try.func52 (by kernel_rfl) rfl #[.int .i64 a0, .int .i64 4] rfl (by (try simp only [List.map_toArray, List.map_cons, List.map_nil]); first | done | rfl | (simp only [List.length_drop, List.length_take]; rfl)) ?_; (with_reducible refine (hypercubelaw10_within.calls a0 4 t239 _ A5.out).mono ?_); rintro e w' ⟨rfl, ⟨nd, rfl⟩⟩; refine ⟨_, rfl, ?_⟩) | ((with_reducible refine gate_callee (f := 53) rfl ?_); refine goesL_ (some 19) rfl rfl Try.func53 (by kernel_rfl) rfl #[.int .i64 (wrap64 (1 + t239)), .slice A1 l1.length c1] rfl (by (try simp only [List.map_toArray, List.map_cons, List.map_nil]); first | done | rfl | (simp only [List.length_drop, List.length_take]; rfl)) ?_; (with_reducible refine (hypercubelaw10_Other.calls k (wrap64 (1 + t239)) _ _ l1 t240 _ ?side1 ?side2 A6.out).mono ?_); (case side1 => repeat (first | exact (Kd.C_below HR1.out (by repeat (first | (with_reducible first | exact HB.out | apply below_alloc | apply pw_below_drewN | apply below_drew1) | exact HB.out))) | (with_reducible refine Kd.C_alloc ?_ _) | (with_reducible refine Kd.C_drewN ?_ _) | (with_reducible refine Kd.C_drew ?_))); (case side2 => exact HC1.out); rintro e w10 ⟨v241, rfl, ho0, hb⟩; refine ⟨_, rfl, ?_⟩; have n0_ := Aside0.mk (Kd.R_lower ho0 (below_size (by repeat (first | (with_reducible first | exact HB.out | apply below_alloc | apply pw_below_drewN | apply below_drew1) | exact HB.out)))); have n1_ := Aside0.mk (below_step (by repeat (first | (with_reducible first | exact HB.out | apply below_alloc | apply pw_below_drewN | apply below_drew1) | exact HB.out)) hb); clear HB; have HO242 := n0_; have HB := n1_; clear n0_ n1_; (try clear hb); (try clear hb2); (try clear hk); (try clear hi); (try clear ho0); obtain ⟨Ao11, co11, eo11⟩ := Kd.R_slice HO242.out; subst eo11) | ((with_reducible refine gate_callee (f := 57) rfl ?_); refine goesL_ (some 22) rfl rfl Try.func57 (by kernel_rfl) rfl #[.slice Ao11 t240.length co11, .int .i64 (wrap64 (1 + t239))] rfl (by (try simp only [List.map_toArray, List.map_cons, List.map_nil]); first | done | rfl | (simp only [List.length_drop, List.length_take]; rfl)) ?_; (with_reducible refine (sorts_Orders.calls _ _ t240 (wrap64 (1 + t239)) t243 _ ?side1 ?side2 A7.out).mono ?_); (case side1 => repeat (first | exact (Kd.R_reads' HO242.out).2.2 | (with_reducible refine Kd.C_alloc ?_ _) | (with_reducible refine Kd.C_drewN ?_ _) | (with_reducible refine Kd.C_drew ?_))); (case side2 => exact (Kd.R_reads' HO242.out).2.1); rintro e w12 ⟨v244, rfl, ho0, hb⟩; refine ⟨_, rfl, ?_⟩; have n0_ := Aside0.mk (Kd.R_below (by (with_reducible repeat (first | apply Kd.R_alloc | apply Kd.R_drewN | apply Kd.R_drew)); exact HO242.out) hb); have n1_ := Aside0.mk (Kd.S_lower ho0 (below_size (by repeat (first | (with_reducible first | exact HB.out | apply below_alloc | apply pw_below_drewN | apply below_drew1) | exact HB.out)))); have n2_ := Aside0.mk (below_step (by repeat (first | (with_reducible first | exact HB.out | apply below_alloc | apply pw_below_drewN | apply below_drew1) | exact HB.out)) hb); clear HO242; clear HB; have HO242 := n0_; have HO245 := n1_; have HB := n2_; clear n0_ n1_ n2_; (try clear hb); (try clear hb2); (try clear hk); (try clear hi); (try clear ho0)))
 (try simp only [Act.put, sl0, sl1, sl2])
 go_cut [35] (fun v35 wc => ∃ (kq : Nat) (x35_7 : Bool), v35 = .bool x35_7 ∧ Aside0 (hypercubelaw10_SortsOrders.j0 kq (wrap64 (1 + t239)) t240 t243 x35_7 = some r) ∧ Aside0 (kq ≤ k) ∧ Aside0 (Kd.R k49 49 wc w.heap.size (fun _ => True) (.slice Ao11 t240.length co11) t240) ∧ Aside0 (Kd.S (Kd.slice 3 (Kd.int .i64)) 24 wc w.heap.size (fun _ => True) v244 t243) ∧ Aside0 (Below w.heap.size w wc))
 case first =>
  have H := HC8.out
  clear HC8
  by_cases c13 : (t243.length : Int) = (t240.length : Int)
  rotate_left
  ·rw [if_neg c13] at H
   have c13b0 : ((t243.length : Int) == (t240.length : Int)) = false := beq_eq_false_iff_ne.mpr c13
   have c13b1 : ((t243.length : Int) != (t240.length : Int)) = true := bne_iff_ne.mpr c13
   have c13b2 : (t243.length == t240.length) = false := by first | simpa using c13 | (simp at c13 ⊢; omega)
   (first | rw [c13b0] | (simp only [i64_w, i32_w]; rw [c13b0]) | skip)
   have H' := Aside0.mk H
   clear H
   obtain ⟨Ao19, co19, eo19⟩ := Kd.S_slice HO245.out
   subst eo19
   go_wp2
   go_meet
   case rel => exact ⟨_, (true), (by first | rfl | (simp; done) | (simp [*]; done)), H', ⟨by first | omega | exact Nat.le_refl _⟩, ⟨by (with_reducible repeat (first | apply Kd.R_alloc | apply Kd.R_drewN | apply Kd.R_drew)); exact HO242.out⟩, ⟨by (with_reducible repeat (first | apply Kd.S_alloc | apply Kd.S_drewN | apply Kd.S_drew)); exact HO245.out⟩, ⟨by repeat (first | (with_reducible first | exact HB.out | apply below_alloc | apply pw_below_drewN | apply below_drew1) | exact HB.out)⟩⟩
  rw [if_pos c13] at H
  have c13b0 : ((t243.length : Int) == (t240.length : Int)) = true := beq_iff_eq.mpr c13
  have c13b1 : ((t243.length : Int) != (t240.length : Int)) = false := bne_eq_false_iff_eq.mpr c13
  have c13b2 : (t243.length == t240.length) = true := by first | simpa using c13 | (simp at c13 ⊢; omega)
  clear c13
  (first | rw [c13b0] | (simp only [i64_w, i32_w]; rw [c13b0]) | skip)
  replace H := Option.bind_eq_some_iff.mp H
  obtain ⟨t246, A140, H⟩ := H
  replace H : ((hypercubelaw10_same.f k t243 t246).bind fun t249 => (hypercubelaw10_SortsOrders.j0 k (wrap64 (1 + t239)) t240 t243 (!t249))) = some r := H
  have A14 := Aside0.mk A140
  clear A140
  replace H := Option.bind_eq_some_iff.mp H
  obtain ⟨t249, A150, H⟩ := H
  replace H : (hypercubelaw10_SortsOrders.j0 k (wrap64 (1 + t239)) t240 t243 (!t249)) = some r := H
  have A15 := Aside0.mk A150
  clear A150
  have H' := Aside0.mk H
  clear H
  obtain ⟨Ao16, co16, eo16⟩ := Kd.S_slice HO245.out
  subst eo16
  go_wp2_with (first | (go_at_call 59; (with_reducible refine (hypercuberef10_Orders.calls k _ _ t240 (wrap64 (1 + t239)) t246 _ ?side1 ?side2 A14.out).mono ?_); (case side1 => repeat (first | exact (Kd.R_reads' HO242.out).2.2 | (with_reducible refine Kd.C_alloc ?_ _) | (with_reducible refine Kd.C_drewN ?_ _) | (with_reducible refine Kd.C_drew ?_))); (case side2 => exact (Kd.R_reads' HO242.out).2.1); rintro e w17 ⟨v247, rfl, ho0, hb⟩; have n0_ := Aside0.mk (Kd.R_below (by (with_reducible repeat (first | apply Kd.R_alloc | apply Kd.R_drewN | apply Kd.R_drew)); exact HO242.out) hb); have n1_ := Aside0.mk (Kd.S_elder' (by (with_reducible repeat (first | apply Kd.S_alloc | apply Kd.S_drewN | apply Kd.S_drew)); exact HO245.out) (Kd.S_base ho0) hb); have n2_ := Aside0.mk (Kd.S_lower (Kd.S_new' ho0 (Kd.S_lt (by (with_reducible repeat (first | apply Kd.S_alloc | apply Kd.S_drewN | apply Kd.S_drew)); exact HO245.out))) (below_size (by repeat (first | (with_reducible first | exact HB.out | apply below_alloc | apply pw_below_drewN | apply below_drew1) | exact HB.out)))); have n3_ := Aside0.mk (below_step (by repeat (first | (with_reducible first | exact HB.out | apply below_alloc | apply pw_below_drewN | apply below_drew1) | exact HB.out)) hb); clear HO242; clear HO245; clear HB; have HO242 := n0_; have HO245 := n1_; have HO248 := n2_; have HB := n3_; clear n0_ n1_ n2_ n3_; (try clear hb); (try clear hb2); (try clear hk); (try clear hi); (try clear ho0); obtain ⟨Ao18, co18, eo18⟩ := Kd.S_slice HO248.out; subst eo18) | (go_at_call 58; (with_reducible refine (hypercubelaw10_same.calls k _ _ t243 _ _ t246 t249 _ ?side1 ?side2 ?side3 ?side4 A15.out).mono ?_); (case side1 => repeat (first | exact (Kd.S_reads' HO245.out).2.2 | (with_reducible refine Kd.C_alloc ?_ _) | (with_reducible refine Kd.C_drewN ?_ _) | (with_reducible refine Kd.C_drew ?_))); (case side2 => exact (Kd.S_reads' HO245.out).2.1); (case side3 => repeat (first | exact (Kd.S_reads' HO248.out).2.2 | (with_reducible refine Kd.C_alloc ?_ _) | (with_reducible refine Kd.C_drewN ?_ _) | (with_reducible refine Kd.C_drew ?_))); (case side4 => exact (Kd.S_reads' HO248.out).2.1); rintro e w' ⟨rfl, ⟨nd, rfl⟩⟩))
  go_meet
  case rel => exact ⟨_, (!t249), (by first | rfl | (simp; done) | (simp [*]; done)), H', ⟨by first | omega | exact Nat.le_refl _⟩, ⟨by (with_reducible repeat (first | apply Kd.R_alloc | apply Kd.R_drewN | apply Kd.R_drew)); exact HO242.out⟩, ⟨by (with_reducible repeat (first | apply Kd.S_alloc | apply Kd.S_drewN | apply Kd.S_drew)); exact Kd.S_mono HO245.out (fun _ hk => trivial)⟩, ⟨by repeat (first | (with_reducible first | exact HB.out | apply below_alloc | apply pw_below_drewN | apply below_drew1) | exact HB.out)⟩⟩
 case rest =>
  clear HC8
  try clear c1
  try clear c2
  try clear p2
  try clear c4
  try clear c5
  try clear p6
  try clear c13
  try clear c13b0
  try clear c13b1
  try clear c13b2
  obtain ⟨kq, x35_7, rfl, HA, HJ7, HO_6, HO_7, HB⟩ := hcut
  cases kq with
  | zero => exact absurd HA.out (by simp [hypercubelaw10_SortsOrders.j0])
  | succ kj7 =>
   have H := HA.out
   clear HA
   simp only [hypercubelaw10_SortsOrders.j0] at H
   by_cases c20 : x35_7 = true
   ·subst c20
    have H1 : (some false) = some r := by rw [if_pos rfl] at H; exact H
    clear H
    have H := H1
    clear H1
    obtain rfl := Option.some.inj H
    go_wp2
    go_ret
    exact ⟨by first | rfl | (simp [errW_none, errW_some] <;> rfl) | (simp [*, errW_none, errW_some] <;> rfl), by repeat (first | (with_reducible first | exact HB.out | apply below_alloc | apply pw_below_drewN | apply below_drew1) | exact HB.out)⟩
   replace c20 := Bool.eq_false_iff.mpr c20
   subst c20
   have H1 : (hypercubelaw10_SortsOrders.l0 kj7 (wrap64 (1 + t239)) t240 t243 0) = some r := by rw [if_neg (show ¬ (false = true) by decide)] at H; exact H
   clear H
   have H := H1
   clear H1
   have H' := Aside0.mk H
   clear H
   go_wp2
   go_loopg [8] kj7 (fun kq v8 w' => ∃ (x8_2 : Int), v8 = .int .i64 x8_2 ∧ Aside0 (hypercubelaw10_SortsOrders.l0 kq (wrap64 (1 + t239)) t240 t243 x8_2 = some r) ∧ Aside0 (kq ≤ kj7) ∧ Aside0 (Kd.R k49 49 w' w.heap.size (fun _ => True) (.slice Ao11 t240.length co11) t240) ∧ Aside0 (Kd.S (Kd.slice 3 (Kd.int .i64)) 24 w' w.heap.size (fun _ => True) v244 t243) ∧ Aside0 (Below w.heap.size w w'))
   case atStart => exact ⟨(0), (by first | rfl | (simp; done) | (simp [*]; done)), H', ⟨Nat.le_refl _⟩, ⟨by (with_reducible repeat (first | apply Kd.R_alloc | apply Kd.R_drewN | apply Kd.R_drew)); exact HO_6.out⟩, ⟨by (with_reducible repeat (first | apply Kd.S_alloc | apply Kd.S_drewN | apply Kd.S_drew)); exact HO_7.out⟩, ⟨by repeat (first | (with_reducible first | exact HB.out | apply below_alloc | apply pw_below_drewN | apply below_drew1) | exact HB.out)⟩⟩
   case round =>
    clear H'
    try clear c1
    try clear c2
    try clear p2
    try clear c4
    try clear c5
    try clear p6
    try clear c13
    try clear c13b0
    try clear c13b1
    try clear c13b2
    try clear c20
    try clear p2
    try clear p6
    obtain ⟨x8_2, rfl, HA, HK2, HO_6, HO_7, HB⟩ := hrel
    cases gk with
    | zero => exact absurd HA.out (by simp [hypercubelaw10_SortsOrders.l0])
    | succ k2 =>
     have H := HA.out
     clear HA
     simp only [hypercubelaw10_SortsOrders.l0] at H
     by_cases c21 : x8_2 < (t240.length : Int)
     rotate_left
     ·rw [if_neg c21] at H
      have c21b0 : decide (x8_2 < (t240.length : Int)) = false := decide_eq_false c21
      clear c21
      obtain rfl := Option.some.inj H
      go_wp2
      go_ret
      exact ⟨by first | rfl | (simp [errW_none, errW_some] <;> rfl) | (simp [*, errW_none, errW_some] <;> rfl), by repeat (first | (with_reducible first | exact HB.out | apply below_alloc | apply pw_below_drewN | apply below_drew1) | exact HB.out)⟩
     rw [if_pos c21] at H
     have c21b0 : decide (x8_2 < (t240.length : Int)) = true := decide_eq_true c21
     clear c21
     have H' := Aside0.mk H
     clear H
     go_wp2
     go_loopg [9, 10] k2 (fun kq v9 v10 w' => ∃ (x9_3 : Int) (x10_3 : Int), v9 = .int .i64 x9_3 ∧ v10 = .int .i64 x10_3 ∧ Aside0 (hypercubelaw10_SortsOrders.l1 kq (wrap64 (1 + t239)) t240 t243 x8_2 x9_3 x10_3 = some r) ∧ Aside0 (kq ≤ k2) ∧ Aside0 (Kd.R k49 49 w' w.heap.size (fun _ => True) (.slice Ao11 t240.length co11) t240) ∧ Aside0 (Kd.S (Kd.slice 3 (Kd.int .i64)) 24 w' w.heap.size (fun _ => True) v244 t243) ∧ Aside0 (Below w.heap.size w w'))
     case atStart => exact ⟨(0), (0), (by first | rfl | (simp; done) | (simp [*]; done)), (by first | rfl | (simp; done) | (simp [*]; done)), H', ⟨Nat.le_refl _⟩, ⟨by (with_reducible repeat (first | apply Kd.R_alloc | apply Kd.R_drewN | apply Kd.R_drew)); exact HO_6.out⟩, ⟨by (with_reducible repeat (first | apply Kd.S_alloc | apply Kd.S_drewN | apply Kd.S_drew)); exact HO_7.out⟩, ⟨by repeat (first | (with_reducible first | exact HB.out | apply below_alloc | apply pw_below_drewN | apply below_drew1) | exact HB.out)⟩⟩
     case round =>
      clear H'
      try clear c1
      try clear c2
      try clear p2
      try clear c4
      try clear c5
      try clear p6
      try clear c13
      try clear c13b0
      try clear c13b1
      try clear c13b2
      try clear c20
      try clear c21
      try clear c21b0
      try clear p2
      try clear p6
      obtain ⟨x9_3, x10_3, rfl, rfl, HA, HK3, HO_6, HO_7, HB⟩ := hrel
      cases gk with
      | zero => exact absurd HA.out (by simp [hypercubelaw10_SortsOrders.l1])
      | succ k3 =>
       have H := HA.out
       clear HA
       simp only [hypercubelaw10_SortsOrders.l1] at H
       by_cases c22 : 0 ≤ x8_2
       rotate_left
       ·rw [if_neg c22] at H
        exact absurd H (by simp)
       rw [if_pos c22] at H
       have c22b0 : decide (0 ≤ x8_2) = true := decide_eq_true c22
       clear c22
       by_cases c23 : x8_2 < (t243.length : Int)
       rotate_left
       ·rw [if_neg c23] at H
        exact absurd H (by simp)
       rw [if_pos c23] at H
       have c23b0 : decide (x8_2 < (t243.length : Int)) = true := decide_eq_true c23
       clear c23
       by_cases c24 : x10_3 < ((rd_L3 t243 x8_2).length : Int)
       ·rw [if_pos c24] at H
        have c24b0 : decide (x10_3 < ((rd_L3 t243 x8_2).length : Int)) = true := decide_eq_true c24
        clear c24
        by_cases c25 : 0 ≤ x10_3
        rotate_left
        ·rw [if_neg c25] at H
         exact absurd H (by simp)
        rw [if_pos c25] at H
        have c25b0 : decide (0 ≤ x10_3) = true := decide_eq_true c25
        clear c25
        by_cases c26 : (rd (rd_L3 t243 x8_2) x10_3) < 0
        ·rw [if_pos c26] at H
         have c26b0 : decide ((rd (rd_L3 t243 x8_2) x10_3) < 0) = true := decide_eq_true c26
         clear c26
         obtain rfl := Option.some.inj H
         obtain ⟨Ao27, co27, eo27⟩ := Kd.S_slice HO_7.out
         subst eo27
         have p250 : 0 ≤ (x8_2 : Int) := od_
         have q250 : x8_2 < (t243.length : Int) := od_
         obtain ⟨ad250, A250_0, c250_0, e250, hx250_0, hl250_0, hi250_0⟩ := at_L3 (Kd.S_reads' HO_7.out).2.2 x8_2 p250 q250
         cases e250
         obtain ⟨ce250, hce250, hMe250, hcc250⟩ := Kd.S_get HO_7.out [] x8_2 p250 (by first | exact q250 | exact of_decide_eq_true (by first | (with_reducible assumption) | assumption) | (have e_ := (Kd.S_reads' HO_7.out).1; omega))
         obtain ⟨ve250_0, rfl, ge250_0⟩ := hMe250
         have hv250_0 := hcc250 0 _ rfl
         rw [Nat.add_zero, show ((Kd.slice 3 (Kd.int .i64))).sz = 1 from rfl, Nat.mul_one] at hv250_0
         replace hv250_0 := Option.some.inj (hv250_0.symm.trans hx250_0)
         rw [hv250_0] at ge250_0
         have HL250_0 := Aside0.mk (show Kd.R (Kd.int .i64) 3 _ _ _ _ (rd_L3 t243 x8_2) from ge250_0)
         clear hv250_0 ge250_0
         clear hcc250 hce250
         have HR250_0 := Aside0.mk hi250_0
         have HC250_0 := Aside0.mk hl250_0
         clear hi250_0 hl250_0
         replace p250 := eq_true p250
         replace q250 := eq_true q250
         have p251 : 0 ≤ (x8_2 : Int) := od_
         have q251 : x8_2 < (t243.length : Int) := od_
         obtain ⟨ad251, A251_0, c251_0, e251, hx251_0, hl251_0, hi251_0⟩ := at_L3 (Kd.S_reads' HO_7.out).2.2 x8_2 p251 q251
         obtain rfl : ad250 = ad251 := (by injection e251)
         obtain ⟨ce251, hce251, hMe251, hcc251⟩ := Kd.S_get HO_7.out [] x8_2 p251 (by first | exact q251 | exact of_decide_eq_true (by first | (with_reducible assumption) | assumption) | (have e_ := (Kd.S_reads' HO_7.out).1; omega))
         obtain ⟨ve251_0, rfl, ge251_0⟩ := hMe251
         have hv251_0 := hcc251 0 _ rfl
         rw [Nat.add_zero, show ((Kd.slice 3 (Kd.int .i64))).sz = 1 from rfl, Nat.mul_one] at hv251_0
         replace hv251_0 := Option.some.inj (hv251_0.symm.trans hx251_0)
         rw [hv251_0] at ge251_0
         have HL251_0 := Aside0.mk (show Kd.R (Kd.int .i64) 3 _ _ _ _ (rd_L3 t243 x8_2) from ge251_0)
         clear hv251_0 ge251_0
         clear hcc251 hce251
         have HR251_0 := Aside0.mk hi251_0
         have HC251_0 := Aside0.mk hl251_0
         clear hi251_0 hl251_0
         replace p251 := eq_true p251
         replace q251 := eq_true q251
         have ea_ := Option.some.inj (hx250_0.symm.trans hx251_0)
         injection ea_ with ea_ en_ ec_
         subst ea_
         subst ec_
         clear en_
         have p252 : 0 ≤ (x10_3 : Int) := od_
         have q252 : x10_3 < ((rd_L3 t243 x8_2).length : Int) := od_
         obtain ⟨ad252, e252, hx252_0⟩ := Kd.at_int (by repeat (first | (with_reducible exact HR251_0.out) | (with_reducible refine Kd.C_alloc ?_ _) | (with_reducible refine Kd.C_drewN ?_ _) | (with_reducible refine Kd.C_drew ?_) | exact HR251_0.out)) x10_3 p252 q252
         cases e252
         replace p252 := eq_true p252
         replace q252 := eq_true q252
         go_wp2
         go_ret
         exact ⟨by first | rfl | (simp [errW_none, errW_some] <;> rfl) | (simp [*, errW_none, errW_some] <;> rfl), by repeat (first | (with_reducible first | exact HB.out | apply below_alloc | apply pw_below_drewN | apply below_drew1) | exact HB.out)⟩
        rw [if_neg c26] at H
        have c26b0 : decide ((rd (rd_L3 t243 x8_2) x10_3) < 0) = false := decide_eq_false c26
        clear c26
        by_cases c28 : (rd (rd_L3 t243 x8_2) x10_3) ≥ (wrap64 (1 + t239))
        ·rw [if_pos c28] at H
         have c28b0 : decide ((wrap64 (1 + t239)) ≤ (rd (rd_L3 t243 x8_2) x10_3)) = true := decide_eq_true c28
         clear c28
         obtain rfl := Option.some.inj H
         obtain ⟨Ao29, co29, eo29⟩ := Kd.S_slice HO_7.out
         subst eo29
         have p250 : 0 ≤ (x8_2 : Int) := od_
         have q250 : x8_2 < (t243.length : Int) := od_
         obtain ⟨ad250, A250_0, c250_0, e250, hx250_0, hl250_0, hi250_0⟩ := at_L3 (Kd.S_reads' HO_7.out).2.2 x8_2 p250 q250
         cases e250
         obtain ⟨ce250, hce250, hMe250, hcc250⟩ := Kd.S_get HO_7.out [] x8_2 p250 (by first | exact q250 | exact of_decide_eq_true (by first | (with_reducible assumption) | assumption) | (have e_ := (Kd.S_reads' HO_7.out).1; omega))
         obtain ⟨ve250_0, rfl, ge250_0⟩ := hMe250
         have hv250_0 := hcc250 0 _ rfl
         rw [Nat.add_zero, show ((Kd.slice 3 (Kd.int .i64))).sz = 1 from rfl, Nat.mul_one] at hv250_0
         replace hv250_0 := Option.some.inj (hv250_0.symm.trans hx250_0)
         rw [hv250_0] at ge250_0
         have HL250_0 := Aside0.mk (show Kd.R (Kd.int .i64) 3 _ _ _ _ (rd_L3 t243 x8_2) from ge250_0)
         clear hv250_0 ge250_0
         clear hcc250 hce250
         have HR250_0 := Aside0.mk hi250_0
         have HC250_0 := Aside0.mk hl250_0
         clear hi250_0 hl250_0
         replace p250 := eq_true p250
         replace q250 := eq_true q250
         have p251 : 0 ≤ (x8_2 : Int) := od_
         have q251 : x8_2 < (t243.length : Int) := od_
         obtain ⟨ad251, A251_0, c251_0, e251, hx251_0, hl251_0, hi251_0⟩ := at_L3 (Kd.S_reads' HO_7.out).2.2 x8_2 p251 q251
         obtain rfl : ad250 = ad251 := (by injection e251)
         obtain ⟨ce251, hce251, hMe251, hcc251⟩ := Kd.S_get HO_7.out [] x8_2 p251 (by first | exact q251 | exact of_decide_eq_true (by first | (with_reducible assumption) | assumption) | (have e_ := (Kd.S_reads' HO_7.out).1; omega))
         obtain ⟨ve251_0, rfl, ge251_0⟩ := hMe251
         have hv251_0 := hcc251 0 _ rfl
         rw [Nat.add_zero, show ((Kd.slice 3 (Kd.int .i64))).sz = 1 from rfl, Nat.mul_one] at hv251_0
         replace hv251_0 := Option.some.inj (hv251_0.symm.trans hx251_0)
         rw [hv251_0] at ge251_0
         have HL251_0 := Aside0.mk (show Kd.R (Kd.int .i64) 3 _ _ _ _ (rd_L3 t243 x8_2) from ge251_0)
         clear hv251_0 ge251_0
         clear hcc251 hce251
         have HR251_0 := Aside0.mk hi251_0
         have HC251_0 := Aside0.mk hl251_0
         clear hi251_0 hl251_0
         replace p251 := eq_true p251
         replace q251 := eq_true q251
         have ea_ := Option.some.inj (hx250_0.symm.trans hx251_0)
         injection ea_ with ea_ en_ ec_
         subst ea_
         subst ec_
         clear en_
         have p252 : 0 ≤ (x10_3 : Int) := od_
         have q252 : x10_3 < ((rd_L3 t243 x8_2).length : Int) := od_
         obtain ⟨ad252, e252, hx252_0⟩ := Kd.at_int (by repeat (first | (with_reducible exact HR251_0.out) | (with_reducible refine Kd.C_alloc ?_ _) | (with_reducible refine Kd.C_drewN ?_ _) | (with_reducible refine Kd.C_drew ?_) | exact HR251_0.out)) x10_3 p252 q252
         cases e252
         replace p252 := eq_true p252
         replace q252 := eq_true q252
         have p253 : 0 ≤ (x8_2 : Int) := od_
         have q253 : x8_2 < (t243.length : Int) := od_
         obtain ⟨ad253, A253_0, c253_0, e253, hx253_0, hl253_0, hi253_0⟩ := at_L3 (Kd.S_reads' HO_7.out).2.2 x8_2 p253 q253
         obtain rfl : ad250 = ad253 := (by injection e253)
         obtain ⟨ce253, hce253, hMe253, hcc253⟩ := Kd.S_get HO_7.out [] x8_2 p253 (by first | exact q253 | exact of_decide_eq_true (by first | (with_reducible assumption) | assumption) | (have e_ := (Kd.S_reads' HO_7.out).1; omega))
         obtain ⟨ve253_0, rfl, ge253_0⟩ := hMe253
         have hv253_0 := hcc253 0 _ rfl
         rw [Nat.add_zero, show ((Kd.slice 3 (Kd.int .i64))).sz = 1 from rfl, Nat.mul_one] at hv253_0
         replace hv253_0 := Option.some.inj (hv253_0.symm.trans hx253_0)
         rw [hv253_0] at ge253_0
         have HL253_0 := Aside0.mk (show Kd.R (Kd.int .i64) 3 _ _ _ _ (rd_L3 t243 x8_2) from ge253_0)
         clear hv253_0 ge253_0
         clear hcc253 hce253
         have HR253_0 := Aside0.mk hi253_0
         have HC253_0 := Aside0.mk hl253_0
         clear hi253_0 hl253_0
         replace p253 := eq_true p253
         replace q253 := eq_true q253
         have ea_ := Option.some.inj (hx250_0.symm.trans hx253_0)
         injection ea_ with ea_ en_ ec_
         subst ea_
         subst ec_
         clear en_
         have p254 : 0 ≤ (x10_3 : Int) := od_
         have q254 : x10_3 < ((rd_L3 t243 x8_2).length : Int) := od_
         obtain ⟨ad254, e254, hx254_0⟩ := Kd.at_int (by repeat (first | (with_reducible exact HR253_0.out) | (with_reducible refine Kd.C_alloc ?_ _) | (with_reducible refine Kd.C_drewN ?_ _) | (with_reducible refine Kd.C_drew ?_) | exact HR253_0.out)) x10_3 p254 q254
         cases e254
         replace p254 := eq_true p254
         replace q254 := eq_true q254
         go_wp2
         go_ret
         exact ⟨by first | rfl | (simp [errW_none, errW_some] <;> rfl) | (simp [*, errW_none, errW_some] <;> rfl), by repeat (first | (with_reducible first | exact HB.out | apply below_alloc | apply pw_below_drewN | apply below_drew1) | exact HB.out)⟩
        rw [if_neg c28] at H
        have c28b0 : decide ((wrap64 (1 + t239)) ≤ (rd (rd_L3 t243 x8_2) x10_3)) = false := decide_eq_false c28
        clear c28
        obtain ⟨ji30, hji30⟩ : ∃ j_ : Int, (IntKind.u64.wrap (rd (rd_L3 t243 x8_2) x10_3)) = j_ := ⟨_, rfl⟩
        replace H : (if 0 ≤ (ji30) then (if (Go.bits .and .i64 (shr .i64 x9_3 (ji30)) 1) = 1 then (some false) else (hypercubelaw10_SortsOrders.l1 k3 (wrap64 (1 + t239)) t240 t243 x8_2 (Go.bits .or .i64 x9_3 (shl .i64 1 (ji30))) (wrap64 (x10_3 + 1)))) else (none)) = some r := by first | (rw [hji30] at H; exact H) | (simp only [hji30] at H ⊢; exact H)
        by_cases c31 : 0 ≤ (ji30)
        rotate_left
        ·rw [if_neg c31] at H
         exact absurd H (by simp)
        rw [if_pos c31] at H
        have c31b0 := eq_true c31
        have c31b1 : decide (0 ≤ (ji30)) = true := decide_eq_true c31
        clear c31
        obtain ⟨ji32, hji32⟩ : ∃ j_ : Int, (shr .i64 x9_3 (ji30)) = j_ := ⟨_, rfl⟩
        replace H : (if (Go.bits .and .i64 (ji32) 1) = 1 then (some false) else (hypercubelaw10_SortsOrders.l1 k3 (wrap64 (1 + t239)) t240 t243 x8_2 (Go.bits .or .i64 x9_3 (shl .i64 1 (ji30))) (wrap64 (x10_3 + 1)))) = some r := by first | (rw [hji32] at H; exact H) | (simp only [hji32] at H ⊢; exact H)
        have hji32_ : (x9_3 / 2 ^ min (ji30).toNat 64) = ji32 := hji32
        have hji32z : (ji30) ≤ 64 → (x9_3 / 2 ^ (ji30).toNat) = ji32 := shr_small hji32
        by_cases c33 : (Go.bits .and .i64 (ji32) 1) = 1
        ·rw [if_pos c33] at H
         have c33b0 : ((Go.bits .and .i64 (ji32) 1) == 1) = true := beq_iff_eq.mpr c33
         have c33b1 : ((Go.bits .and .i64 (ji32) 1) != 1) = false := bne_eq_false_iff_eq.mpr c33
         clear c33
         obtain rfl := Option.some.inj H
         obtain ⟨Ao34, co34, eo34⟩ := Kd.S_slice HO_7.out
         subst eo34
         have p250 : 0 ≤ (x8_2 : Int) := od_
         have q250 : x8_2 < (t243.length : Int) := od_
         obtain ⟨ad250, A250_0, c250_0, e250, hx250_0, hl250_0, hi250_0⟩ := at_L3 (Kd.S_reads' HO_7.out).2.2 x8_2 p250 q250
         cases e250
         obtain ⟨ce250, hce250, hMe250, hcc250⟩ := Kd.S_get HO_7.out [] x8_2 p250 (by first | exact q250 | exact of_decide_eq_true (by first | (with_reducible assumption) | assumption) | (have e_ := (Kd.S_reads' HO_7.out).1; omega))
         obtain ⟨ve250_0, rfl, ge250_0⟩ := hMe250
         have hv250_0 := hcc250 0 _ rfl
         rw [Nat.add_zero, show ((Kd.slice 3 (Kd.int .i64))).sz = 1 from rfl, Nat.mul_one] at hv250_0
         replace hv250_0 := Option.some.inj (hv250_0.symm.trans hx250_0)
         rw [hv250_0] at ge250_0
         have HL250_0 := Aside0.mk (show Kd.R (Kd.int .i64) 3 _ _ _ _ (rd_L3 t243 x8_2) from ge250_0)
         clear hv250_0 ge250_0
         clear hcc250 hce250
         have HR250_0 := Aside0.mk hi250_0
         have HC250_0 := Aside0.mk hl250_0
         clear hi250_0 hl250_0
         replace p250 := eq_true p250
         replace q250 := eq_true q250
         have p251 : 0 ≤ (x8_2 : Int) := od_
         have q251 : x8_2 < (t243.length : Int) := od_
         obtain ⟨ad251, A251_0, c251_0, e251, hx251_0, hl251_0, hi251_0⟩ := at_L3 (Kd.S_reads' HO_7.out).2.2 x8_2 p251 q251
         obtain rfl : ad250 = ad251 := (by injection e251)
         obtain ⟨ce251, hce251, hMe251, hcc251⟩ := Kd.S_get HO_7.out [] x8_2 p251 (by first | exact q251 | exact of_decide_eq_true (by first | (with_reducible assumption) | assumption) | (have e_ := (Kd.S_reads' HO_7.out).1; omega))
         obtain ⟨ve251_0, rfl, ge251_0⟩ := hMe251
         have hv251_0 := hcc251 0 _ rfl
         rw [Nat.add_zero, show ((Kd.slice 3 (Kd.int .i64))).sz = 1 from rfl, Nat.mul_one] at hv251_0
         replace hv251_0 := Option.some.inj (hv251_0.symm.trans hx251_0)
         rw [hv251_0] at ge251_0
         have HL251_0 := Aside0.mk (show Kd.R (Kd.int .i64) 3 _ _ _ _ (rd_L3 t243 x8_2) from ge251_0)
         clear hv251_0 ge251_0
         clear hcc251 hce251
         have HR251_0 := Aside0.mk hi251_0
         have HC251_0 := Aside0.mk hl251_0
         clear hi251_0 hl251_0
         replace p251 := eq_true p251
         replace q251 := eq_true q251
         have ea_ := Option.some.inj (hx250_0.symm.trans hx251_0)
         injection ea_ with ea_ en_ ec_
         subst ea_
         subst ec_
         clear en_
         have p252 : 0 ≤ (x10_3 : Int) := od_
         have q252 : x10_3 < ((rd_L3 t243 x8_2).length : Int) := od_
         obtain ⟨ad252, e252, hx252_0⟩ := Kd.at_int (by repeat (first | (with_reducible exact HR251_0.out) | (with_reducible refine Kd.C_alloc ?_ _) | (with_reducible refine Kd.C_drewN ?_ _) | (with_reducible refine Kd.C_drew ?_) | exact HR251_0.out)) x10_3 p252 q252
         cases e252
         replace p252 := eq_true p252
         replace q252 := eq_true q252
         have p253 : 0 ≤ (x8_2 : Int) := od_
         have q253 : x8_2 < (t243.length : Int) := od_
         obtain ⟨ad253, A253_0, c253_0, e253, hx253_0, hl253_0, hi253_0⟩ := at_L3 (Kd.S_reads' HO_7.out).2.2 x8_2 p253 q253
         obtain rfl : ad250 = ad253 := (by injection e253)
         obtain ⟨ce253, hce253, hMe253, hcc253⟩ := Kd.S_get HO_7.out [] x8_2 p253 (by first | exact q253 | exact of_decide_eq_true (by first | (with_reducible assumption) | assumption) | (have e_ := (Kd.S_reads' HO_7.out).1; omega))
         obtain ⟨ve253_0, rfl, ge253_0⟩ := hMe253
         have hv253_0 := hcc253 0 _ rfl
         rw [Nat.add_zero, show ((Kd.slice 3 (Kd.int .i64))).sz = 1 from rfl, Nat.mul_one] at hv253_0
         replace hv253_0 := Option.some.inj (hv253_0.symm.trans hx253_0)
         rw [hv253_0] at ge253_0
         have HL253_0 := Aside0.mk (show Kd.R (Kd.int .i64) 3 _ _ _ _ (rd_L3 t243 x8_2) from ge253_0)
         clear hv253_0 ge253_0
         clear hcc253 hce253
         have HR253_0 := Aside0.mk hi253_0
         have HC253_0 := Aside0.mk hl253_0
         clear hi253_0 hl253_0
         replace p253 := eq_true p253
         replace q253 := eq_true q253
         have ea_ := Option.some.inj (hx250_0.symm.trans hx253_0)
         injection ea_ with ea_ en_ ec_
         subst ea_
         subst ec_
         clear en_
         have p254 : 0 ≤ (x10_3 : Int) := od_
         have q254 : x10_3 < ((rd_L3 t243 x8_2).length : Int) := od_
         obtain ⟨ad254, e254, hx254_0⟩ := Kd.at_int (by repeat (first | (with_reducible exact HR253_0.out) | (with_reducible refine Kd.C_alloc ?_ _) | (with_reducible refine Kd.C_drewN ?_ _) | (with_reducible refine Kd.C_drew ?_) | exact HR253_0.out)) x10_3 p254 q254
         cases e254
         replace p254 := eq_true p254
         replace q254 := eq_true q254
         have p255 : 0 ≤ (x8_2 : Int) := od_
         have q255 : x8_2 < (t243.length : Int) := od_
         obtain ⟨ad255, A255_0, c255_0, e255, hx255_0, hl255_0, hi255_0⟩ := at_L3 (Kd.S_reads' HO_7.out).2.2 x8_2 p255 q255
         obtain rfl : ad250 = ad255 := (by injection e255)
         obtain ⟨ce255, hce255, hMe255, hcc255⟩ := Kd.S_get HO_7.out [] x8_2 p255 (by first | exact q255 | exact of_decide_eq_true (by first | (with_reducible assumption) | assumption) | (have e_ := (Kd.S_reads' HO_7.out).1; omega))
         obtain ⟨ve255_0, rfl, ge255_0⟩ := hMe255
         have hv255_0 := hcc255 0 _ rfl
         rw [Nat.add_zero, show ((Kd.slice 3 (Kd.int .i64))).sz = 1 from rfl, Nat.mul_one] at hv255_0
         replace hv255_0 := Option.some.inj (hv255_0.symm.trans hx255_0)
         rw [hv255_0] at ge255_0
         have HL255_0 := Aside0.mk (show Kd.R (Kd.int .i64) 3 _ _ _ _ (rd_L3 t243 x8_2) from ge255_0)
         clear hv255_0 ge255_0
         clear hcc255 hce255
         have HR255_0 := Aside0.mk hi255_0
         have HC255_0 := Aside0.mk hl255_0
         clear hi255_0 hl255_0
         replace p255 := eq_true p255
         replace q255 := eq_true q255
         have ea_ := Option.some.inj (hx250_0.symm.trans hx255_0)
         injection ea_ with ea_ en_ ec_
         subst ea_
         subst ec_
         clear en_
         have p256 : 0 ≤ (x10_3 : Int) := od_
         have q256 : x10_3 < ((rd_L3 t243 x8_2).length : Int) := od_
         obtain ⟨ad256, e256, hx256_0⟩ := Kd.at_int (by repeat (first | (with_reducible exact HR255_0.out) | (with_reducible refine Kd.C_alloc ?_ _) | (with_reducible refine Kd.C_drewN ?_ _) | (with_reducible refine Kd.C_drew ?_) | exact HR255_0.out)) x10_3 p256 q256
         cases e256
         replace p256 := eq_true p256
         replace q256 := eq_true q256
         go_wp2
         go_ret
         exact ⟨by first | rfl | (simp [errW_none, errW_some] <;> rfl) | (simp only [← hji30, ← hji32]; first | rfl | (simp [errW_none, errW_some] <;> rfl)) | (simp [*, errW_none, errW_some] <;> rfl), by repeat (first | (with_reducible first | exact HB.out | apply below_alloc | apply pw_below_drewN | apply below_drew1) | exact HB.out)⟩
        rw [if_neg c33] at H
        have c33b0 : ((Go.bits .and .i64 (ji32) 1) == 1) = false := beq_eq_false_iff_ne.mpr c33
        have c33b1 : ((Go.bits .and .i64 (ji32) 1) != 1) = true := bne_iff_ne.mpr c33
        have c35b0 := eq_true (of_decide_eq_true (by first | (with_reducible assumption) | assumption) : 0 ≤ (ji30))
        obtain ⟨ji36, hji36⟩ : ∃ j_ : Int, (shl .i64 1 (ji30)) = j_ := ⟨_, rfl⟩
        replace H : (hypercubelaw10_SortsOrders.l1 k3 (wrap64 (1 + t239)) t240 t243 x8_2 (Go.bits .or .i64 x9_3 (ji36)) (wrap64 (x10_3 + 1))) = some r := by first | (rw [hji36] at H; exact H) | (simp only [hji36] at H ⊢; exact H)
        have hji36_ : (IntKind.i64.wrap (1 * 2 ^ min (ji30).toNat 64)) = ji36 := hji36
        have hji36z : (ji30) ≤ 64 → (IntKind.i64.wrap (1 * 2 ^ (ji30).toNat)) = ji36 := shl_small hji36
        have hji36u : (IntKind.i64.wrap (2 ^ min (ji30).toNat 64)) = ji36 := by have h_ := hji36_; rw [Int.one_mul] at h_; exact h_
        have hji36v : (ji30) ≤ 64 → (IntKind.i64.wrap (2 ^ (ji30).toNat)) = ji36 := fun hle_ => by have h_ := hji36z hle_; rw [Int.one_mul] at h_; exact h_
        have hji36y : (wrap64 (1 * 2 ^ min (ji30).toNat 64)) = ji36 := (i64_w _).symm.trans hji36_
        have hji36x : (ji30) ≤ 64 → (wrap64 (1 * 2 ^ (ji30).toNat)) = ji36 := fun h_ => (i64_w _).symm.trans (hji36z h_)
        have H' := Aside0.mk H
        clear H
        obtain ⟨Ao37, co37, eo37⟩ := Kd.S_slice HO_7.out
        subst eo37
        have p250 : 0 ≤ (x8_2 : Int) := od_
        have q250 : x8_2 < (t243.length : Int) := od_
        obtain ⟨ad250, A250_0, c250_0, e250, hx250_0, hl250_0, hi250_0⟩ := at_L3 (Kd.S_reads' HO_7.out).2.2 x8_2 p250 q250
        cases e250
        obtain ⟨ce250, hce250, hMe250, hcc250⟩ := Kd.S_get HO_7.out [] x8_2 p250 (by first | exact q250 | exact of_decide_eq_true (by first | (with_reducible assumption) | assumption) | (have e_ := (Kd.S_reads' HO_7.out).1; omega))
        obtain ⟨ve250_0, rfl, ge250_0⟩ := hMe250
        have hv250_0 := hcc250 0 _ rfl
        rw [Nat.add_zero, show ((Kd.slice 3 (Kd.int .i64))).sz = 1 from rfl, Nat.mul_one] at hv250_0
        replace hv250_0 := Option.some.inj (hv250_0.symm.trans hx250_0)
        rw [hv250_0] at ge250_0
        have HL250_0 := Aside0.mk (show Kd.R (Kd.int .i64) 3 _ _ _ _ (rd_L3 t243 x8_2) from ge250_0)
        clear hv250_0 ge250_0
        clear hcc250 hce250
        have HR250_0 := Aside0.mk hi250_0
        have HC250_0 := Aside0.mk hl250_0
        clear hi250_0 hl250_0
        replace p250 := eq_true p250
        replace q250 := eq_true q250
        have p251 : 0 ≤ (x8_2 : Int) := od_
        have q251 : x8_2 < (t243.length : Int) := od_
        obtain ⟨ad251, A251_0, c251_0, e251, hx251_0, hl251_0, hi251_0⟩ := at_L3 (Kd.S_reads' HO_7.out).2.2 x8_2 p251 q251
        obtain rfl : ad250 = ad251 := (by injection e251)
        obtain ⟨ce251, hce251, hMe251, hcc251⟩ := Kd.S_get HO_7.out [] x8_2 p251 (by first | exact q251 | exact of_decide_eq_true (by first | (with_reducible assumption) | assumption) | (have e_ := (Kd.S_reads' HO_7.out).1; omega))
        obtain ⟨ve251_0, rfl, ge251_0⟩ := hMe251
        have hv251_0 := hcc251 0 _ rfl
        rw [Nat.add_zero, show ((Kd.slice 3 (Kd.int .i64))).sz = 1 from rfl, Nat.mul_one] at hv251_0
        replace hv251_0 := Option.some.inj (hv251_0.symm.trans hx251_0)
        rw [hv251_0] at ge251_0
        have HL251_0 := Aside0.mk (show Kd.R (Kd.int .i64) 3 _ _ _ _ (rd_L3 t243 x8_2) from ge251_0)
        clear hv251_0 ge251_0
        clear hcc251 hce251
        have HR251_0 := Aside0.mk hi251_0
        have HC251_0 := Aside0.mk hl251_0
        clear hi251_0 hl251_0
        replace p251 := eq_true p251
        replace q251 := eq_true q251
        have ea_ := Option.some.inj (hx250_0.symm.trans hx251_0)
        injection ea_ with ea_ en_ ec_
        subst ea_
        subst ec_
        clear en_
        have p252 : 0 ≤ (x10_3 : Int) := od_
        have q252 : x10_3 < ((rd_L3 t243 x8_2).length : Int) := od_
        obtain ⟨ad252, e252, hx252_0⟩ := Kd.at_int (by repeat (first | (with_reducible exact HR251_0.out) | (with_reducible refine Kd.C_alloc ?_ _) | (with_reducible refine Kd.C_drewN ?_ _) | (with_reducible refine Kd.C_drew ?_) | exact HR251_0.out)) x10_3 p252 q252
        cases e252
        replace p252 := eq_true p252
        replace q252 := eq_true q252
        have p253 : 0 ≤ (x8_2 : Int) := od_
        have q253 : x8_2 < (t243.length : Int) := od_
        obtain ⟨ad253, A253_0, c253_0, e253, hx253_0, hl253_0, hi253_0⟩ := at_L3 (Kd.S_reads' HO_7.out).2.2 x8_2 p253 q253
        obtain rfl : ad250 = ad253 := (by injection e253)
        obtain ⟨ce253, hce253, hMe253, hcc253⟩ := Kd.S_get HO_7.out [] x8_2 p253 (by first | exact q253 | exact of_decide_eq_true (by first | (with_reducible assumption) | assumption) | (have e_ := (Kd.S_reads' HO_7.out).1; omega))
        obtain ⟨ve253_0, rfl, ge253_0⟩ := hMe253
        have hv253_0 := hcc253 0 _ rfl
        rw [Nat.add_zero, show ((Kd.slice 3 (Kd.int .i64))).sz = 1 from rfl, Nat.mul_one] at hv253_0
        replace hv253_0 := Option.some.inj (hv253_0.symm.trans hx253_0)
        rw [hv253_0] at ge253_0
        have HL253_0 := Aside0.mk (show Kd.R (Kd.int .i64) 3 _ _ _ _ (rd_L3 t243 x8_2) from ge253_0)
        clear hv253_0 ge253_0
        clear hcc253 hce253
        have HR253_0 := Aside0.mk hi253_0
        have HC253_0 := Aside0.mk hl253_0
        clear hi253_0 hl253_0
        replace p253 := eq_true p253
        replace q253 := eq_true q253
        have ea_ := Option.some.inj (hx250_0.symm.trans hx253_0)
        injection ea_ with ea_ en_ ec_
        subst ea_
        subst ec_
        clear en_
        have p254 : 0 ≤ (x10_3 : Int) := od_
        have q254 : x10_3 < ((rd_L3 t243 x8_2).length : Int) := od_
        obtain ⟨ad254, e254, hx254_0⟩ := Kd.at_int (by repeat (first | (with_reducible exact HR253_0.out) | (with_reducible refine Kd.C_alloc ?_ _) | (with_reducible refine Kd.C_drewN ?_ _) | (with_reducible refine Kd.C_drew ?_) | exact HR253_0.out)) x10_3 p254 q254
        cases e254
        replace p254 := eq_true p254
        replace q254 := eq_true q254
        have p255 : 0 ≤ (x8_2 : Int) := od_
        have q255 : x8_2 < (t243.length : Int) := od_
        obtain ⟨ad255, A255_0, c255_0, e255, hx255_0, hl255_0, hi255_0⟩ := at_L3 (Kd.S_reads' HO_7.out).2.2 x8_2 p255 q255
        obtain rfl : ad250 = ad255 := (by injection e255)
        obtain ⟨ce255, hce255, hMe255, hcc255⟩ := Kd.S_get HO_7.out [] x8_2 p255 (by first | exact q255 | exact of_decide_eq_true (by first | (with_reducible assumption) | assumption) | (have e_ := (Kd.S_reads' HO_7.out).1; omega))
        obtain ⟨ve255_0, rfl, ge255_0⟩ := hMe255
        have hv255_0 := hcc255 0 _ rfl
        rw [Nat.add_zero, show ((Kd.slice 3 (Kd.int .i64))).sz = 1 from rfl, Nat.mul_one] at hv255_0
        replace hv255_0 := Option.some.inj (hv255_0.symm.trans hx255_0)
        rw [hv255_0] at ge255_0
        have HL255_0 := Aside0.mk (show Kd.R (Kd.int .i64) 3 _ _ _ _ (rd_L3 t243 x8_2) from ge255_0)
        clear hv255_0 ge255_0
        clear hcc255 hce255
        have HR255_0 := Aside0.mk hi255_0
        have HC255_0 := Aside0.mk hl255_0
        clear hi255_0 hl255_0
        replace p255 := eq_true p255
        replace q255 := eq_true q255
        have ea_ := Option.some.inj (hx250_0.symm.trans hx255_0)
        injection ea_ with ea_ en_ ec_
        subst ea_
        subst ec_
        clear en_
        have p256 : 0 ≤ (x10_3 : Int) := od_
        have q256 : x10_3 < ((rd_L3 t243 x8_2).length : Int) := od_
        obtain ⟨ad256, e256, hx256_0⟩ := Kd.at_int (by repeat (first | (with_reducible exact HR255_0.out) | (with_reducible refine Kd.C_alloc ?_ _) | (with_reducible refine Kd.C_drewN ?_ _) | (with_reducible refine Kd.C_drew ?_) | exact HR255_0.out)) x10_3 p256 q256
        cases e256
        replace p256 := eq_true p256
        replace q256 := eq_true q256
        have p257 : 0 ≤ (x8_2 : Int) := od_
        have q257 : x8_2 < (t243.length : Int) := od_
        obtain ⟨ad257, A257_0, c257_0, e257, hx257_0, hl257_0, hi257_0⟩ := at_L3 (Kd.S_reads' HO_7.out).2.2 x8_2 p257 q257
        obtain rfl : ad250 = ad257 := (by injection e257)
        obtain ⟨ce257, hce257, hMe257, hcc257⟩ := Kd.S_get HO_7.out [] x8_2 p257 (by first | exact q257 | exact of_decide_eq_true (by first | (with_reducible assumption) | assumption) | (have e_ := (Kd.S_reads' HO_7.out).1; omega))
        obtain ⟨ve257_0, rfl, ge257_0⟩ := hMe257
        have hv257_0 := hcc257 0 _ rfl
        rw [Nat.add_zero, show ((Kd.slice 3 (Kd.int .i64))).sz = 1 from rfl, Nat.mul_one] at hv257_0
        replace hv257_0 := Option.some.inj (hv257_0.symm.trans hx257_0)
        rw [hv257_0] at ge257_0
        have HL257_0 := Aside0.mk (show Kd.R (Kd.int .i64) 3 _ _ _ _ (rd_L3 t243 x8_2) from ge257_0)
        clear hv257_0 ge257_0
        clear hcc257 hce257
        have HR257_0 := Aside0.mk hi257_0
        have HC257_0 := Aside0.mk hl257_0
        clear hi257_0 hl257_0
        replace p257 := eq_true p257
        replace q257 := eq_true q257
        have ea_ := Option.some.inj (hx250_0.symm.trans hx257_0)
        injection ea_ with ea_ en_ ec_
        subst ea_
        subst ec_
        clear en_
        have p258 : 0 ≤ (x10_3 : Int) := od_
        have q258 : x10_3 < ((rd_L3 t243 x8_2).length : Int) := od_
        obtain ⟨ad258, e258, hx258_0⟩ := Kd.at_int (by repeat (first | (with_reducible exact HR257_0.out) | (with_reducible refine Kd.C_alloc ?_ _) | (with_reducible refine Kd.C_drewN ?_ _) | (with_reducible refine Kd.C_drew ?_) | exact HR257_0.out)) x10_3 p258 q258
        cases e258
        replace p258 := eq_true p258
        replace q258 := eq_true q258
        go_wp2
        go_roundg k3
        case measure => have := HJ7.out; have := HK2.out; have := HK3.out; omega
        case rel => exact ⟨(Go.bits .or .i64 x9_3 (ji36)), (wrap64 (x10_3 + 1)), (by first | rfl | (simp; done) | (simp only [← hji36] <;> (first | rfl | simp)) | (simp [*]; done)), (by first | rfl | (simp; done) | (simp [*]; done)), H', ⟨by have := HJ7.out; have := HK2.out; have := HK3.out; omega⟩, ⟨by (with_reducible repeat (first | apply Kd.R_alloc | apply Kd.R_drewN | apply Kd.R_drew)); exact HO_6.out⟩, ⟨by (with_reducible repeat (first | apply Kd.S_alloc | apply Kd.S_drewN | apply Kd.S_drew)); exact HO_7.out⟩, ⟨by repeat (first | (with_reducible first | exact HB.out | apply below_alloc | apply pw_below_drewN | apply below_drew1) | exact HB.out)⟩⟩
       rw [if_neg c24] at H
       have c24b0 : decide (x10_3 < ((rd_L3 t243 x8_2).length : Int)) = false := decide_eq_false c24
       clear c24
       by_cases c38 : x8_2 < (t240.length : Int)
       rotate_left
       ·rw [if_neg c38] at H
        exact absurd H (by simp)
       rw [if_pos c38] at H
       have c38b0 : decide (x8_2 < (t240.length : Int)) = true := decide_eq_true c38
       clear c38
       by_cases c39 : x9_3 = ((rd_T49 t240 x8_2).f0)
       rotate_left
       ·rw [if_neg c39] at H
        have c39b0 : (x9_3 == ((rd_T49 t240 x8_2).f0)) = false := beq_eq_false_iff_ne.mpr c39
        have c39b1 : (x9_3 != ((rd_T49 t240 x8_2).f0)) = true := bne_iff_ne.mpr c39
        obtain rfl := Option.some.inj H
        obtain ⟨Ao64, co64, eo64⟩ := Kd.S_slice HO_7.out
        subst eo64
        have p250 : 0 ≤ (x8_2 : Int) := od_
        have q250 : x8_2 < (t243.length : Int) := od_
        obtain ⟨ad250, A250_0, c250_0, e250, hx250_0, hl250_0, hi250_0⟩ := at_L3 (Kd.S_reads' HO_7.out).2.2 x8_2 p250 q250
        cases e250
        obtain ⟨ce250, hce250, hMe250, hcc250⟩ := Kd.S_get HO_7.out [] x8_2 p250 (by first | exact q250 | exact of_decide_eq_true (by first | (with_reducible assumption) | assumption) | (have e_ := (Kd.S_reads' HO_7.out).1; omega))
        obtain ⟨ve250_0, rfl, ge250_0⟩ := hMe250
        have hv250_0 := hcc250 0 _ rfl
        rw [Nat.add_zero, show ((Kd.slice 3 (Kd.int .i64))).sz = 1 from rfl, Nat.mul_one] at hv250_0
        replace hv250_0 := Option.some.inj (hv250_0.symm.trans hx250_0)
        rw [hv250_0] at ge250_0
        have HL250_0 := Aside0.mk (show Kd.R (Kd.int .i64) 3 _ _ _ _ (rd_L3 t243 x8_2) from ge250_0)
        clear hv250_0 ge250_0
        clear hcc250 hce250
        have HR250_0 := Aside0.mk hi250_0
        have HC250_0 := Aside0.mk hl250_0
        clear hi250_0 hl250_0
        replace p250 := eq_true p250
        replace q250 := eq_true q250
        have p259 : 0 ≤ (x8_2 : Int) := od_
        have q259 : x8_2 < (t240.length : Int) := od_
        obtain ⟨ad259, e259, hx259_0, hx259_1, hx259_2⟩ := at_T49 (Kd.R_reads' HO_6.out).2.2 x8_2 p259 q259
        cases e259
        replace p259 := eq_true p259
        replace q259 := eq_true q259
        go_wp2
        go_ret
        exact ⟨by first | rfl | (simp [errW_none, errW_some] <;> rfl) | (simp [*, errW_none, errW_some] <;> rfl), by repeat (first | (with_reducible first | exact HB.out | apply below_alloc | apply pw_below_drewN | apply below_drew1) | exact HB.out)⟩
       rw [if_pos c39] at H
       have c39b0 : (x9_3 == ((rd_T49 t240 x8_2).f0)) = true := beq_iff_eq.mpr c39
       have c39b1 : (x9_3 != ((rd_T49 t240 x8_2).f0)) = false := bne_eq_false_iff_eq.mpr c39
       clear c39
       have H' := Aside0.mk H
       clear H
       obtain ⟨Ao40, co40, eo40⟩ := Kd.S_slice HO_7.out
       subst eo40
       have p250 : 0 ≤ (x8_2 : Int) := od_
       have q250 : x8_2 < (t243.length : Int) := od_
       obtain ⟨ad250, A250_0, c250_0, e250, hx250_0, hl250_0, hi250_0⟩ := at_L3 (Kd.S_reads' HO_7.out).2.2 x8_2 p250 q250
       cases e250
       obtain ⟨ce250, hce250, hMe250, hcc250⟩ := Kd.S_get HO_7.out [] x8_2 p250 (by first | exact q250 | exact of_decide_eq_true (by first | (with_reducible assumption) | assumption) | (have e_ := (Kd.S_reads' HO_7.out).1; omega))
       obtain ⟨ve250_0, rfl, ge250_0⟩ := hMe250
       have hv250_0 := hcc250 0 _ rfl
       rw [Nat.add_zero, show ((Kd.slice 3 (Kd.int .i64))).sz = 1 from rfl, Nat.mul_one] at hv250_0
       replace hv250_0 := Option.some.inj (hv250_0.symm.trans hx250_0)
       rw [hv250_0] at ge250_0
       have HL250_0 := Aside0.mk (show Kd.R (Kd.int .i64) 3 _ _ _ _ (rd_L3 t243 x8_2) from ge250_0)
       clear hv250_0 ge250_0
       clear hcc250 hce250
       have HR250_0 := Aside0.mk hi250_0
       have HC250_0 := Aside0.mk hl250_0
       clear hi250_0 hl250_0
       replace p250 := eq_true p250
       replace q250 := eq_true q250
       have p259 : 0 ≤ (x8_2 : Int) := od_
       have q259 : x8_2 < (t240.length : Int) := od_
       obtain ⟨ad259, e259, hx259_0, hx259_1, hx259_2⟩ := at_T49 (Kd.R_reads' HO_6.out).2.2 x8_2 p259 q259
       cases e259
       replace p259 := eq_true p259
       replace q259 := eq_true q259
       go_wp2
       go_loopg [11] k3 (fun kq v11 w' => ∃ (x11_4 : Int), v11 = .int .i64 x11_4 ∧ Aside0 (hypercubelaw10_SortsOrders.l2 kq (wrap64 (1 + t239)) t240 t243 x8_2 x11_4 = some r) ∧ Aside0 (kq ≤ k3) ∧ Aside0 (Kd.R k49 49 w' w.heap.size (fun _ => True) (.slice (some ad259) t240.length co11) t240) ∧ Aside0 (Kd.S (Kd.slice 3 (Kd.int .i64)) 24 w' w.heap.size (fun _ => True) (.slice (some ad250) t243.length co40) t243) ∧ Aside0 (Kd.C (Kd.int .i64) w' A250_0 (rd_L3 t243 x8_2).length (rd_L3 t243 x8_2)) ∧ Aside0 (Below w.heap.size w w'))
       case atStart => exact ⟨(0), (by first | rfl | (simp; done) | (simp [*]; done)), H', ⟨Nat.le_refl _⟩, ⟨by (with_reducible repeat (first | apply Kd.R_alloc | apply Kd.R_drewN | apply Kd.R_drew)); exact HO_6.out⟩, ⟨by (with_reducible repeat (first | apply Kd.S_alloc | apply Kd.S_drewN | apply Kd.S_drew)); exact HO_7.out⟩, ⟨by repeat (first | (with_reducible exact HR250_0.out) | (with_reducible refine Kd.C_alloc ?_ _) | (with_reducible refine Kd.C_drewN ?_ _) | (with_reducible refine Kd.C_drew ?_) | exact HR250_0.out)⟩, ⟨by repeat (first | (with_reducible first | exact HB.out | apply below_alloc | apply pw_below_drewN | apply below_drew1) | exact HB.out)⟩⟩
       case round =>
        clear H'
        try clear c1
        try clear c2
        try clear p2
        try clear q2
        try clear hx2
        try clear c3
        try clear c4
        try clear c5
        try clear p6
        try clear c13
        try clear c13b0
        try clear c13b1
        try clear c13b2
        try clear c20
        try clear c21
        try clear c21b0
        try clear c22
        try clear c22b0
        try clear c23
        try clear c23b0
        try clear c24
        try clear c24b0
        try clear c25
        try clear c25b0
        try clear p25
        try clear q25
        try clear hx25
        try clear c26
        try clear c26b0
        try clear c28
        try clear c28b0
        try clear c31
        try clear c31b0
        try clear c31b1
        try clear c33
        try clear c33b0
        try clear c33b1
        try clear c35
        try clear c35b0
        try clear c38
        try clear c38b0
        try clear c39
        try clear c39b0
        try clear c39b1
        try clear hx250_0
        try clear hx251_0
        try clear hx252_0
        try clear hx253_0
        try clear hx254_0
        try clear hx255_0
        try clear hx256_0
        try clear hx257_0
        try clear hx258_0
        try clear hx259_0
        try clear hx259_1
        try clear hx259_2
        try clear p2
        try clear p250
        try clear p251
        try clear p252
        try clear p253
        try clear p254
        try clear p255
        try clear p256
        try clear p257
        try clear p258
        try clear p259
        try clear p6
        try clear q250
        try clear q251
        try clear q252
        try clear q253
        try clear q254
        try clear q255
        try clear q256
        try clear q257
        try clear q258
        try clear q259
        obtain ⟨x11_4, rfl, HA, HK4, HO_6, HO_7, HR250_0, HB⟩ := hrel
        cases gk with
        | zero => exact absurd HA.out (by simp [hypercubelaw10_SortsOrders.l2])
        | succ k4 =>
         have H := HA.out
         clear HA
         simp only [hypercubelaw10_SortsOrders.l2] at H
         have HC41 := Aside0.mk H
         clear H
         go_upto_region 21 with (fail)
         go_cut [112] (fun v112 wc => ∃ (kq : Nat) (x112_40 : Bool), v112 = .bool x112_40 ∧ Aside0 (hypercubelaw10_SortsOrders.j4 kq (wrap64 (1 + t239)) t240 t243 x8_2 x11_4 x112_40 = some r) ∧ Aside0 (kq ≤ k4) ∧ Aside0 (Kd.R k49 49 wc w.heap.size (fun _ => True) (.slice (some ad259) t240.length co11) t240) ∧ Aside0 (Kd.S (Kd.slice 3 (Kd.int .i64)) 24 wc w.heap.size (fun _ => True) (.slice (some ad250) t243.length co40) t243) ∧ Aside0 (Kd.C (Kd.int .i64) wc A250_0 (rd_L3 t243 x8_2).length (rd_L3 t243 x8_2)) ∧ Aside0 (Below w.heap.size w wc))
         case first =>
          have H := HC41.out
          clear HC41
          by_cases c42 : x11_4 < (t240.length : Int)
          rotate_left
          ·rw [if_neg c42] at H
           have c42b0 : decide (x11_4 < (t240.length : Int)) = false := decide_eq_false c42
           clear c42
           (first | rw [c42b0] | (simp only [i64_w, i32_w]; rw [c42b0]) | skip)
           have H' := Aside0.mk H
           clear H
           go_wp2
           go_meet
           case rel => exact ⟨_, (false), (by first | rfl | (simp; done) | (simp [*]; done)), H', ⟨by have := HJ7.out; have := HK2.out; have := HK3.out; have := HK4.out; first | omega | exact Nat.le_refl _⟩, ⟨by (with_reducible repeat (first | apply Kd.R_alloc | apply Kd.R_drewN | apply Kd.R_drew)); exact HO_6.out⟩, ⟨by (with_reducible repeat (first | apply Kd.S_alloc | apply Kd.S_drewN | apply Kd.S_drew)); exact HO_7.out⟩, ⟨by repeat (first | (with_reducible exact HR250_0.out) | (with_reducible refine Kd.C_alloc ?_ _) | (with_reducible refine Kd.C_drewN ?_ _) | (with_reducible refine Kd.C_drew ?_) | exact HR250_0.out)⟩, ⟨by repeat (first | (with_reducible first | exact HB.out | apply below_alloc | apply pw_below_drewN | apply below_drew1) | exact HB.out)⟩⟩
          rw [if_pos c42] at H
          have c42b0 : decide (x11_4 < (t240.length : Int)) = true := decide_eq_true c42
          clear c42
          (first | rw [c42b0] | (simp only [i64_w, i32_w]; rw [c42b0]) | skip)
          by_cases c43 : 0 ≤ x8_2
          rotate_left
          ·rw [if_neg c43] at H
           exact absurd H (by simp)
          rw [if_pos c43] at H
          have c43b0 : decide (0 ≤ x8_2) = true := decide_eq_true c43
          clear c43
          by_cases c44 : x8_2 < (t240.length : Int)
          rotate_left
          ·rw [if_neg c44] at H
           exact absurd H (by simp)
          rw [if_pos c44] at H
          have c44b0 : decide (x8_2 < (t240.length : Int)) = true := decide_eq_true c44
          clear c44
          have H' := Aside0.mk H
          clear H
          have p260 : 0 ≤ (x8_2 : Int) := od_
          have q260 : x8_2 < (t240.length : Int) := od_
          obtain ⟨ad260, e260, hx260_0, hx260_1, hx260_2⟩ := at_T49 (Kd.R_reads' HO_6.out).2.2 x8_2 p260 q260
          obtain rfl : ad259 = ad260 := (by injection e260)
          replace p260 := eq_true p260
          replace q260 := eq_true q260
          go_wp2
          go_meet
          case rel => exact ⟨_, ((rd_T49 t240 x8_2).f2), (by first | rfl | (simp; done) | (simp [*]; done)), H', ⟨by have := HJ7.out; have := HK2.out; have := HK3.out; have := HK4.out; first | omega | exact Nat.le_refl _⟩, ⟨by (with_reducible repeat (first | apply Kd.R_alloc | apply Kd.R_drewN | apply Kd.R_drew)); exact HO_6.out⟩, ⟨by (with_reducible repeat (first | apply Kd.S_alloc | apply Kd.S_drewN | apply Kd.S_drew)); exact HO_7.out⟩, ⟨by repeat (first | (with_reducible exact HR250_0.out) | (with_reducible refine Kd.C_alloc ?_ _) | (with_reducible refine Kd.C_drewN ?_ _) | (with_reducible refine Kd.C_drew ?_) | exact HR250_0.out)⟩, ⟨by repeat (first | (with_reducible first | exact HB.out | apply below_alloc | apply pw_below_drewN | apply below_drew1) | exact HB.out)⟩⟩
         case rest =>
          clear HC41
          try clear c1
          try clear c2
          try clear p2
          try clear q2
          try clear hx2
          try clear c3
          try clear c4
          try clear c5
          try clear p6
          try clear c13
          try clear c13b0
          try clear c13b1
          try clear c13b2
          try clear c20
          try clear c21
          try clear c21b0
          try clear c22
          try clear c22b0
          try clear c23
          try clear c23b0
          try clear c24
          try clear c24b0
          try clear c25
          try clear c25b0
          try clear p25
          try clear q25
          try clear hx25
          try clear c26
          try clear c26b0
          try clear p26
          try clear q26
          try clear hx26
          try clear c28
          try clear c28b0
          try clear c31
          try clear c31b0
          try clear c31b1
          try clear c33
          try clear c33b0
          try clear c33b1
          try clear c35
          try clear c35b0
          try clear c38
          try clear c38b0
          try clear c39
          try clear c39b0
          try clear c39b1
          try clear c42
          try clear c42b0
          try clear c43
          try clear c43b0
          try clear c44
          try clear c44b0
          try clear hx250_0
          try clear hx251_0
          try clear hx252_0
          try clear hx253_0
          try clear hx254_0
          try clear hx255_0
          try clear hx256_0
          try clear hx257_0
          try clear hx258_0
          try clear hx259_0
          try clear hx259_1
          try clear hx259_2
          try clear hx260_0
          try clear hx260_1
          try clear hx260_2
          try clear p2
          try clear p25
          try clear p250
          try clear p251
          try clear p252
          try clear p253
          try clear p254
          try clear p255
          try clear p256
          try clear p257
          try clear p258
          try clear p259
          try clear p260
          try clear p6
          try clear q2
          try clear q25
          try clear q250
          try clear q251
          try clear q252
          try clear q253
          try clear q254
          try clear q255
          try clear q256
          try clear q257
          try clear q258
          try clear q259
          try clear q260
          obtain ⟨kq, x112_40, rfl, HA, HJ40, HO_6, HO_7, HR250_0, HB⟩ := hcut
          cases kq with
          | zero => exact absurd HA.out (by simp [hypercubelaw10_SortsOrders.j4])
          | succ kj40 =>
           have H := HA.out
           clear HA
           simp only [hypercubelaw10_SortsOrders.j4] at H
           by_cases c45 : x112_40 = true
           rotate_left
           ·replace c45 := Bool.eq_false_iff.mpr c45
            subst c45
            have H1 : (hypercubelaw10_SortsOrders.l0 kj40 (wrap64 (1 + t239)) t240 t243 (wrap64 (x8_2 + 1))) = some r := by rw [if_neg (show ¬ (false = true) by decide)] at H; exact H
            clear H
            have H := H1
            clear H1
            have H' := Aside0.mk H
            clear H
            go_wp2
            go_roundg kj40
            case measure => have := HJ7.out; have := HK2.out; have := HK3.out; have := HK4.out; have := HJ40.out; omega
            case rel => exact ⟨(wrap64 (x8_2 + 1)), (by first | rfl | (simp; done) | (simp [*]; done)), H', ⟨by have := HJ7.out; have := HK2.out; have := HK3.out; have := HK4.out; have := HJ40.out; omega⟩, ⟨by (with_reducible repeat (first | apply Kd.R_alloc | apply Kd.R_drewN | apply Kd.R_drew)); exact HO_6.out⟩, ⟨by (with_reducible repeat (first | apply Kd.S_alloc | apply Kd.S_drewN | apply Kd.S_drew)); exact HO_7.out⟩, ⟨by repeat (first | (with_reducible first | exact HB.out | apply below_alloc | apply pw_below_drewN | apply below_drew1) | exact HB.out)⟩⟩
           subst c45
           have H1 : (if 0 ≤ x11_4 then (if x11_4 < (t240.length : Int) then (if 0 ≤ x8_2 then (if x8_2 < (t240.length : Int) then (if ((rd_T49 t240 x11_4).f0) = ((rd_T49 t240 x8_2).f1) then (if x11_4 < (t243.length : Int) then (if x8_2 < (t243.length : Int) then (if ((rd_L3 t243 x11_4).length : Int) = (wrap64 (((rd_L3 t243 x8_2).length : Int) + 1)) then (if 0 ≤ ((rd_L3 t243 x8_2).length : Int) then (if ((rd_L3 t243 x8_2).length : Int) ≤ ((rd_L3 t243 x11_4).length : Int) then ((hypercuberef1_Ints.f kj40 ((rd_L3 t243 x11_4).take (((rd_L3 t243 x8_2).length : Int) : Int).toNat) (rd_L3 t243 x8_2)).bind fun t272 => (if t272 = true then (hypercubelaw10_SortsOrders.l2 kj40 (wrap64 (1 + t239)) t240 t243 x8_2 (wrap64 (x11_4 + 1))) else (some false))) else (none)) else (none)) else (some false)) else (none)) else (none)) else (hypercubelaw10_SortsOrders.l2 kj40 (wrap64 (1 + t239)) t240 t243 x8_2 (wrap64 (x11_4 + 1)))) else (none)) else (none)) else (none)) else (none)) = some r := by rw [if_pos rfl] at H; exact H
           clear H
           have H := H1
           clear H1
           by_cases c46 : 0 ≤ x11_4
           rotate_left
           ·rw [if_neg c46] at H
            exact absurd H (by simp)
           rw [if_pos c46] at H
           have c46b0 : decide (0 ≤ x11_4) = true := decide_eq_true c46
           clear c46
           by_cases c47 : x11_4 < (t240.length : Int)
           rotate_left
           ·rw [if_neg c47] at H
            exact absurd H (by simp)
           rw [if_pos c47] at H
           have c47b0 : decide (x11_4 < (t240.length : Int)) = true := decide_eq_true c47
           clear c47
           by_cases c48 : 0 ≤ x8_2
           rotate_left
           ·rw [if_neg c48] at H
            exact absurd H (by simp)
           rw [if_pos c48] at H
           have c48b0 : decide (0 ≤ x8_2) = true := decide_eq_true c48
           clear c48
           by_cases c49 : x8_2 < (t240.length : Int)
           rotate_left
           ·rw [if_neg c49] at H
            exact absurd H (by simp)
           rw [if_pos c49] at H
           have c49b0 : decide (x8_2 < (t240.length : Int)) = true := decide_eq_true c49
           clear c49
           by_cases c50 : ((rd_T49 t240 x11_4).f0) = ((rd_T49 t240 x8_2).f1)
           rotate_left
           ·rw [if_neg c50] at H
            have c50b0 : (((rd_T49 t240 x11_4).f0) == ((rd_T49 t240 x8_2).f1)) = false := beq_eq_false_iff_ne.mpr c50
            have c50b1 : (((rd_T49 t240 x11_4).f0) != ((rd_T49 t240 x8_2).f1)) = true := bne_iff_ne.mpr c50
            have H' := Aside0.mk H
            clear H
            try go_wp2
            have n0_ := Aside0.mk (Kd.R_drew HO_6.out)
            have n1_ := Aside0.mk (Kd.S_drew HO_7.out)
            have n2_ := Aside0.mk (Kd.C_drew HR250_0.out)
            have n3_ := Aside0.mk (below_drew1 HB.out)
            clear HO_6
            clear HO_7
            clear HR250_0
            clear HB
            have HO_6 := n0_
            have HO_7 := n1_
            have HR250_0 := n2_
            have HB := n3_
            clear n0_ n1_ n2_ n3_
            have p261 : 0 ≤ (x11_4 : Int) := od_
            have q261 : x11_4 < (t240.length : Int) := od_
            obtain ⟨ad261, e261, hx261_0, hx261_1, hx261_2⟩ := at_T49 (Kd.R_reads' HO_6.out).2.2 x11_4 p261 q261
            obtain rfl : ad259 = ad261 := (by injection e261)
            replace p261 := eq_true p261
            replace q261 := eq_true q261
            have p262 : 0 ≤ (x8_2 : Int) := od_
            have q262 : x8_2 < (t240.length : Int) := od_
            obtain ⟨ad262, e262, hx262_0, hx262_1, hx262_2⟩ := at_T49 (Kd.R_reads' HO_6.out).2.2 x8_2 p262 q262
            obtain rfl : ad259 = ad262 := (by injection e262)
            replace p262 := eq_true p262
            replace q262 := eq_true q262
            refine start_ (n := 43) (S := fun w' => w'.cell? (ad259.add ((x11_4).toNat * 3)) = some (.int .i64 ((rd_T49 t240 x11_4).f0)) ∧ w'.cell? ⟨(ad259.add ((x11_4).toNat * 3)).block, (ad259.add ((x11_4).toNat * 3)).off + 1, none⟩ = some (.int .i64 ((rd_T49 t240 x11_4).f1)) ∧ w'.cell? ⟨(ad259.add ((x11_4).toNat * 3)).block, (ad259.add ((x11_4).toNat * 3)).off + 2, none⟩ = some (.bool ((rd_T49 t240 x11_4).f2)) ∧ w'.cell? (ad259.add ((x8_2).toNat * 3)) = some (.int .i64 ((rd_T49 t240 x8_2).f0)) ∧ w'.cell? ⟨(ad259.add ((x8_2).toNat * 3)).block, (ad259.add ((x8_2).toNat * 3)).off + 1, none⟩ = some (.int .i64 ((rd_T49 t240 x8_2).f1)) ∧ w'.cell? ⟨(ad259.add ((x8_2).toNat * 3)).block, (ad259.add ((x8_2).toNat * 3)).off + 2, none⟩ = some (.bool ((rd_T49 t240 x8_2).f2))) (ds := []) (fl_ 0 43) (by kernel_rfl) rfl rfl ⟨hx261_0, hx261_1, hx261_2, hx262_0, hx262_1, hx262_2⟩ (fun hHeld => ?_); refine with_tabW hypercubelaw10_SortsOrders.tab23 hypercubelaw10_SortsOrders.bits23 (fun HT_ HW_ => ?_)
            generalize wc.drew = w63 at HO_6 HO_7 HR250_0 HB hx261_0 hx261_1 hx261_2 hx262_0 hx262_1 hx262_2 hHeld ⊢
            refine pure_ (i := 0) (N := some 115) (v := ?_) (a' := ?_) (fl_ 1 42) rfl rfl (any_of HT_.out (by kernel_rfl)) (fun _ _ _ h => h) (Or.inl ⟨by rfl, ?_⟩) ?_ ?_
            rotate_left
            ·intro w'
             go_simp
             with_reducible rfl
            rotate_left
            ·simp only [Act.put, sl0, sl1, sl2, i64_w, i32_w]
             rfl
            refine pure_ (i := 1) (N := some 116) (v := ?_) (a' := ?_) (fl_ 2 41) rfl rfl (any_of HT_.out (by kernel_rfl)) (fun _ _ _ h => h) (Or.inl ⟨by rfl, ?_⟩) ?_ ?_
            rotate_left
            ·intro w'
             go_simp
             with_reducible rfl
            rotate_left
            ·simp only [Act.put, sl0, sl1, sl2, i64_w, i32_w]
             rfl
            refine pure_ (i := 2) (N := some 117) (v := ?_) (a' := ?_) (fl_ 3 40) rfl rfl (any_of HT_.out (by kernel_rfl)) (fun _ _ _ h => h) (Or.inl ⟨by rfl, ?_⟩) ?_ ?_
            rotate_left
            ·intro w'
             go_simp
             with_reducible rfl
            rotate_left
            ·simp only [Act.put, sl0, sl1, sl2, i64_w, i32_w]
             rfl
            refine pure_ (i := 3) (N := some 118) (v := ?_) (a' := ?_) (fl_ 4 39) rfl rfl (any_of HT_.out (by kernel_rfl)) (fun _ _ _ h => h) (Or.inl ⟨by rfl, ?_⟩) ?_ ?_
            rotate_left
            ·intro w'
             go_simp
             with_reducible rfl
            rotate_left
            ·simp only [Act.put, sl0, sl1, sl2, i64_w, i32_w]
             rfl
            refine pure_ (i := 5) (N := some 120) (v := ?_) (a' := ?_) #[Y,Y,Y,Y,Z,Y,Z,Z,Z,Z,Z,Z,Z,Z,Z,Z,Z,Z,Z,Z,Z,Z,Z,Z,Z,Z,Z,Z,Z,Z,Z,Z,Z,Z,Z,Z,Z,Z,Z,Z,Z,Z,Z] rfl rfl (any_of HT_.out (by kernel_rfl)) (fun _ _ _ h => h) (Or.inl ⟨by rfl, ?_⟩) ?_ ?_
            rotate_left
            ·intro w'
             go_simp
             with_reducible rfl
            rotate_left
            ·simp only [Act.put, sl0, sl1, sl2, i64_w, i32_w]
             rfl
            refine pure_ (i := 6) (N := some 121) (v := ?_) (a' := ?_) #[Y,Y,Y,Y,Z,Y,Y,Z,Z,Z,Z,Z,Z,Z,Z,Z,Z,Z,Z,Z,Z,Z,Z,Z,Z,Z,Z,Z,Z,Z,Z,Z,Z,Z,Z,Z,Z,Z,Z,Z,Z,Z,Z] rfl rfl (any_of HT_.out (by kernel_rfl)) (fun _ _ _ h => h) (Or.inl ⟨by rfl, ?_⟩) ?_ ?_
            rotate_left
            ·intro w'
             go_simp
             with_reducible rfl
            rotate_left
            ·simp only [Act.put, sl0, sl1, sl2, i64_w, i32_w]
             rfl
            refine pure_ (i := 7) (N := some 122) (v := ?_) (a' := ?_) #[Y,Y,Y,Y,Z,Y,Y,Y,Z,Z,Z,Z,Z,Z,Z,Z,Z,Z,Z,Z,Z,Z,Z,Z,Z,Z,Z,Z,Z,Z,Z,Z,Z,Z,Z,Z,Z,Z,Z,Z,Z,Z,Z] rfl rfl (any_of HT_.out (by kernel_rfl)) (fun _ _ _ h => h) (Or.inl ⟨by rfl, ?_⟩) ?_ ?_
            rotate_left
            ·intro w'
             go_simp
             with_reducible rfl
            rotate_left
            ·simp only [Act.put, sl0, sl1, sl2, i64_w, i32_w]
             rfl
            refine pure_ (i := 8) (N := some 123) (v := ?_) (a' := ?_) #[Y,Y,Y,Y,Z,Y,Y,Y,Y,Z,Z,Z,Z,Z,Z,Z,Z,Z,Z,Z,Z,Z,Z,Z,Z,Z,Z,Z,Z,Z,Z,Z,Z,Z,Z,Z,Z,Z,Z,Z,Z,Z,Z] rfl rfl (any_of HT_.out (by kernel_rfl)) (fun _ _ _ h => h) (Or.inl ⟨by rfl, ?_⟩) ?_ ?_
            rotate_left
            ·intro w'
             go_simp
             with_reducible rfl
            rotate_left
            ·simp only [Act.put, sl0, sl1, sl2, i64_w, i32_w]
             rfl
            refine take_ (i := 4) (N := some 119) (v := ?_) (a' := ?_) (fl_ 9 34) rfl rfl (take_ofW HT_.out HW_.out (by kernel_rfl)) (fun _ _ _ h => h) (Or.inl ⟨by rfl, ?_⟩) hHeld ?_ ?_
            rotate_left
            ·rintro w' ⟨s0, s1, s2, s3, s4, s5⟩
             go_simp
             with_reducible rfl
            rotate_left
            ·simp only [Act.put, sl0, sl1, sl2, i64_w, i32_w]
             rfl
            refine take_ (i := 9) (N := some 124) (v := ?_) (a' := ?_) (fl_ 10 33) rfl rfl (take_ofW HT_.out HW_.out (by kernel_rfl)) (fun _ _ _ h => h) (Or.inl ⟨by rfl, ?_⟩) hHeld ?_ ?_
            rotate_left
            ·rintro w' ⟨s0, s1, s2, s3, s4, s5⟩
             go_simp
             with_reducible rfl
            rotate_left
            ·simp only [Act.put, sl0, sl1, sl2, i64_w, i32_w]
             rfl
            refine pure_ (i := 10) (N := some 125) (v := ?_) (a' := ?_) (fl_ 11 32) rfl rfl (any_of HT_.out (by kernel_rfl)) (fun _ _ _ h => h) (Or.inl ⟨by rfl, ?_⟩) ?_ ?_
            rotate_left
            ·intro w'
             go_simp
             with_reducible rfl
            rotate_left
            ·simp only [Act.put, sl0, sl1, sl2, i64_w, i32_w]
             rfl
            refine pure_ (i := 11) (N := some 126) (v := ?_) (a' := ?_) (fl_ 12 31) rfl rfl (any_of HT_.out (by kernel_rfl)) (fun _ _ _ h => h) (Or.inl ⟨by rfl, ?_⟩) ?_ ?_
            rotate_left
            ·intro w'
             go_simp
             with_reducible rfl
            rotate_left
            ·simp only [Act.put, sl0, sl1, sl2, i64_w, i32_w]
             rfl
            refine pure_ (i := 12) (N := some 127) (v := undef) (a' := ?_) (fl_ 13 30) rfl rfl (any_of HT_.out (by kernel_rfl)) (fun _ _ _ h => h) (Or.inr ⟨by rfl, rfl⟩) ?_ ?_
            rotate_left
            ·simp only [Act.put, sl0, sl1, sl2, i64_w, i32_w]
             rfl
            refine pure_ (i := 13) (N := some 128) (v := undef) (a' := ?_) (fl_ 14 29) rfl rfl (any_of HT_.out (by kernel_rfl)) (fun _ _ _ h => h) (Or.inr ⟨by rfl, rfl⟩) ?_ ?_
            rotate_left
            ·simp only [Act.put, sl0, sl1, sl2, i64_w, i32_w]
             rfl
            refine pure_ (i := 14) (N := some 129) (v := undef) (a' := ?_) (fl_ 15 28) rfl rfl (any_of HT_.out (by kernel_rfl)) (fun _ _ _ h => h) (Or.inr ⟨by rfl, rfl⟩) ?_ ?_
            rotate_left
            ·simp only [Act.put, sl0, sl1, sl2, i64_w, i32_w]
             rfl
            refine pure_ (i := 15) (N := some 130) (v := undef) (a' := ?_) (fl_ 16 27) rfl rfl (any_of HT_.out (by kernel_rfl)) (fun _ _ _ h => h) (Or.inr ⟨by rfl, rfl⟩) ?_ ?_
            rotate_left
            ·simp only [Act.put, sl0, sl1, sl2, i64_w, i32_w]
             rfl
            refine pure_ (i := 16) (N := some 131) (v := undef) (a' := ?_) (fl_ 17 26) rfl rfl (any_of HT_.out (by kernel_rfl)) (fun _ _ _ h => h) (Or.inr ⟨by rfl, rfl⟩) ?_ ?_
            rotate_left
            ·simp only [Act.put, sl0, sl1, sl2, i64_w, i32_w]
             rfl
            refine pure_ (i := 17) (N := some 132) (v := undef) (a' := ?_) (fl_ 18 25) rfl rfl (any_of HT_.out (by kernel_rfl)) (fun _ _ _ h => h) (Or.inr ⟨by rfl, rfl⟩) ?_ ?_
            rotate_left
            ·simp only [Act.put, sl0, sl1, sl2, i64_w, i32_w]
             rfl
            refine pure_ (i := 18) (N := some 133) (v := undef) (a' := ?_) (fl_ 19 24) rfl rfl (any_of HT_.out (by kernel_rfl)) (fun _ _ _ h => h) (Or.inr ⟨by rfl, rfl⟩) ?_ ?_
            rotate_left
            ·simp only [Act.put, sl0, sl1, sl2, i64_w, i32_w]
             rfl
            refine pure_ (i := 19) (N := some 134) (v := undef) (a' := ?_) (fl_ 20 23) rfl rfl (any_of HT_.out (by kernel_rfl)) (fun _ _ _ h => h) (Or.inr ⟨by rfl, rfl⟩) ?_ ?_
            rotate_left
            ·simp only [Act.put, sl0, sl1, sl2, i64_w, i32_w]
             rfl
            refine pure_ (i := 20) (N := some 135) (v := undef) (a' := ?_) (fl_ 21 22) rfl rfl (any_of HT_.out (by kernel_rfl)) (fun _ _ _ h => h) (Or.inr ⟨by rfl, rfl⟩) ?_ ?_
            rotate_left
            ·simp only [Act.put, sl0, sl1, sl2, i64_w, i32_w]
             rfl
            refine pure_ (i := 21) (N := some 136) (v := undef) (a' := ?_) (fl_ 22 21) rfl rfl (any_of HT_.out (by kernel_rfl)) (fun _ _ _ h => h) (Or.inr ⟨by rfl, rfl⟩) ?_ ?_
            rotate_left
            ·simp only [Act.put, sl0, sl1, sl2, i64_w, i32_w]
             rfl
            refine pure_ (i := 22) (N := some 137) (v := undef) (a' := ?_) (fl_ 23 20) rfl rfl (any_of HT_.out (by kernel_rfl)) (fun _ _ _ h => h) (Or.inr ⟨by rfl, rfl⟩) ?_ ?_
            rotate_left
            ·simp only [Act.put, sl0, sl1, sl2, i64_w, i32_w]
             rfl
            refine pure_ (i := 23) (N := some 138) (v := undef) (a' := ?_) (fl_ 24 19) rfl rfl (any_of HT_.out (by kernel_rfl)) (fun _ _ _ h => h) (Or.inr ⟨by rfl, rfl⟩) ?_ ?_
            rotate_left
            ·simp only [Act.put, sl0, sl1, sl2, i64_w, i32_w]
             rfl
            refine pure_ (i := 24) (N := some 139) (v := undef) (a' := ?_) (fl_ 25 18) rfl rfl (any_of HT_.out (by kernel_rfl)) (fun _ _ _ h => h) (Or.inr ⟨by rfl, rfl⟩) ?_ ?_
            rotate_left
            ·simp only [Act.put, sl0, sl1, sl2, i64_w, i32_w]
             rfl
            refine pure_ (i := 25) (N := some 140) (v := undef) (a' := ?_) (fl_ 26 17) rfl rfl (any_of HT_.out (by kernel_rfl)) (fun _ _ _ h => h) (Or.inr ⟨by rfl, rfl⟩) ?_ ?_
            rotate_left
            ·simp only [Act.put, sl0, sl1, sl2, i64_w, i32_w]
             rfl
            refine pure_ (i := 26) (N := some 141) (v := undef) (a' := ?_) (fl_ 27 16) rfl rfl (any_of HT_.out (by kernel_rfl)) (fun _ _ _ h => h) (Or.inr ⟨by rfl, rfl⟩) ?_ ?_
            rotate_left
            ·simp only [Act.put, sl0, sl1, sl2, i64_w, i32_w]
             rfl
            refine pure_ (i := 27) (N := some 142) (v := undef) (a' := ?_) (fl_ 28 15) rfl rfl (any_of HT_.out (by kernel_rfl)) (fun _ _ _ h => h) (Or.inr ⟨by rfl, rfl⟩) ?_ ?_
            rotate_left
            ·simp only [Act.put, sl0, sl1, sl2, i64_w, i32_w]
             rfl
            refine pure_ (i := 28) (N := some 143) (v := undef) (a' := ?_) (fl_ 29 14) rfl rfl (any_of HT_.out (by kernel_rfl)) (fun _ _ _ h => h) (Or.inr ⟨by rfl, rfl⟩) ?_ ?_
            rotate_left
            ·simp only [Act.put, sl0, sl1, sl2, i64_w, i32_w]
             rfl
            refine pure_ (i := 29) (N := some 144) (v := undef) (a' := ?_) (fl_ 30 13) rfl rfl (any_of HT_.out (by kernel_rfl)) (fun _ _ _ h => h) (Or.inr ⟨by rfl, rfl⟩) ?_ ?_
            rotate_left
            ·simp only [Act.put, sl0, sl1, sl2, i64_w, i32_w]
             rfl
            refine pure_ (i := 30) (N := some 145) (v := undef) (a' := ?_) (fl_ 31 12) rfl rfl (any_of HT_.out (by kernel_rfl)) (fun _ _ _ h => h) (Or.inr ⟨by rfl, rfl⟩) ?_ ?_
            rotate_left
            ·simp only [Act.put, sl0, sl1, sl2, i64_w, i32_w]
             rfl
            refine pure_ (i := 31) (N := some 146) (v := undef) (a' := ?_) (fl_ 32 11) rfl rfl (any_of HT_.out (by kernel_rfl)) (fun _ _ _ h => h) (Or.inr ⟨by rfl, rfl⟩) ?_ ?_
            rotate_left
            ·simp only [Act.put, sl0, sl1, sl2, i64_w, i32_w]
             rfl
            refine pure_ (i := 32) (N := some 147) (v := undef) (a' := ?_) (fl_ 33 10) rfl rfl (any_of HT_.out (by kernel_rfl)) (fun _ _ _ h => h) (Or.inr ⟨by rfl, rfl⟩) ?_ ?_
            rotate_left
            ·simp only [Act.put, sl0, sl1, sl2, i64_w, i32_w]
             rfl
            refine pure_ (i := 33) (N := some 148) (v := undef) (a' := ?_) (fl_ 34 9) rfl rfl (any_of HT_.out (by kernel_rfl)) (fun _ _ _ h => h) (Or.inr ⟨by rfl, rfl⟩) ?_ ?_
            rotate_left
            ·simp only [Act.put, sl0, sl1, sl2, i64_w, i32_w]
             rfl
            refine pure_ (i := 34) (N := some 149) (v := undef) (a' := ?_) (fl_ 35 8) rfl rfl (any_of HT_.out (by kernel_rfl)) (fun _ _ _ h => h) (Or.inr ⟨by rfl, rfl⟩) ?_ ?_
            rotate_left
            ·simp only [Act.put, sl0, sl1, sl2, i64_w, i32_w]
             rfl
            refine pure_ (i := 35) (N := some 150) (v := undef) (a' := ?_) (fl_ 36 7) rfl rfl (any_of HT_.out (by kernel_rfl)) (fun _ _ _ h => h) (Or.inr ⟨by rfl, rfl⟩) ?_ ?_
            rotate_left
            ·simp only [Act.put, sl0, sl1, sl2, i64_w, i32_w]
             rfl
            refine pure_ (i := 36) (N := some 151) (v := undef) (a' := ?_) (fl_ 37 6) rfl rfl (any_of HT_.out (by kernel_rfl)) (fun _ _ _ h => h) (Or.inr ⟨by rfl, rfl⟩) ?_ ?_
            rotate_left
            ·simp only [Act.put, sl0, sl1, sl2, i64_w, i32_w]
             rfl
            refine pure_ (i := 37) (N := some 152) (v := undef) (a' := ?_) (fl_ 38 5) rfl rfl (any_of HT_.out (by kernel_rfl)) (fun _ _ _ h => h) (Or.inr ⟨by rfl, rfl⟩) ?_ ?_
            rotate_left
            ·simp only [Act.put, sl0, sl1, sl2, i64_w, i32_w]
             rfl
            refine pure_ (i := 38) (N := some 153) (v := undef) (a' := ?_) (fl_ 39 4) rfl rfl (any_of HT_.out (by kernel_rfl)) (fun _ _ _ h => h) (Or.inr ⟨by rfl, rfl⟩) ?_ ?_
            rotate_left
            ·simp only [Act.put, sl0, sl1, sl2, i64_w, i32_w]
             rfl
            refine pure_ (i := 39) (N := some 154) (v := undef) (a' := ?_) (fl_ 40 3) rfl rfl (any_of HT_.out (by kernel_rfl)) (fun _ _ _ h => h) (Or.inr ⟨by rfl, rfl⟩) ?_ ?_
            rotate_left
            ·simp only [Act.put, sl0, sl1, sl2, i64_w, i32_w]
             rfl
            refine pure_ (i := 40) (N := some 155) (v := undef) (a' := ?_) (fl_ 41 2) rfl rfl (any_of HT_.out (by kernel_rfl)) (fun _ _ _ h => h) (Or.inr ⟨by rfl, rfl⟩) ?_ ?_
            rotate_left
            ·simp only [Act.put, sl0, sl1, sl2, i64_w, i32_w]
             rfl
            refine pure_ (i := 41) (N := some 156) (v := undef) (a' := ?_) (fl_ 42 1) rfl rfl (any_of HT_.out (by kernel_rfl)) (fun _ _ _ h => h) (Or.inr ⟨by rfl, rfl⟩) ?_ ?_
            rotate_left
            ·simp only [Act.put, sl0, sl1, sl2, i64_w, i32_w]
             rfl
            refine pure_ (i := 42) (N := some 157) (v := ?_) (a' := ?_) (fl_ 43 0) rfl rfl (any_of HT_.out (by kernel_rfl)) (fun _ _ _ h => h) (Or.inl ⟨by rfl, ?_⟩) ?_ ?_
            rotate_left
            ·intro w'
             go_simp
             with_reducible rfl
            rotate_left
            ·simp only [Act.put, sl0, sl1, sl2, i64_w, i32_w]
             rfl
            refine done_ (done_of HT_.out (by kernel_rfl)) ?_
            try go_wp2
            go_roundg kj40
            case measure => have := HJ7.out; have := HK2.out; have := HK3.out; have := HK4.out; have := HJ40.out; omega
            case rel => exact ⟨(wrap64 (x11_4 + 1)), (by first | rfl | (simp; done) | (simp [*]; done)), H', ⟨by have := HJ7.out; have := HK2.out; have := HK3.out; have := HK4.out; have := HJ40.out; omega⟩, ⟨by (with_reducible repeat (first | apply Kd.R_alloc | apply Kd.R_drewN | apply Kd.R_drew)); exact HO_6.out⟩, ⟨by (with_reducible repeat (first | apply Kd.S_alloc | apply Kd.S_drewN | apply Kd.S_drew)); exact HO_7.out⟩, ⟨by repeat (first | (with_reducible exact HR250_0.out) | (with_reducible refine Kd.C_alloc ?_ _) | (with_reducible refine Kd.C_drewN ?_ _) | (with_reducible refine Kd.C_drew ?_) | exact HR250_0.out)⟩, ⟨by repeat (first | (with_reducible first | exact HB.out | apply below_alloc | apply pw_below_drewN | apply below_drew1) | exact HB.out)⟩⟩
           rw [if_pos c50] at H
           have c50b0 : (((rd_T49 t240 x11_4).f0) == ((rd_T49 t240 x8_2).f1)) = true := beq_iff_eq.mpr c50
           have c50b1 : (((rd_T49 t240 x11_4).f0) != ((rd_T49 t240 x8_2).f1)) = false := bne_eq_false_iff_eq.mpr c50
           clear c50
           by_cases c51 : x11_4 < (t243.length : Int)
           rotate_left
           ·rw [if_neg c51] at H
            exact absurd H (by simp)
           rw [if_pos c51] at H
           have c51b0 : decide (x11_4 < (t243.length : Int)) = true := decide_eq_true c51
           clear c51
           by_cases c52 : x8_2 < (t243.length : Int)
           rotate_left
           ·rw [if_neg c52] at H
            exact absurd H (by simp)
           rw [if_pos c52] at H
           have c52b0 : decide (x8_2 < (t243.length : Int)) = true := decide_eq_true c52
           clear c52
           by_cases c53 : ((rd_L3 t243 x11_4).length : Int) = (wrap64 (((rd_L3 t243 x8_2).length : Int) + 1))
           rotate_left
           ·rw [if_neg c53] at H
            have c53b0 : (((rd_L3 t243 x11_4).length : Int) == (wrap64 (((rd_L3 t243 x8_2).length : Int) + 1))) = false := beq_eq_false_iff_ne.mpr c53
            have c53b1 : (((rd_L3 t243 x11_4).length : Int) != (wrap64 (((rd_L3 t243 x8_2).length : Int) + 1))) = true := bne_iff_ne.mpr c53
            obtain rfl := Option.some.inj H
            try go_wp2
            have n0_ := Aside0.mk (Kd.R_drew HO_6.out)
            have n1_ := Aside0.mk (Kd.S_drew HO_7.out)
            have n2_ := Aside0.mk (Kd.C_drew HR250_0.out)
            have n3_ := Aside0.mk (below_drew1 HB.out)
            clear HO_6
            clear HO_7
            clear HR250_0
            clear HB
            have HO_6 := n0_
            have HO_7 := n1_
            have HR250_0 := n2_
            have HB := n3_
            clear n0_ n1_ n2_ n3_
            have p261 : 0 ≤ (x11_4 : Int) := od_
            have q261 : x11_4 < (t240.length : Int) := od_
            obtain ⟨ad261, e261, hx261_0, hx261_1, hx261_2⟩ := at_T49 (Kd.R_reads' HO_6.out).2.2 x11_4 p261 q261
            obtain rfl : ad259 = ad261 := (by injection e261)
            replace p261 := eq_true p261
            replace q261 := eq_true q261
            have p262 : 0 ≤ (x8_2 : Int) := od_
            have q262 : x8_2 < (t240.length : Int) := od_
            obtain ⟨ad262, e262, hx262_0, hx262_1, hx262_2⟩ := at_T49 (Kd.R_reads' HO_6.out).2.2 x8_2 p262 q262
            obtain rfl : ad259 = ad262 := (by injection e262)
            replace p262 := eq_true p262
            replace q262 := eq_true q262
            have p263 : 0 ≤ (x11_4 : Int) := od_
            have q263 : x11_4 < (t243.length : Int) := od_
            obtain ⟨ad263, A263_0, c263_0, e263, hx263_0, hl263_0, hi263_0⟩ := at_L3 (Kd.S_reads' HO_7.out).2.2 x11_4 p263 q263
            obtain rfl : ad250 = ad263 := (by injection e263)
            obtain ⟨ce263, hce263, hMe263, hcc263⟩ := Kd.S_get HO_7.out [] x11_4 p263 (by first | exact q263 | exact of_decide_eq_true (by first | (with_reducible assumption) | assumption) | (have e_ := (Kd.S_reads' HO_7.out).1; omega))
            obtain ⟨ve263_0, rfl, ge263_0⟩ := hMe263
            have hv263_0 := hcc263 0 _ rfl
            rw [Nat.add_zero, show ((Kd.slice 3 (Kd.int .i64))).sz = 1 from rfl, Nat.mul_one] at hv263_0
            replace hv263_0 := Option.some.inj (hv263_0.symm.trans hx263_0)
            rw [hv263_0] at ge263_0
            have HL263_0 := Aside0.mk (show Kd.R (Kd.int .i64) 3 _ _ _ _ (rd_L3 t243 x11_4) from ge263_0)
            clear hv263_0 ge263_0
            clear hcc263 hce263
            have HR263_0 := Aside0.mk hi263_0
            have HC263_0 := Aside0.mk hl263_0
            clear hi263_0 hl263_0
            replace p263 := eq_true p263
            replace q263 := eq_true q263
            have p264 : 0 ≤ (x8_2 : Int) := od_
            have q264 : x8_2 < (t243.length : Int) := od_
            obtain ⟨ad264, A264_0, c264_0, e264, hx264_0, hl264_0, hi264_0⟩ := at_L3 (Kd.S_reads' HO_7.out).2.2 x8_2 p264 q264
            obtain rfl : ad250 = ad264 := (by injection e264)
            obtain ⟨ce264, hce264, hMe264, hcc264⟩ := Kd.S_get HO_7.out [] x8_2 p264 (by first | exact q264 | exact of_decide_eq_true (by first | (with_reducible assumption) | assumption) | (have e_ := (Kd.S_reads' HO_7.out).1; omega))
            obtain ⟨ve264_0, rfl, ge264_0⟩ := hMe264
            have hv264_0 := hcc264 0 _ rfl
            rw [Nat.add_zero, show ((Kd.slice 3 (Kd.int .i64))).sz = 1 from rfl, Nat.mul_one] at hv264_0
            replace hv264_0 := Option.some.inj (hv264_0.symm.trans hx264_0)
            rw [hv264_0] at ge264_0
            have HL264_0 := Aside0.mk (show Kd.R (Kd.int .i64) 3 _ _ _ _ (rd_L3 t243 x8_2) from ge264_0)
            clear hv264_0 ge264_0
            clear hcc264 hce264
            have HR264_0 := Aside0.mk hi264_0
            have HC264_0 := Aside0.mk hl264_0
            clear hi264_0 hl264_0
            replace p264 := eq_true p264
            replace q264 := eq_true q264
            refine start_ (n := 43) (S := fun w' => w'.cell? (ad259.add ((x11_4).toNat * 3)) = some (.int .i64 ((rd_T49 t240 x11_4).f0)) ∧ w'.cell? ⟨(ad259.add ((x11_4).toNat * 3)).block, (ad259.add ((x11_4).toNat * 3)).off + 1, none⟩ = some (.int .i64 ((rd_T49 t240 x11_4).f1)) ∧ w'.cell? ⟨(ad259.add ((x11_4).toNat * 3)).block, (ad259.add ((x11_4).toNat * 3)).off + 2, none⟩ = some (.bool ((rd_T49 t240 x11_4).f2)) ∧ w'.cell? (ad259.add ((x8_2).toNat * 3)) = some (.int .i64 ((rd_T49 t240 x8_2).f0)) ∧ w'.cell? ⟨(ad259.add ((x8_2).toNat * 3)).block, (ad259.add ((x8_2).toNat * 3)).off + 1, none⟩ = some (.int .i64 ((rd_T49 t240 x8_2).f1)) ∧ w'.cell? ⟨(ad259.add ((x8_2).toNat * 3)).block, (ad259.add ((x8_2).toNat * 3)).off + 2, none⟩ = some (.bool ((rd_T49 t240 x8_2).f2)) ∧ w'.cell? (ad250.add (x11_4).toNat) = some (.slice A263_0 (rd_L3 t243 x11_4).length c263_0) ∧ w'.cell? (ad250.add (x8_2).toNat) = some (.slice A264_0 (rd_L3 t243 x8_2).length c264_0)) (ds := []) (fl_ 0 43) (by kernel_rfl) rfl rfl ⟨hx261_0, hx261_1, hx261_2, hx262_0, hx262_1, hx262_2, hx263_0, hx264_0⟩ (fun hHeld => ?_); refine with_tabW hypercubelaw10_SortsOrders.tab23 hypercubelaw10_SortsOrders.bits23 (fun HT_ HW_ => ?_)
            generalize wc.drew = w62 at HO_6 HO_7 HR250_0 HB HL263_0 HL264_0 HR263_0 HR264_0 hx261_0 hx261_1 hx261_2 hx262_0 hx262_1 hx262_2 hx263_0 hx264_0 hHeld ⊢
            refine pure_ (i := 0) (N := some 115) (v := ?_) (a' := ?_) (fl_ 1 42) rfl rfl (any_of HT_.out (by kernel_rfl)) (fun _ _ _ h => h) (Or.inl ⟨by rfl, ?_⟩) ?_ ?_
            rotate_left
            ·intro w'
             go_simp
             with_reducible rfl
            rotate_left
            ·simp only [Act.put, sl0, sl1, sl2, i64_w, i32_w]
             rfl
            refine pure_ (i := 1) (N := some 116) (v := ?_) (a' := ?_) (fl_ 2 41) rfl rfl (any_of HT_.out (by kernel_rfl)) (fun _ _ _ h => h) (Or.inl ⟨by rfl, ?_⟩) ?_ ?_
            rotate_left
            ·intro w'
             go_simp
             with_reducible rfl
            rotate_left
            ·simp only [Act.put, sl0, sl1, sl2, i64_w, i32_w]
             rfl
            refine pure_ (i := 2) (N := some 117) (v := ?_) (a' := ?_) (fl_ 3 40) rfl rfl (any_of HT_.out (by kernel_rfl)) (fun _ _ _ h => h) (Or.inl ⟨by rfl, ?_⟩) ?_ ?_
            rotate_left
            ·intro w'
             go_simp
             with_reducible rfl
            rotate_left
            ·simp only [Act.put, sl0, sl1, sl2, i64_w, i32_w]
             rfl
            refine pure_ (i := 3) (N := some 118) (v := ?_) (a' := ?_) (fl_ 4 39) rfl rfl (any_of HT_.out (by kernel_rfl)) (fun _ _ _ h => h) (Or.inl ⟨by rfl, ?_⟩) ?_ ?_
            rotate_left
            ·intro w'
             go_simp
             with_reducible rfl
            rotate_left
            ·simp only [Act.put, sl0, sl1, sl2, i64_w, i32_w]
             rfl
            refine pure_ (i := 5) (N := some 120) (v := ?_) (a' := ?_) #[Y,Y,Y,Y,Z,Y,Z,Z,Z,Z,Z,Z,Z,Z,Z,Z,Z,Z,Z,Z,Z,Z,Z,Z,Z,Z,Z,Z,Z,Z,Z,Z,Z,Z,Z,Z,Z,Z,Z,Z,Z,Z,Z] rfl rfl (any_of HT_.out (by kernel_rfl)) (fun _ _ _ h => h) (Or.inl ⟨by rfl, ?_⟩) ?_ ?_
            rotate_left
            ·intro w'
             go_simp
             with_reducible rfl
            rotate_left
            ·simp only [Act.put, sl0, sl1, sl2, i64_w, i32_w]
             rfl
            refine pure_ (i := 6) (N := some 121) (v := ?_) (a' := ?_) #[Y,Y,Y,Y,Z,Y,Y,Z,Z,Z,Z,Z,Z,Z,Z,Z,Z,Z,Z,Z,Z,Z,Z,Z,Z,Z,Z,Z,Z,Z,Z,Z,Z,Z,Z,Z,Z,Z,Z,Z,Z,Z,Z] rfl rfl (any_of HT_.out (by kernel_rfl)) (fun _ _ _ h => h) (Or.inl ⟨by rfl, ?_⟩) ?_ ?_
            rotate_left
            ·intro w'
             go_simp
             with_reducible rfl
            rotate_left
            ·simp only [Act.put, sl0, sl1, sl2, i64_w, i32_w]
             rfl
            refine pure_ (i := 7) (N := some 122) (v := ?_) (a' := ?_) #[Y,Y,Y,Y,Z,Y,Y,Y,Z,Z,Z,Z,Z,Z,Z,Z,Z,Z,Z,Z,Z,Z,Z,Z,Z,Z,Z,Z,Z,Z,Z,Z,Z,Z,Z,Z,Z,Z,Z,Z,Z,Z,Z] rfl rfl (any_of HT_.out (by kernel_rfl)) (fun _ _ _ h => h) (Or.inl ⟨by rfl, ?_⟩) ?_ ?_
            rotate_left
            ·intro w'
             go_simp
             with_reducible rfl
            rotate_left
            ·simp only [Act.put, sl0, sl1, sl2, i64_w, i32_w]
             rfl
            refine pure_ (i := 8) (N := some 123) (v := ?_) (a' := ?_) #[Y,Y,Y,Y,Z,Y,Y,Y,Y,Z,Z,Z,Z,Z,Z,Z,Z,Z,Z,Z,Z,Z,Z,Z,Z,Z,Z,Z,Z,Z,Z,Z,Z,Z,Z,Z,Z,Z,Z,Z,Z,Z,Z] rfl rfl (any_of HT_.out (by kernel_rfl)) (fun _ _ _ h => h) (Or.inl ⟨by rfl, ?_⟩) ?_ ?_
            rotate_left
            ·intro w'
             go_simp
             with_reducible rfl
            rotate_left
            ·simp only [Act.put, sl0, sl1, sl2, i64_w, i32_w]
             rfl
            refine take_ (i := 4) (N := some 119) (v := ?_) (a' := ?_) (fl_ 9 34) rfl rfl (take_ofW HT_.out HW_.out (by kernel_rfl)) (fun _ _ _ h => h) (Or.inl ⟨by rfl, ?_⟩) hHeld ?_ ?_
            rotate_left
            ·rintro w' ⟨s0, s1, s2, s3, s4, s5, s6, s7⟩
             go_simp
             with_reducible rfl
            rotate_left
            ·simp only [Act.put, sl0, sl1, sl2, i64_w, i32_w]
             rfl
            refine take_ (i := 9) (N := some 124) (v := ?_) (a' := ?_) (fl_ 10 33) rfl rfl (take_ofW HT_.out HW_.out (by kernel_rfl)) (fun _ _ _ h => h) (Or.inl ⟨by rfl, ?_⟩) hHeld ?_ ?_
            rotate_left
            ·rintro w' ⟨s0, s1, s2, s3, s4, s5, s6, s7⟩
             go_simp
             with_reducible rfl
            rotate_left
            ·simp only [Act.put, sl0, sl1, sl2, i64_w, i32_w]
             rfl
            refine pure_ (i := 10) (N := some 125) (v := ?_) (a' := ?_) (fl_ 11 32) rfl rfl (any_of HT_.out (by kernel_rfl)) (fun _ _ _ h => h) (Or.inl ⟨by rfl, ?_⟩) ?_ ?_
            rotate_left
            ·intro w'
             go_simp
             with_reducible rfl
            rotate_left
            ·simp only [Act.put, sl0, sl1, sl2, i64_w, i32_w]
             rfl
            refine pure_ (i := 11) (N := some 126) (v := ?_) (a' := ?_) (fl_ 12 31) rfl rfl (any_of HT_.out (by kernel_rfl)) (fun _ _ _ h => h) (Or.inl ⟨by rfl, ?_⟩) ?_ ?_
            rotate_left
            ·intro w'
             go_simp
             with_reducible rfl
            rotate_left
            ·simp only [Act.put, sl0, sl1, sl2, i64_w, i32_w]
             rfl
            refine pure_ (i := 12) (N := some 127) (v := ?_) (a' := ?_) (fl_ 13 30) rfl rfl (any_of HT_.out (by kernel_rfl)) (fun _ _ _ h => h) (Or.inl ⟨by rfl, ?_⟩) ?_ ?_
            rotate_left
            ·intro w'
             go_simp
             with_reducible rfl
            rotate_left
            ·simp only [Act.put, sl0, sl1, sl2, i64_w, i32_w]
             rfl
            refine pure_ (i := 13) (N := some 128) (v := ?_) (a' := ?_) (fl_ 14 29) rfl rfl (any_of HT_.out (by kernel_rfl)) (fun _ _ _ h => h) (Or.inl ⟨by rfl, ?_⟩) ?_ ?_
            rotate_left
            ·intro w'
             go_simp
             with_reducible rfl
            rotate_left
            ·simp only [Act.put, sl0, sl1, sl2, i64_w, i32_w]
             rfl
            refine pure_ (i := 14) (N := some 129) (v := ?_) (a' := ?_) (fl_ 15 28) rfl rfl (any_of HT_.out (by kernel_rfl)) (fun _ _ _ h => h) (Or.inl ⟨by rfl, ?_⟩) ?_ ?_
            rotate_left
            ·intro w'
             go_simp
             with_reducible rfl
            rotate_left
            ·simp only [Act.put, sl0, sl1, sl2, i64_w, i32_w]
             rfl
            refine pure_ (i := 17) (N := some 132) (v := ?_) (a' := ?_) #[Y,Y,Y,Y,Y,Y,Y,Y,Y,Y,Y,Y,Y,Y,Y,Z,Z,Y,Z,Z,Z,Z,Z,Z,Z,Z,Z,Z,Z,Z,Z,Z,Z,Z,Z,Z,Z,Z,Z,Z,Z,Z,Z] rfl rfl (any_of HT_.out (by kernel_rfl)) (fun _ _ _ h => h) (Or.inl ⟨by rfl, ?_⟩) ?_ ?_
            rotate_left
            ·intro w'
             go_simp
             with_reducible rfl
            rotate_left
            ·simp only [Act.put, sl0, sl1, sl2, i64_w, i32_w]
             rfl
            refine pure_ (i := 18) (N := some 133) (v := ?_) (a' := ?_) #[Y,Y,Y,Y,Y,Y,Y,Y,Y,Y,Y,Y,Y,Y,Y,Z,Z,Y,Y,Z,Z,Z,Z,Z,Z,Z,Z,Z,Z,Z,Z,Z,Z,Z,Z,Z,Z,Z,Z,Z,Z,Z,Z] rfl rfl (any_of HT_.out (by kernel_rfl)) (fun _ _ _ h => h) (Or.inl ⟨by rfl, ?_⟩) ?_ ?_
            rotate_left
            ·intro w'
             go_simp
             with_reducible rfl
            rotate_left
            ·simp only [Act.put, sl0, sl1, sl2, i64_w, i32_w]
             rfl
            refine pure_ (i := 19) (N := some 134) (v := ?_) (a' := ?_) #[Y,Y,Y,Y,Y,Y,Y,Y,Y,Y,Y,Y,Y,Y,Y,Z,Z,Y,Y,Y,Z,Z,Z,Z,Z,Z,Z,Z,Z,Z,Z,Z,Z,Z,Z,Z,Z,Z,Z,Z,Z,Z,Z] rfl rfl (any_of HT_.out (by kernel_rfl)) (fun _ _ _ h => h) (Or.inl ⟨by rfl, ?_⟩) ?_ ?_
            rotate_left
            ·intro w'
             go_simp
             with_reducible rfl
            rotate_left
            ·simp only [Act.put, sl0, sl1, sl2, i64_w, i32_w]
             rfl
            refine take_ (i := 15) (N := some 130) (v := ?_) (a' := ?_) #[Y,Y,Y,Y,Y,Y,Y,Y,Y,Y,Y,Y,Y,Y,Y,Y,Z,Y,Y,Y,Z,Z,Z,Z,Z,Z,Z,Z,Z,Z,Z,Z,Z,Z,Z,Z,Z,Z,Z,Z,Z,Z,Z] rfl rfl (take_ofW HT_.out HW_.out (by kernel_rfl)) (fun _ _ _ h => h) (Or.inl ⟨by rfl, ?_⟩) hHeld ?_ ?_
            rotate_left
            ·rintro w' ⟨s0, s1, s2, s3, s4, s5, s6, s7⟩
             go_simp
             with_reducible rfl
            rotate_left
            ·simp only [Act.put, sl0, sl1, sl2, i64_w, i32_w]
             rfl
            refine pure_ (i := 16) (N := some 131) (v := ?_) (a' := ?_) (fl_ 20 23) rfl rfl (any_of HT_.out (by kernel_rfl)) (fun _ _ _ h => h) (Or.inl ⟨by rfl, ?_⟩) ?_ ?_
            rotate_left
            ·intro w'
             go_simp
             with_reducible rfl
            rotate_left
            ·simp only [Act.put, sl0, sl1, sl2, i64_w, i32_w]
             rfl
            refine take_ (i := 20) (N := some 135) (v := ?_) (a' := ?_) (fl_ 21 22) rfl rfl (take_ofW HT_.out HW_.out (by kernel_rfl)) (fun _ _ _ h => h) (Or.inl ⟨by rfl, ?_⟩) hHeld ?_ ?_
            rotate_left
            ·rintro w' ⟨s0, s1, s2, s3, s4, s5, s6, s7⟩
             go_simp
             with_reducible rfl
            rotate_left
            ·simp only [Act.put, sl0, sl1, sl2, i64_w, i32_w]
             rfl
            refine pure_ (i := 21) (N := some 136) (v := ?_) (a' := ?_) (fl_ 22 21) rfl rfl (any_of HT_.out (by kernel_rfl)) (fun _ _ _ h => h) (Or.inl ⟨by rfl, ?_⟩) ?_ ?_
            rotate_left
            ·intro w'
             go_simp
             with_reducible rfl
            rotate_left
            ·simp only [Act.put, sl0, sl1, sl2, i64_w, i32_w]
             rfl
            refine pure_ (i := 22) (N := some 137) (v := ?_) (a' := ?_) (fl_ 23 20) rfl rfl (any_of HT_.out (by kernel_rfl)) (fun _ _ _ h => h) (Or.inl ⟨by rfl, ?_⟩) ?_ ?_
            rotate_left
            ·intro w'
             go_simp
             with_reducible rfl
            rotate_left
            ·simp only [Act.put, sl0, sl1, sl2, i64_w, i32_w]
             rfl
            refine pure_ (i := 23) (N := some 138) (v := ?_) (a' := ?_) (fl_ 24 19) rfl rfl (any_of HT_.out (by kernel_rfl)) (fun _ _ _ h => h) (Or.inl ⟨by rfl, ?_⟩) ?_ ?_
            rotate_left
            ·intro w'
             go_simp
             with_reducible rfl
            rotate_left
            ·simp only [Act.put, sl0, sl1, sl2, i64_w, i32_w]
             rfl
            refine pure_ (i := 24) (N := some 139) (v := ?_) (a' := ?_) (fl_ 25 18) rfl rfl (any_of HT_.out (by kernel_rfl)) (fun _ _ _ h => h) (Or.inl ⟨by rfl, ?_⟩) ?_ ?_
            rotate_left
            ·intro w'
             go_simp
             with_reducible rfl
            rotate_left
            ·simp only [Act.put, sl0, sl1, sl2, i64_w, i32_w]
             rfl
            refine pure_ (i := 25) (N := some 140) (v := undef) (a' := ?_) (fl_ 26 17) rfl rfl (any_of HT_.out (by kernel_rfl)) (fun _ _ _ h => h) (Or.inr ⟨by rfl, rfl⟩) ?_ ?_
            rotate_left
            ·simp only [Act.put, sl0, sl1, sl2, i64_w, i32_w]
             rfl
            refine pure_ (i := 26) (N := some 141) (v := undef) (a' := ?_) (fl_ 27 16) rfl rfl (any_of HT_.out (by kernel_rfl)) (fun _ _ _ h => h) (Or.inr ⟨by rfl, rfl⟩) ?_ ?_
            rotate_left
            ·simp only [Act.put, sl0, sl1, sl2, i64_w, i32_w]
             rfl
            refine pure_ (i := 27) (N := some 142) (v := undef) (a' := ?_) (fl_ 28 15) rfl rfl (any_of HT_.out (by kernel_rfl)) (fun _ _ _ h => h) (Or.inr ⟨by rfl, rfl⟩) ?_ ?_
            rotate_left
            ·simp only [Act.put, sl0, sl1, sl2, i64_w, i32_w]
             rfl
            refine pure_ (i := 28) (N := some 143) (v := undef) (a' := ?_) (fl_ 29 14) rfl rfl (any_of HT_.out (by kernel_rfl)) (fun _ _ _ h => h) (Or.inr ⟨by rfl, rfl⟩) ?_ ?_
            rotate_left
            ·simp only [Act.put, sl0, sl1, sl2, i64_w, i32_w]
             rfl
            refine pure_ (i := 29) (N := some 144) (v := undef) (a' := ?_) (fl_ 30 13) rfl rfl (any_of HT_.out (by kernel_rfl)) (fun _ _ _ h => h) (Or.inr ⟨by rfl, rfl⟩) ?_ ?_
            rotate_left
            ·simp only [Act.put, sl0, sl1, sl2, i64_w, i32_w]
             rfl
            refine pure_ (i := 30) (N := some 145) (v := undef) (a' := ?_) (fl_ 31 12) rfl rfl (any_of HT_.out (by kernel_rfl)) (fun _ _ _ h => h) (Or.inr ⟨by rfl, rfl⟩) ?_ ?_
            rotate_left
            ·simp only [Act.put, sl0, sl1, sl2, i64_w, i32_w]
             rfl
            refine pure_ (i := 31) (N := some 146) (v := undef) (a' := ?_) (fl_ 32 11) rfl rfl (any_of HT_.out (by kernel_rfl)) (fun _ _ _ h => h) (Or.inr ⟨by rfl, rfl⟩) ?_ ?_
            rotate_left
            ·simp only [Act.put, sl0, sl1, sl2, i64_w, i32_w]
             rfl
            refine pure_ (i := 32) (N := some 147) (v := undef) (a' := ?_) (fl_ 33 10) rfl rfl (any_of HT_.out (by kernel_rfl)) (fun _ _ _ h => h) (Or.inr ⟨by rfl, rfl⟩) ?_ ?_
            rotate_left
            ·simp only [Act.put, sl0, sl1, sl2, i64_w, i32_w]
             rfl
            refine pure_ (i := 33) (N := some 148) (v := undef) (a' := ?_) (fl_ 34 9) rfl rfl (any_of HT_.out (by kernel_rfl)) (fun _ _ _ h => h) (Or.inr ⟨by rfl, rfl⟩) ?_ ?_
            rotate_left
            ·simp only [Act.put, sl0, sl1, sl2, i64_w, i32_w]
             rfl
            refine pure_ (i := 34) (N := some 149) (v := undef) (a' := ?_) (fl_ 35 8) rfl rfl (any_of HT_.out (by kernel_rfl)) (fun _ _ _ h => h) (Or.inr ⟨by rfl, rfl⟩) ?_ ?_
            rotate_left
            ·simp only [Act.put, sl0, sl1, sl2, i64_w, i32_w]
             rfl
            refine pure_ (i := 35) (N := some 150) (v := undef) (a' := ?_) (fl_ 36 7) rfl rfl (any_of HT_.out (by kernel_rfl)) (fun _ _ _ h => h) (Or.inr ⟨by rfl, rfl⟩) ?_ ?_
            rotate_left
            ·simp only [Act.put, sl0, sl1, sl2, i64_w, i32_w]
             rfl
            refine pure_ (i := 36) (N := some 151) (v := undef) (a' := ?_) (fl_ 37 6) rfl rfl (any_of HT_.out (by kernel_rfl)) (fun _ _ _ h => h) (Or.inr ⟨by rfl, rfl⟩) ?_ ?_
            rotate_left
            ·simp only [Act.put, sl0, sl1, sl2, i64_w, i32_w]
             rfl
            refine pure_ (i := 37) (N := some 152) (v := undef) (a' := ?_) (fl_ 38 5) rfl rfl (any_of HT_.out (by kernel_rfl)) (fun _ _ _ h => h) (Or.inr ⟨by rfl, rfl⟩) ?_ ?_
            rotate_left
            ·simp only [Act.put, sl0, sl1, sl2, i64_w, i32_w]
             rfl
            refine pure_ (i := 38) (N := some 153) (v := undef) (a' := ?_) (fl_ 39 4) rfl rfl (any_of HT_.out (by kernel_rfl)) (fun _ _ _ h => h) (Or.inr ⟨by rfl, rfl⟩) ?_ ?_
            rotate_left
            ·simp only [Act.put, sl0, sl1, sl2, i64_w, i32_w]
             rfl
            refine pure_ (i := 39) (N := some 154) (v := undef) (a' := ?_) (fl_ 40 3) rfl rfl (any_of HT_.out (by kernel_rfl)) (fun _ _ _ h => h) (Or.inr ⟨by rfl, rfl⟩) ?_ ?_
            rotate_left
            ·simp only [Act.put, sl0, sl1, sl2, i64_w, i32_w]
             rfl
            refine pure_ (i := 40) (N := some 155) (v := undef) (a' := ?_) (fl_ 41 2) rfl rfl (any_of HT_.out (by kernel_rfl)) (fun _ _ _ h => h) (Or.inr ⟨by rfl, rfl⟩) ?_ ?_
            rotate_left
            ·simp only [Act.put, sl0, sl1, sl2, i64_w, i32_w]
             rfl
            refine pure_ (i := 41) (N := some 156) (v := ?_) (a' := ?_) (fl_ 42 1) rfl rfl (any_of HT_.out (by kernel_rfl)) (fun _ _ _ h => h) (Or.inl ⟨by rfl, ?_⟩) ?_ ?_
            rotate_left
            ·intro w'
             go_simp
             with_reducible rfl
            rotate_left
            ·simp only [Act.put, sl0, sl1, sl2, i64_w, i32_w]
             rfl
            refine pure_ (i := 42) (N := some 157) (v := ?_) (a' := ?_) (fl_ 43 0) rfl rfl (any_of HT_.out (by kernel_rfl)) (fun _ _ _ h => h) (Or.inl ⟨by rfl, ?_⟩) ?_ ?_
            rotate_left
            ·intro w'
             go_simp
             with_reducible rfl
            rotate_left
            ·simp only [Act.put, sl0, sl1, sl2, i64_w, i32_w]
             rfl
            refine done_ (done_of HT_.out (by kernel_rfl)) ?_
            try go_wp2
            go_ret
            exact ⟨by first | rfl | (simp [errW_none, errW_some] <;> rfl) | (simp [*, errW_none, errW_some] <;> rfl), by repeat (first | (with_reducible first | exact HB.out | apply below_alloc | apply pw_below_drewN | apply below_drew1) | exact HB.out)⟩
           rw [if_pos c53] at H
           have c53b0 : (((rd_L3 t243 x11_4).length : Int) == (wrap64 (((rd_L3 t243 x8_2).length : Int) + 1))) = true := beq_iff_eq.mpr c53
           have c53b1 : (((rd_L3 t243 x11_4).length : Int) != (wrap64 (((rd_L3 t243 x8_2).length : Int) + 1))) = false := bne_eq_false_iff_eq.mpr c53
           clear c53
           by_cases c54 : 0 ≤ ((rd_L3 t243 x8_2).length : Int)
           rotate_left
           ·rw [if_neg c54] at H
            exact absurd H (by simp)
           rw [if_pos c54] at H
           have c54b0 := eq_true c54
           have c54b1 : decide (0 ≤ ((rd_L3 t243 x8_2).length : Int)) = true := decide_eq_true c54
           clear c54
           by_cases c55 : ((rd_L3 t243 x8_2).length : Int) ≤ ((rd_L3 t243 x11_4).length : Int)
           rotate_left
           ·rw [if_neg c55] at H
            exact absurd H (by simp)
           rw [if_pos c55] at H
           have c55b0 := eq_true c55
           have c55b1 : decide (((rd_L3 t243 x8_2).length : Int) ≤ ((rd_L3 t243 x11_4).length : Int)) = true := decide_eq_true c55
           clear c55
           obtain ⟨y267, hy267⟩ : ∃ y_ : List Int, y_ = ((rd_L3 t243 x11_4).take (((rd_L3 t243 x8_2).length : Int) : Int).toNat) := ⟨_, rfl⟩
           replace H : ((hypercuberef1_Ints.f kj40 y267 (rd_L3 t243 x8_2)).bind fun t272 => (if t272 = true then (hypercubelaw10_SortsOrders.l2 kj40 (wrap64 (1 + t239)) t240 t243 x8_2 (wrap64 (x11_4 + 1))) else (some false))) = some r := by first | (rw [hy267]; with_reducible exact H) | (have H2_ := (Option.bind_some _ _).symm.trans H; rw [hy267]; with_reducible exact H2_) | (have H2_ := (Option.bind_some _ _).symm.trans H; with_reducible exact H2_) | with_reducible exact H | (rw [hy267]; exact H) | exact H
           have Ny267 := Aside0.mk hy267
           clear hy267
           replace H := Option.bind_eq_some_iff.mp H
           obtain ⟨t272, A560, H⟩ := H
           replace H : (if t272 = true then (hypercubelaw10_SortsOrders.l2 kj40 (wrap64 (1 + t239)) t240 t243 x8_2 (wrap64 (x11_4 + 1))) else (some false)) = some r := H
           have A56 := Aside0.mk A560
           clear A560
           by_cases c57 : t272 = true
           rotate_left
           ·replace c57 := Bool.eq_false_iff.mpr c57
            subst c57
            have H1 : (some false) = some r := by rw [if_neg (show ¬ (false = true) by decide)] at H; exact H
            clear H
            have H := H1
            clear H1
            obtain rfl := Option.some.inj H
            try go_wp2
            have n0_ := Aside0.mk (Kd.R_drew HO_6.out)
            have n1_ := Aside0.mk (Kd.S_drew HO_7.out)
            have n2_ := Aside0.mk (Kd.C_drew HR250_0.out)
            have n3_ := Aside0.mk (below_drew1 HB.out)
            clear HO_6
            clear HO_7
            clear HR250_0
            clear HB
            have HO_6 := n0_
            have HO_7 := n1_
            have HR250_0 := n2_
            have HB := n3_
            clear n0_ n1_ n2_ n3_
            have p261 : 0 ≤ (x11_4 : Int) := od_
            have q261 : x11_4 < (t240.length : Int) := od_
            obtain ⟨ad261, e261, hx261_0, hx261_1, hx261_2⟩ := at_T49 (Kd.R_reads' HO_6.out).2.2 x11_4 p261 q261
            obtain rfl : ad259 = ad261 := (by injection e261)
            replace p261 := eq_true p261
            replace q261 := eq_true q261
            have p262 : 0 ≤ (x8_2 : Int) := od_
            have q262 : x8_2 < (t240.length : Int) := od_
            obtain ⟨ad262, e262, hx262_0, hx262_1, hx262_2⟩ := at_T49 (Kd.R_reads' HO_6.out).2.2 x8_2 p262 q262
            obtain rfl : ad259 = ad262 := (by injection e262)
            replace p262 := eq_true p262
            replace q262 := eq_true q262
            have p263 : 0 ≤ (x11_4 : Int) := od_
            have q263 : x11_4 < (t243.length : Int) := od_
            obtain ⟨ad263, A263_0, c263_0, e263, hx263_0, hl263_0, hi263_0⟩ := at_L3 (Kd.S_reads' HO_7.out).2.2 x11_4 p263 q263
            obtain rfl : ad250 = ad263 := (by injection e263)
            obtain ⟨ce263, hce263, hMe263, hcc263⟩ := Kd.S_get HO_7.out [] x11_4 p263 (by first | exact q263 | exact of_decide_eq_true (by first | (with_reducible assumption) | assumption) | (have e_ := (Kd.S_reads' HO_7.out).1; omega))
            obtain ⟨ve263_0, rfl, ge263_0⟩ := hMe263
            have hv263_0 := hcc263 0 _ rfl
            rw [Nat.add_zero, show ((Kd.slice 3 (Kd.int .i64))).sz = 1 from rfl, Nat.mul_one] at hv263_0
            replace hv263_0 := Option.some.inj (hv263_0.symm.trans hx263_0)
            rw [hv263_0] at ge263_0
            have HL263_0 := Aside0.mk (show Kd.R (Kd.int .i64) 3 _ _ _ _ (rd_L3 t243 x11_4) from ge263_0)
            clear hv263_0 ge263_0
            clear hcc263 hce263
            have HR263_0 := Aside0.mk hi263_0
            have HC263_0 := Aside0.mk hl263_0
            clear hi263_0 hl263_0
            replace p263 := eq_true p263
            replace q263 := eq_true q263
            have p264 : 0 ≤ (x8_2 : Int) := od_
            have q264 : x8_2 < (t243.length : Int) := od_
            obtain ⟨ad264, A264_0, c264_0, e264, hx264_0, hl264_0, hi264_0⟩ := at_L3 (Kd.S_reads' HO_7.out).2.2 x8_2 p264 q264
            obtain rfl : ad250 = ad264 := (by injection e264)
            obtain ⟨ce264, hce264, hMe264, hcc264⟩ := Kd.S_get HO_7.out [] x8_2 p264 (by first | exact q264 | exact of_decide_eq_true (by first | (with_reducible assumption) | assumption) | (have e_ := (Kd.S_reads' HO_7.out).1; omega))
            obtain ⟨ve264_0, rfl, ge264_0⟩ := hMe264
            have hv264_0 := hcc264 0 _ rfl
            rw [Nat.add_zero, show ((Kd.slice 3 (Kd.int .i64))).sz = 1 from rfl, Nat.mul_one] at hv264_0
            replace hv264_0 := Option.some.inj (hv264_0.symm.trans hx264_0)
            rw [hv264_0] at ge264_0
            have HL264_0 := Aside0.mk (show Kd.R (Kd.int .i64) 3 _ _ _ _ (rd_L3 t243 x8_2) from ge264_0)
            clear hv264_0 ge264_0
            clear hcc264 hce264
            have HR264_0 := Aside0.mk hi264_0
            have HC264_0 := Aside0.mk hl264_0
            clear hi264_0 hl264_0
            replace p264 := eq_true p264
            replace q264 := eq_true q264
            have p265 : 0 ≤ (x11_4 : Int) := od_
            have q265 : x11_4 < (t243.length : Int) := od_
            obtain ⟨ad265, A265_0, c265_0, e265, hx265_0, hl265_0, hi265_0⟩ := at_L3 (Kd.S_reads' HO_7.out).2.2 x11_4 p265 q265
            obtain rfl : ad250 = ad265 := (by injection e265)
            obtain ⟨ce265, hce265, hMe265, hcc265⟩ := Kd.S_get HO_7.out [] x11_4 p265 (by first | exact q265 | exact of_decide_eq_true (by first | (with_reducible assumption) | assumption) | (have e_ := (Kd.S_reads' HO_7.out).1; omega))
            obtain ⟨ve265_0, rfl, ge265_0⟩ := hMe265
            have hv265_0 := hcc265 0 _ rfl
            rw [Nat.add_zero, show ((Kd.slice 3 (Kd.int .i64))).sz = 1 from rfl, Nat.mul_one] at hv265_0
            replace hv265_0 := Option.some.inj (hv265_0.symm.trans hx265_0)
            rw [hv265_0] at ge265_0
            have HL265_0 := Aside0.mk (show Kd.R (Kd.int .i64) 3 _ _ _ _ (rd_L3 t243 x11_4) from ge265_0)
            clear hv265_0 ge265_0
            clear hcc265 hce265
            have HR265_0 := Aside0.mk hi265_0
            have HC265_0 := Aside0.mk hl265_0
            clear hi265_0 hl265_0
            replace p265 := eq_true p265
            replace q265 := eq_true q265
            have ea_ := Option.some.inj (hx263_0.symm.trans hx265_0)
            injection ea_ with ea_ en_ ec_
            subst ea_
            subst ec_
            clear en_
            have p266 : 0 ≤ (x8_2 : Int) := od_
            have q266 : x8_2 < (t243.length : Int) := od_
            obtain ⟨ad266, A266_0, c266_0, e266, hx266_0, hl266_0, hi266_0⟩ := at_L3 (Kd.S_reads' HO_7.out).2.2 x8_2 p266 q266
            obtain rfl : ad250 = ad266 := (by injection e266)
            obtain ⟨ce266, hce266, hMe266, hcc266⟩ := Kd.S_get HO_7.out [] x8_2 p266 (by first | exact q266 | exact of_decide_eq_true (by first | (with_reducible assumption) | assumption) | (have e_ := (Kd.S_reads' HO_7.out).1; omega))
            obtain ⟨ve266_0, rfl, ge266_0⟩ := hMe266
            have hv266_0 := hcc266 0 _ rfl
            rw [Nat.add_zero, show ((Kd.slice 3 (Kd.int .i64))).sz = 1 from rfl, Nat.mul_one] at hv266_0
            replace hv266_0 := Option.some.inj (hv266_0.symm.trans hx266_0)
            rw [hv266_0] at ge266_0
            have HL266_0 := Aside0.mk (show Kd.R (Kd.int .i64) 3 _ _ _ _ (rd_L3 t243 x8_2) from ge266_0)
            clear hv266_0 ge266_0
            clear hcc266 hce266
            have HR266_0 := Aside0.mk hi266_0
            have HC266_0 := Aside0.mk hl266_0
            clear hi266_0 hl266_0
            replace p266 := eq_true p266
            replace q266 := eq_true q266
            have ea_ := Option.some.inj (hx264_0.symm.trans hx266_0)
            injection ea_ with ea_ en_ ec_
            subst ea_
            subst ec_
            clear en_
            have q61 : (((rd_L3 t243 x8_2).length : Int) : Int) ≤ (((rd_L3 t243 x11_4).length : Int) : Int) := od_
            obtain ⟨i061, hi061, _, hsz61, _⟩ := info_parts info3
            have hroom61 : (rd_L3 t243 x11_4).length ≤ c263_0 := HC265_0.out
            have hC61 : Kd.C (Kd.int .i64) _ A263_0 (rd_L3 t243 x11_4).length (rd_L3 t243 x11_4) := (by repeat (first | (with_reducible exact HR265_0.out) | (with_reducible refine Kd.C_alloc ?_ _) | (with_reducible refine Kd.C_drewN ?_ _) | (with_reducible refine Kd.C_drew ?_) | exact HR265_0.out))
            have hcut61 := cut_to (P := Try.prog) 24 3 .i64 Try.underlying24 hi061 A263_0 (rd_L3 t243 x11_4).length c263_0 ((rd_L3 t243 x8_2).length : Int) (of_decide_eq_true (by first | (with_reducible assumption) | assumption)) q61 hroom61
            have hr61 := Kd.C_take (m := (((rd_L3 t243 x8_2).length : Int) : Int).toNat) hC61 (by omega)
            have hy61 : y267.length = (((rd_L3 t243 x8_2).length : Int) : Int).toNat := (by rw [Ny267.out, List.length_take]; omega)
            rw [← Ny267.out] at hr61
            rw [← hy61] at hcut61
            have HR270 := Aside0.mk hr61
            have HC270 := Aside0.mk (show y267.length ≤ c263_0 from by omega)
            clear hr61 hC61 hroom61 hi061 hsz61
            have KY61 := Aside0.mk hy61
            clear hy61
            replace q61 := eq_true q61
            have p271 : 0 ≤ (x8_2 : Int) := od_
            have q271 : x8_2 < (t243.length : Int) := od_
            obtain ⟨ad271, A271_0, c271_0, e271, hx271_0, hl271_0, hi271_0⟩ := at_L3 (Kd.S_reads' HO_7.out).2.2 x8_2 p271 q271
            obtain rfl : ad250 = ad271 := (by injection e271)
            obtain ⟨ce271, hce271, hMe271, hcc271⟩ := Kd.S_get HO_7.out [] x8_2 p271 (by first | exact q271 | exact of_decide_eq_true (by first | (with_reducible assumption) | assumption) | (have e_ := (Kd.S_reads' HO_7.out).1; omega))
            obtain ⟨ve271_0, rfl, ge271_0⟩ := hMe271
            have hv271_0 := hcc271 0 _ rfl
            rw [Nat.add_zero, show ((Kd.slice 3 (Kd.int .i64))).sz = 1 from rfl, Nat.mul_one] at hv271_0
            replace hv271_0 := Option.some.inj (hv271_0.symm.trans hx271_0)
            rw [hv271_0] at ge271_0
            have HL271_0 := Aside0.mk (show Kd.R (Kd.int .i64) 3 _ _ _ _ (rd_L3 t243 x8_2) from ge271_0)
            clear hv271_0 ge271_0
            clear hcc271 hce271
            have HR271_0 := Aside0.mk hi271_0
            have HC271_0 := Aside0.mk hl271_0
            clear hi271_0 hl271_0
            replace p271 := eq_true p271
            replace q271 := eq_true q271
            have ea_ := Option.some.inj (hx264_0.symm.trans hx271_0)
            injection ea_ with ea_ en_ ec_
            subst ea_
            subst ec_
            clear en_
            refine start_ (n := 43) (S := fun w' => w'.cell? (ad259.add ((x11_4).toNat * 3)) = some (.int .i64 ((rd_T49 t240 x11_4).f0)) ∧ w'.cell? ⟨(ad259.add ((x11_4).toNat * 3)).block, (ad259.add ((x11_4).toNat * 3)).off + 1, none⟩ = some (.int .i64 ((rd_T49 t240 x11_4).f1)) ∧ w'.cell? ⟨(ad259.add ((x11_4).toNat * 3)).block, (ad259.add ((x11_4).toNat * 3)).off + 2, none⟩ = some (.bool ((rd_T49 t240 x11_4).f2)) ∧ w'.cell? (ad259.add ((x8_2).toNat * 3)) = some (.int .i64 ((rd_T49 t240 x8_2).f0)) ∧ w'.cell? ⟨(ad259.add ((x8_2).toNat * 3)).block, (ad259.add ((x8_2).toNat * 3)).off + 1, none⟩ = some (.int .i64 ((rd_T49 t240 x8_2).f1)) ∧ w'.cell? ⟨(ad259.add ((x8_2).toNat * 3)).block, (ad259.add ((x8_2).toNat * 3)).off + 2, none⟩ = some (.bool ((rd_T49 t240 x8_2).f2)) ∧ w'.cell? (ad250.add (x11_4).toNat) = some (.slice A263_0 (rd_L3 t243 x11_4).length c263_0) ∧ w'.cell? (ad250.add (x8_2).toNat) = some (.slice A264_0 (rd_L3 t243 x8_2).length c264_0) ∧ w'.cell? (ad250.add (x11_4).toNat) = some (.slice A263_0 (rd_L3 t243 x11_4).length c263_0) ∧ w'.cell? (ad250.add (x8_2).toNat) = some (.slice A264_0 (rd_L3 t243 x8_2).length c264_0) ∧ w'.cell? (ad250.add (x8_2).toNat) = some (.slice A264_0 (rd_L3 t243 x8_2).length c264_0)) (ds := []) (fl_ 0 43) (by kernel_rfl) rfl rfl ⟨hx261_0, hx261_1, hx261_2, hx262_0, hx262_1, hx262_2, hx263_0, hx264_0, hx265_0, hx266_0, hx271_0⟩ (fun hHeld => ?_); refine with_tabW hypercubelaw10_SortsOrders.tab23 hypercubelaw10_SortsOrders.bits23 (fun HT_ HW_ => ?_)
            generalize wc.drew = w60 at HO_6 HO_7 HR250_0 HB HL263_0 HL264_0 HL265_0 HL266_0 HL271_0 HR263_0 HR264_0 HR265_0 HR266_0 HR270 HR271_0 hx261_0 hx261_1 hx261_2 hx262_0 hx262_1 hx262_2 hx263_0 hx264_0 hx265_0 hx266_0 hx271_0 hHeld ⊢
            refine pure_ (i := 0) (N := some 115) (v := ?_) (a' := ?_) (fl_ 1 42) rfl rfl (any_of HT_.out (by kernel_rfl)) (fun _ _ _ h => h) (Or.inl ⟨by rfl, ?_⟩) ?_ ?_
            rotate_left
            ·intro w'
             go_simp
             with_reducible rfl
            rotate_left
            ·simp only [Act.put, sl0, sl1, sl2, i64_w, i32_w]
             rfl
            refine pure_ (i := 1) (N := some 116) (v := ?_) (a' := ?_) (fl_ 2 41) rfl rfl (any_of HT_.out (by kernel_rfl)) (fun _ _ _ h => h) (Or.inl ⟨by rfl, ?_⟩) ?_ ?_
            rotate_left
            ·intro w'
             go_simp
             with_reducible rfl
            rotate_left
            ·simp only [Act.put, sl0, sl1, sl2, i64_w, i32_w]
             rfl
            refine pure_ (i := 2) (N := some 117) (v := ?_) (a' := ?_) (fl_ 3 40) rfl rfl (any_of HT_.out (by kernel_rfl)) (fun _ _ _ h => h) (Or.inl ⟨by rfl, ?_⟩) ?_ ?_
            rotate_left
            ·intro w'
             go_simp
             with_reducible rfl
            rotate_left
            ·simp only [Act.put, sl0, sl1, sl2, i64_w, i32_w]
             rfl
            refine pure_ (i := 3) (N := some 118) (v := ?_) (a' := ?_) (fl_ 4 39) rfl rfl (any_of HT_.out (by kernel_rfl)) (fun _ _ _ h => h) (Or.inl ⟨by rfl, ?_⟩) ?_ ?_
            rotate_left
            ·intro w'
             go_simp
             with_reducible rfl
            rotate_left
            ·simp only [Act.put, sl0, sl1, sl2, i64_w, i32_w]
             rfl
            refine pure_ (i := 5) (N := some 120) (v := ?_) (a' := ?_) #[Y,Y,Y,Y,Z,Y,Z,Z,Z,Z,Z,Z,Z,Z,Z,Z,Z,Z,Z,Z,Z,Z,Z,Z,Z,Z,Z,Z,Z,Z,Z,Z,Z,Z,Z,Z,Z,Z,Z,Z,Z,Z,Z] rfl rfl (any_of HT_.out (by kernel_rfl)) (fun _ _ _ h => h) (Or.inl ⟨by rfl, ?_⟩) ?_ ?_
            rotate_left
            ·intro w'
             go_simp
             with_reducible rfl
            rotate_left
            ·simp only [Act.put, sl0, sl1, sl2, i64_w, i32_w]
             rfl
            refine pure_ (i := 6) (N := some 121) (v := ?_) (a' := ?_) #[Y,Y,Y,Y,Z,Y,Y,Z,Z,Z,Z,Z,Z,Z,Z,Z,Z,Z,Z,Z,Z,Z,Z,Z,Z,Z,Z,Z,Z,Z,Z,Z,Z,Z,Z,Z,Z,Z,Z,Z,Z,Z,Z] rfl rfl (any_of HT_.out (by kernel_rfl)) (fun _ _ _ h => h) (Or.inl ⟨by rfl, ?_⟩) ?_ ?_
            rotate_left
            ·intro w'
             go_simp
             with_reducible rfl
            rotate_left
            ·simp only [Act.put, sl0, sl1, sl2, i64_w, i32_w]
             rfl
            refine pure_ (i := 7) (N := some 122) (v := ?_) (a' := ?_) #[Y,Y,Y,Y,Z,Y,Y,Y,Z,Z,Z,Z,Z,Z,Z,Z,Z,Z,Z,Z,Z,Z,Z,Z,Z,Z,Z,Z,Z,Z,Z,Z,Z,Z,Z,Z,Z,Z,Z,Z,Z,Z,Z] rfl rfl (any_of HT_.out (by kernel_rfl)) (fun _ _ _ h => h) (Or.inl ⟨by rfl, ?_⟩) ?_ ?_
            rotate_left
            ·intro w'
             go_simp
             with_reducible rfl
            rotate_left
            ·simp only [Act.put, sl0, sl1, sl2, i64_w, i32_w]
             rfl
            refine pure_ (i := 8) (N := some 123) (v := ?_) (a' := ?_) #[Y,Y,Y,Y,Z,Y,Y,Y,Y,Z,Z,Z,Z,Z,Z,Z,Z,Z,Z,Z,Z,Z,Z,Z,Z,Z,Z,Z,Z,Z,Z,Z,Z,Z,Z,Z,Z,Z,Z,Z,Z,Z,Z] rfl rfl (any_of HT_.out (by kernel_rfl)) (fun _ _ _ h => h) (Or.inl ⟨by rfl, ?_⟩) ?_ ?_
            rotate_left
            ·intro w'
             go_simp
             with_reducible rfl
            rotate_left
            ·simp only [Act.put, sl0, sl1, sl2, i64_w, i32_w]
             rfl
            refine take_ (i := 4) (N := some 119) (v := ?_) (a' := ?_) (fl_ 9 34) rfl rfl (take_ofW HT_.out HW_.out (by kernel_rfl)) (fun _ _ _ h => h) (Or.inl ⟨by rfl, ?_⟩) hHeld ?_ ?_
            rotate_left
            ·rintro w' ⟨s0, s1, s2, s3, s4, s5, s6, s7, s8, s9, s10⟩
             go_simp
             with_reducible rfl
            rotate_left
            ·simp only [Act.put, sl0, sl1, sl2, i64_w, i32_w]
             rfl
            refine take_ (i := 9) (N := some 124) (v := ?_) (a' := ?_) (fl_ 10 33) rfl rfl (take_ofW HT_.out HW_.out (by kernel_rfl)) (fun _ _ _ h => h) (Or.inl ⟨by rfl, ?_⟩) hHeld ?_ ?_
            rotate_left
            ·rintro w' ⟨s0, s1, s2, s3, s4, s5, s6, s7, s8, s9, s10⟩
             go_simp
             with_reducible rfl
            rotate_left
            ·simp only [Act.put, sl0, sl1, sl2, i64_w, i32_w]
             rfl
            refine pure_ (i := 10) (N := some 125) (v := ?_) (a' := ?_) (fl_ 11 32) rfl rfl (any_of HT_.out (by kernel_rfl)) (fun _ _ _ h => h) (Or.inl ⟨by rfl, ?_⟩) ?_ ?_
            rotate_left
            ·intro w'
             go_simp
             with_reducible rfl
            rotate_left
            ·simp only [Act.put, sl0, sl1, sl2, i64_w, i32_w]
             rfl
            refine pure_ (i := 11) (N := some 126) (v := ?_) (a' := ?_) (fl_ 12 31) rfl rfl (any_of HT_.out (by kernel_rfl)) (fun _ _ _ h => h) (Or.inl ⟨by rfl, ?_⟩) ?_ ?_
            rotate_left
            ·intro w'
             go_simp
             with_reducible rfl
            rotate_left
            ·simp only [Act.put, sl0, sl1, sl2, i64_w, i32_w]
             rfl
            refine pure_ (i := 12) (N := some 127) (v := ?_) (a' := ?_) (fl_ 13 30) rfl rfl (any_of HT_.out (by kernel_rfl)) (fun _ _ _ h => h) (Or.inl ⟨by rfl, ?_⟩) ?_ ?_
            rotate_left
            ·intro w'
             go_simp
             with_reducible rfl
            rotate_left
            ·simp only [Act.put, sl0, sl1, sl2, i64_w, i32_w]
             rfl
            refine pure_ (i := 13) (N := some 128) (v := ?_) (a' := ?_) (fl_ 14 29) rfl rfl (any_of HT_.out (by kernel_rfl)) (fun _ _ _ h => h) (Or.inl ⟨by rfl, ?_⟩) ?_ ?_
            rotate_left
            ·intro w'
             go_simp
             with_reducible rfl
            rotate_left
            ·simp only [Act.put, sl0, sl1, sl2, i64_w, i32_w]
             rfl
            refine pure_ (i := 14) (N := some 129) (v := ?_) (a' := ?_) (fl_ 15 28) rfl rfl (any_of HT_.out (by kernel_rfl)) (fun _ _ _ h => h) (Or.inl ⟨by rfl, ?_⟩) ?_ ?_
            rotate_left
            ·intro w'
             go_simp
             with_reducible rfl
            rotate_left
            ·simp only [Act.put, sl0, sl1, sl2, i64_w, i32_w]
             rfl
            refine pure_ (i := 17) (N := some 132) (v := ?_) (a' := ?_) #[Y,Y,Y,Y,Y,Y,Y,Y,Y,Y,Y,Y,Y,Y,Y,Z,Z,Y,Z,Z,Z,Z,Z,Z,Z,Z,Z,Z,Z,Z,Z,Z,Z,Z,Z,Z,Z,Z,Z,Z,Z,Z,Z] rfl rfl (any_of HT_.out (by kernel_rfl)) (fun _ _ _ h => h) (Or.inl ⟨by rfl, ?_⟩) ?_ ?_
            rotate_left
            ·intro w'
             go_simp
             with_reducible rfl
            rotate_left
            ·simp only [Act.put, sl0, sl1, sl2, i64_w, i32_w]
             rfl
            refine pure_ (i := 18) (N := some 133) (v := ?_) (a' := ?_) #[Y,Y,Y,Y,Y,Y,Y,Y,Y,Y,Y,Y,Y,Y,Y,Z,Z,Y,Y,Z,Z,Z,Z,Z,Z,Z,Z,Z,Z,Z,Z,Z,Z,Z,Z,Z,Z,Z,Z,Z,Z,Z,Z] rfl rfl (any_of HT_.out (by kernel_rfl)) (fun _ _ _ h => h) (Or.inl ⟨by rfl, ?_⟩) ?_ ?_
            rotate_left
            ·intro w'
             go_simp
             with_reducible rfl
            rotate_left
            ·simp only [Act.put, sl0, sl1, sl2, i64_w, i32_w]
             rfl
            refine pure_ (i := 19) (N := some 134) (v := ?_) (a' := ?_) #[Y,Y,Y,Y,Y,Y,Y,Y,Y,Y,Y,Y,Y,Y,Y,Z,Z,Y,Y,Y,Z,Z,Z,Z,Z,Z,Z,Z,Z,Z,Z,Z,Z,Z,Z,Z,Z,Z,Z,Z,Z,Z,Z] rfl rfl (any_of HT_.out (by kernel_rfl)) (fun _ _ _ h => h) (Or.inl ⟨by rfl, ?_⟩) ?_ ?_
            rotate_left
            ·intro w'
             go_simp
             with_reducible rfl
            rotate_left
            ·simp only [Act.put, sl0, sl1, sl2, i64_w, i32_w]
             rfl
            refine take_ (i := 15) (N := some 130) (v := ?_) (a' := ?_) #[Y,Y,Y,Y,Y,Y,Y,Y,Y,Y,Y,Y,Y,Y,Y,Y,Z,Y,Y,Y,Z,Z,Z,Z,Z,Z,Z,Z,Z,Z,Z,Z,Z,Z,Z,Z,Z,Z,Z,Z,Z,Z,Z] rfl rfl (take_ofW HT_.out HW_.out (by kernel_rfl)) (fun _ _ _ h => h) (Or.inl ⟨by rfl, ?_⟩) hHeld ?_ ?_
            rotate_left
            ·rintro w' ⟨s0, s1, s2, s3, s4, s5, s6, s7, s8, s9, s10⟩
             go_simp
             with_reducible rfl
            rotate_left
            ·simp only [Act.put, sl0, sl1, sl2, i64_w, i32_w]
             rfl
            refine pure_ (i := 16) (N := some 131) (v := ?_) (a' := ?_) (fl_ 20 23) rfl rfl (any_of HT_.out (by kernel_rfl)) (fun _ _ _ h => h) (Or.inl ⟨by rfl, ?_⟩) ?_ ?_
            rotate_left
            ·intro w'
             go_simp
             with_reducible rfl
            rotate_left
            ·simp only [Act.put, sl0, sl1, sl2, i64_w, i32_w]
             rfl
            refine take_ (i := 20) (N := some 135) (v := ?_) (a' := ?_) (fl_ 21 22) rfl rfl (take_ofW HT_.out HW_.out (by kernel_rfl)) (fun _ _ _ h => h) (Or.inl ⟨by rfl, ?_⟩) hHeld ?_ ?_
            rotate_left
            ·rintro w' ⟨s0, s1, s2, s3, s4, s5, s6, s7, s8, s9, s10⟩
             go_simp
             with_reducible rfl
            rotate_left
            ·simp only [Act.put, sl0, sl1, sl2, i64_w, i32_w]
             rfl
            refine pure_ (i := 21) (N := some 136) (v := ?_) (a' := ?_) (fl_ 22 21) rfl rfl (any_of HT_.out (by kernel_rfl)) (fun _ _ _ h => h) (Or.inl ⟨by rfl, ?_⟩) ?_ ?_
            rotate_left
            ·intro w'
             go_simp
             with_reducible rfl
            rotate_left
            ·simp only [Act.put, sl0, sl1, sl2, i64_w, i32_w]
             rfl
            refine pure_ (i := 22) (N := some 137) (v := ?_) (a' := ?_) (fl_ 23 20) rfl rfl (any_of HT_.out (by kernel_rfl)) (fun _ _ _ h => h) (Or.inl ⟨by rfl, ?_⟩) ?_ ?_
            rotate_left
            ·intro w'
             go_simp
             with_reducible rfl
            rotate_left
            ·simp only [Act.put, sl0, sl1, sl2, i64_w, i32_w]
             rfl
            refine pure_ (i := 23) (N := some 138) (v := ?_) (a' := ?_) (fl_ 24 19) rfl rfl (any_of HT_.out (by kernel_rfl)) (fun _ _ _ h => h) (Or.inl ⟨by rfl, ?_⟩) ?_ ?_
            rotate_left
            ·intro w'
             go_simp
             with_reducible rfl
            rotate_left
            ·simp only [Act.put, sl0, sl1, sl2, i64_w, i32_w]
             rfl
            refine pure_ (i := 24) (N := some 139) (v := ?_) (a' := ?_) (fl_ 25 18) rfl rfl (any_of HT_.out (by kernel_rfl)) (fun _ _ _ h => h) (Or.inl ⟨by rfl, ?_⟩) ?_ ?_
            rotate_left
            ·intro w'
             go_simp
             with_reducible rfl
            rotate_left
            ·simp only [Act.put, sl0, sl1, sl2, i64_w, i32_w]
             rfl
            refine pure_ (i := 25) (N := some 140) (v := ?_) (a' := ?_) (fl_ 26 17) rfl rfl (any_of HT_.out (by kernel_rfl)) (fun _ _ _ h => h) (Or.inl ⟨by rfl, ?_⟩) ?_ ?_
            rotate_left
            ·intro w'
             go_simp
             with_reducible rfl
            rotate_left
            ·simp only [Act.put, sl0, sl1, sl2, i64_w, i32_w]
             rfl
            refine pure_ (i := 26) (N := some 141) (v := ?_) (a' := ?_) (fl_ 27 16) rfl rfl (any_of HT_.out (by kernel_rfl)) (fun _ _ _ h => h) (Or.inl ⟨by rfl, ?_⟩) ?_ ?_
            rotate_left
            ·intro w'
             go_simp
             with_reducible rfl
            rotate_left
            ·simp only [Act.put, sl0, sl1, sl2, i64_w, i32_w]
             rfl
            refine pure_ (i := 27) (N := some 142) (v := ?_) (a' := ?_) (fl_ 28 15) rfl rfl (any_of HT_.out (by kernel_rfl)) (fun _ _ _ h => h) (Or.inl ⟨by rfl, ?_⟩) ?_ ?_
            rotate_left
            ·intro w'
             go_simp
             with_reducible rfl
            rotate_left
            ·simp only [Act.put, sl0, sl1, sl2, i64_w, i32_w]
             rfl
            refine pure_ (i := 29) (N := some 144) (v := ?_) (a' := ?_) #[Y,Y,Y,Y,Y,Y,Y,Y,Y,Y,Y,Y,Y,Y,Y,Y,Y,Y,Y,Y,Y,Y,Y,Y,Y,Y,Y,Y,Z,Y,Z,Z,Z,Z,Z,Z,Z,Z,Z,Z,Z,Z,Z] rfl rfl (any_of HT_.out (by kernel_rfl)) (fun _ _ _ h => h) (Or.inl ⟨by rfl, ?_⟩) ?_ ?_
            rotate_left
            ·intro w'
             go_simp
             with_reducible rfl
            rotate_left
            ·simp only [Act.put, sl0, sl1, sl2, i64_w, i32_w]
             rfl
            refine pure_ (i := 30) (N := some 145) (v := ?_) (a' := ?_) #[Y,Y,Y,Y,Y,Y,Y,Y,Y,Y,Y,Y,Y,Y,Y,Y,Y,Y,Y,Y,Y,Y,Y,Y,Y,Y,Y,Y,Z,Y,Y,Z,Z,Z,Z,Z,Z,Z,Z,Z,Z,Z,Z] rfl rfl (any_of HT_.out (by kernel_rfl)) (fun _ _ _ h => h) (Or.inl ⟨by rfl, ?_⟩) ?_ ?_
            rotate_left
            ·intro w'
             go_simp
             with_reducible rfl
            rotate_left
            ·simp only [Act.put, sl0, sl1, sl2, i64_w, i32_w]
             rfl
            refine pure_ (i := 31) (N := some 146) (v := ?_) (a' := ?_) #[Y,Y,Y,Y,Y,Y,Y,Y,Y,Y,Y,Y,Y,Y,Y,Y,Y,Y,Y,Y,Y,Y,Y,Y,Y,Y,Y,Y,Z,Y,Y,Y,Z,Z,Z,Z,Z,Z,Z,Z,Z,Z,Z] rfl rfl (any_of HT_.out (by kernel_rfl)) (fun _ _ _ h => h) (Or.inl ⟨by rfl, ?_⟩) ?_ ?_
            rotate_left
            ·intro w'
             go_simp
             with_reducible rfl
            rotate_left
            ·simp only [Act.put, sl0, sl1, sl2, i64_w, i32_w]
             rfl
            refine pure_ (i := 35) (N := some 150) (v := ?_) (a' := ?_) #[Y,Y,Y,Y,Y,Y,Y,Y,Y,Y,Y,Y,Y,Y,Y,Y,Y,Y,Y,Y,Y,Y,Y,Y,Y,Y,Y,Y,Z,Y,Y,Y,Z,Z,Z,Y,Z,Z,Z,Z,Z,Z,Z] rfl rfl (any_of HT_.out (by kernel_rfl)) (fun _ _ _ h => h) (Or.inl ⟨by rfl, ?_⟩) ?_ ?_
            rotate_left
            ·intro w'
             go_simp
             with_reducible rfl
            rotate_left
            ·simp only [Act.put, sl0, sl1, sl2, i64_w, i32_w]
             rfl
            refine pure_ (i := 36) (N := some 151) (v := ?_) (a' := ?_) #[Y,Y,Y,Y,Y,Y,Y,Y,Y,Y,Y,Y,Y,Y,Y,Y,Y,Y,Y,Y,Y,Y,Y,Y,Y,Y,Y,Y,Z,Y,Y,Y,Z,Z,Z,Y,Y,Z,Z,Z,Z,Z,Z] rfl rfl (any_of HT_.out (by kernel_rfl)) (fun _ _ _ h => h) (Or.inl ⟨by rfl, ?_⟩) ?_ ?_
            rotate_left
            ·intro w'
             go_simp
             with_reducible rfl
            rotate_left
            ·simp only [Act.put, sl0, sl1, sl2, i64_w, i32_w]
             rfl
            refine pure_ (i := 37) (N := some 152) (v := ?_) (a' := ?_) #[Y,Y,Y,Y,Y,Y,Y,Y,Y,Y,Y,Y,Y,Y,Y,Y,Y,Y,Y,Y,Y,Y,Y,Y,Y,Y,Y,Y,Z,Y,Y,Y,Z,Z,Z,Y,Y,Y,Z,Z,Z,Z,Z] rfl rfl (any_of HT_.out (by kernel_rfl)) (fun _ _ _ h => h) (Or.inl ⟨by rfl, ?_⟩) ?_ ?_
            rotate_left
            ·intro w'
             go_simp
             with_reducible rfl
            rotate_left
            ·simp only [Act.put, sl0, sl1, sl2, i64_w, i32_w]
             rfl
            refine take_ (i := 28) (N := some 143) (v := ?_) (a' := ?_) #[Y,Y,Y,Y,Y,Y,Y,Y,Y,Y,Y,Y,Y,Y,Y,Y,Y,Y,Y,Y,Y,Y,Y,Y,Y,Y,Y,Y,Y,Y,Y,Y,Z,Z,Z,Y,Y,Y,Z,Z,Z,Z,Z] rfl rfl (take_ofW HT_.out HW_.out (by kernel_rfl)) (fun _ _ _ h => h) (Or.inl ⟨by rfl, ?_⟩) hHeld ?_ ?_
            rotate_left
            ·rintro w' ⟨s0, s1, s2, s3, s4, s5, s6, s7, s8, s9, s10⟩
             go_simp
             with_reducible rfl
            rotate_left
            ·simp only [Act.put, sl0, sl1, sl2, i64_w, i32_w]
             rfl
            refine take_ (i := 32) (N := some 147) (v := ?_) (a' := ?_) #[Y,Y,Y,Y,Y,Y,Y,Y,Y,Y,Y,Y,Y,Y,Y,Y,Y,Y,Y,Y,Y,Y,Y,Y,Y,Y,Y,Y,Y,Y,Y,Y,Y,Z,Z,Y,Y,Y,Z,Z,Z,Z,Z] rfl rfl (take_ofW HT_.out HW_.out (by kernel_rfl)) (fun _ _ _ h => h) (Or.inl ⟨by rfl, ?_⟩) hHeld ?_ ?_
            rotate_left
            ·rintro w' ⟨s0, s1, s2, s3, s4, s5, s6, s7, s8, s9, s10⟩
             go_simp
             with_reducible rfl
            rotate_left
            ·simp only [Act.put, sl0, sl1, sl2, i64_w, i32_w]
             rfl
            refine pure_ (i := 33) (N := some 148) (v := ?_) (a' := ?_) #[Y,Y,Y,Y,Y,Y,Y,Y,Y,Y,Y,Y,Y,Y,Y,Y,Y,Y,Y,Y,Y,Y,Y,Y,Y,Y,Y,Y,Y,Y,Y,Y,Y,Y,Z,Y,Y,Y,Z,Z,Z,Z,Z] rfl rfl (any_of HT_.out (by kernel_rfl)) (fun _ _ _ h => h) (Or.inl ⟨by rfl, ?_⟩) ?_ ?_
            rotate_left
            ·intro w'
             go_simp
             with_reducible rfl
            rotate_left
            ·simp only [Act.put, sl0, sl1, sl2, i64_w, i32_w]
             rfl
            refine pure_ (i := 34) (N := some 149) (v := ?_) (a' := ?_) (fl_ 38 5) rfl rfl (any_of HT_.out (by kernel_rfl)) (fun _ _ _ h => h) (Or.inl ⟨by rfl, ?_⟩) ?_ ?_
            rotate_left
            ·intro w'
             go_simp
             with_reducible rfl
            rotate_left
            ·simp only [Act.put, sl0, sl1, sl2, i64_w, i32_w]
             rfl
            refine take_ (i := 38) (N := some 153) (v := ?_) (a' := ?_) (fl_ 39 4) rfl rfl (take_ofW HT_.out HW_.out (by kernel_rfl)) (fun _ _ _ h => h) (Or.inl ⟨by rfl, ?_⟩) hHeld ?_ ?_
            rotate_left
            ·rintro w' ⟨s0, s1, s2, s3, s4, s5, s6, s7, s8, s9, s10⟩
             go_simp
             with_reducible rfl
            rotate_left
            ·simp only [Act.put, sl0, sl1, sl2, i64_w, i32_w]
             rfl
            refine one_ (i := 39) (N := some 154) (fl_ 40 3) rfl rfl (one_of HT_.out (by kernel_rfl)) (by decide) (fun K hK => ?_)
            refine goes_ Try.func33 (by kernel_rfl) rfl #[.slice A263_0 y267.length c263_0, .slice A264_0 (rd_L3 t243 x8_2).length c264_0] (by rfl) rfl rfl (by (try simp only [List.map_toArray, List.map_cons, List.map_nil]); first | done | rfl | (simp only [List.length_drop, List.length_take]; rfl)) ?_
            with_reducible refine (hypercuberef1_Ints.calls kj40 _ _ y267 _ _ (rd_L3 t243 x8_2) false _ ?side1 ?side2 ?side3 ?side4 A56.out).mono ?_
            (case side1 => repeat (first | exact (by repeat (first | (with_reducible exact HR270.out) | (with_reducible refine Kd.C_alloc ?_ _) | (with_reducible refine Kd.C_drewN ?_ _) | (with_reducible refine Kd.C_drew ?_) | exact HR270.out)) | (with_reducible refine Kd.C_alloc ?_ _) | (with_reducible refine Kd.C_drewN ?_ _) | (with_reducible refine Kd.C_drew ?_)))
            (case side2 => exact HC270.out)
            (case side3 => repeat (first | exact (by repeat (first | (with_reducible exact HR271_0.out) | (with_reducible refine Kd.C_alloc ?_ _) | (with_reducible refine Kd.C_drewN ?_ _) | (with_reducible refine Kd.C_drew ?_) | exact HR271_0.out)) | (with_reducible refine Kd.C_alloc ?_ _) | (with_reducible refine Kd.C_drewN ?_ _) | (with_reducible refine Kd.C_drew ?_)))
            (case side4 => exact HC271_0.out)
            rintro e w' ⟨rfl, ⟨nd, rfl⟩⟩
            refine ⟨_, rfl, ?_⟩
            refine hK.out _ _ ⟨hHeld.1, hHeld.2.1, hHeld.2.2.1, hHeld.2.2.2.1, hHeld.2.2.2.2.1, hHeld.2.2.2.2.2.1, hHeld.2.2.2.2.2.2.1, hHeld.2.2.2.2.2.2.2.1, hHeld.2.2.2.2.2.2.2.2.1, hHeld.2.2.2.2.2.2.2.2.2.1, hHeld.2.2.2.2.2.2.2.2.2.2⟩ (fun hHeld => ?_)
            clear hK K
            refine norm_ (a' := ?_) ?_ ?_
            rotate_left
            ·show Act.put _ (some 154) _ = _
             simp only [Act.put, sl0, sl1, sl2, i64_w, i32_w]
             rfl
            refine pure_ (i := 40) (N := some 155) (v := ?_) (a' := ?_) (fl_ 41 2) rfl rfl (any_of HT_.out (by kernel_rfl)) (fun _ _ _ h => h) (Or.inl ⟨by rfl, ?_⟩) ?_ ?_
            rotate_left
            ·intro w'
             go_simp
             with_reducible rfl
            rotate_left
            ·simp only [Act.put, sl0, sl1, sl2, i64_w, i32_w]
             rfl
            refine pure_ (i := 41) (N := some 156) (v := ?_) (a' := ?_) (fl_ 42 1) rfl rfl (any_of HT_.out (by kernel_rfl)) (fun _ _ _ h => h) (Or.inl ⟨by rfl, ?_⟩) ?_ ?_
            rotate_left
            ·intro w'
             go_simp
             with_reducible rfl
            rotate_left
            ·simp only [Act.put, sl0, sl1, sl2, i64_w, i32_w]
             rfl
            refine pure_ (i := 42) (N := some 157) (v := ?_) (a' := ?_) (fl_ 43 0) rfl rfl (any_of HT_.out (by kernel_rfl)) (fun _ _ _ h => h) (Or.inl ⟨by rfl, ?_⟩) ?_ ?_
            rotate_left
            ·intro w'
             go_simp
             with_reducible rfl
            rotate_left
            ·simp only [Act.put, sl0, sl1, sl2, i64_w, i32_w]
             rfl
            refine done_ (done_of HT_.out (by kernel_rfl)) ?_
            try go_wp2
            go_ret
            exact ⟨by first | rfl | (simp [errW_none, errW_some] <;> rfl) | (simp [*, errW_none, errW_some] <;> rfl), by repeat (first | (with_reducible first | exact HB.out | apply below_alloc | apply pw_below_drewN | apply below_drew1) | exact HB.out)⟩
           subst c57
           have H1 : (hypercubelaw10_SortsOrders.l2 kj40 (wrap64 (1 + t239)) t240 t243 x8_2 (wrap64 (x11_4 + 1))) = some r := by rw [if_pos rfl] at H; exact H
           clear H
           have H := H1
           clear H1
           have H' := Aside0.mk H
           clear H
           try go_wp2
           have n0_ := Aside0.mk (Kd.R_drew HO_6.out)
           have n1_ := Aside0.mk (Kd.S_drew HO_7.out)
           have n2_ := Aside0.mk (Kd.C_drew HR250_0.out)
           have n3_ := Aside0.mk (below_drew1 HB.out)
           clear HO_6
           clear HO_7
           clear HR250_0
           clear HB
           have HO_6 := n0_
           have HO_7 := n1_
           have HR250_0 := n2_
           have HB := n3_
           clear n0_ n1_ n2_ n3_
           have p261 : 0 ≤ (x11_4 : Int) := od_
           have q261 : x11_4 < (t240.length : Int) := od_
           obtain ⟨ad261, e261, hx261_0, hx261_1, hx261_2⟩ := at_T49 (Kd.R_reads' HO_6.out).2.2 x11_4 p261 q261
           obtain rfl : ad259 = ad261 := (by injection e261)
           replace p261 := eq_true p261
           replace q261 := eq_true q261
           have p262 : 0 ≤ (x8_2 : Int) := od_
           have q262 : x8_2 < (t240.length : Int) := od_
           obtain ⟨ad262, e262, hx262_0, hx262_1, hx262_2⟩ := at_T49 (Kd.R_reads' HO_6.out).2.2 x8_2 p262 q262
           obtain rfl : ad259 = ad262 := (by injection e262)
           replace p262 := eq_true p262
           replace q262 := eq_true q262
           have p263 : 0 ≤ (x11_4 : Int) := od_
           have q263 : x11_4 < (t243.length : Int) := od_
           obtain ⟨ad263, A263_0, c263_0, e263, hx263_0, hl263_0, hi263_0⟩ := at_L3 (Kd.S_reads' HO_7.out).2.2 x11_4 p263 q263
           obtain rfl : ad250 = ad263 := (by injection e263)
           obtain ⟨ce263, hce263, hMe263, hcc263⟩ := Kd.S_get HO_7.out [] x11_4 p263 (by first | exact q263 | exact of_decide_eq_true (by first | (with_reducible assumption) | assumption) | (have e_ := (Kd.S_reads' HO_7.out).1; omega))
           obtain ⟨ve263_0, rfl, ge263_0⟩ := hMe263
           have hv263_0 := hcc263 0 _ rfl
           rw [Nat.add_zero, show ((Kd.slice 3 (Kd.int .i64))).sz = 1 from rfl, Nat.mul_one] at hv263_0
           replace hv263_0 := Option.some.inj (hv263_0.symm.trans hx263_0)
           rw [hv263_0] at ge263_0
           have HL263_0 := Aside0.mk (show Kd.R (Kd.int .i64) 3 _ _ _ _ (rd_L3 t243 x11_4) from ge263_0)
           clear hv263_0 ge263_0
           clear hcc263 hce263
           have HR263_0 := Aside0.mk hi263_0
           have HC263_0 := Aside0.mk hl263_0
           clear hi263_0 hl263_0
           replace p263 := eq_true p263
           replace q263 := eq_true q263
           have p264 : 0 ≤ (x8_2 : Int) := od_
           have q264 : x8_2 < (t243.length : Int) := od_
           obtain ⟨ad264, A264_0, c264_0, e264, hx264_0, hl264_0, hi264_0⟩ := at_L3 (Kd.S_reads' HO_7.out).2.2 x8_2 p264 q264
           obtain rfl : ad250 = ad264 := (by injection e264)
           obtain ⟨ce264, hce264, hMe264, hcc264⟩ := Kd.S_get HO_7.out [] x8_2 p264 (by first | exact q264 | exact of_decide_eq_true (by first | (with_reducible assumption) | assumption) | (have e_ := (Kd.S_reads' HO_7.out).1; omega))
           obtain ⟨ve264_0, rfl, ge264_0⟩ := hMe264
           have hv264_0 := hcc264 0 _ rfl
           rw [Nat.add_zero, show ((Kd.slice 3 (Kd.int .i64))).sz = 1 from rfl, Nat.mul_one] at hv264_0
           replace hv264_0 := Option.some.inj (hv264_0.symm.trans hx264_0)
           rw [hv264_0] at ge264_0
           have HL264_0 := Aside0.mk (show Kd.R (Kd.int .i64) 3 _ _ _ _ (rd_L3 t243 x8_2) from ge264_0)
           clear hv264_0 ge264_0
           clear hcc264 hce264
           have HR264_0 := Aside0.mk hi264_0
           have HC264_0 := Aside0.mk hl264_0
           clear hi264_0 hl264_0
           replace p264 := eq_true p264
           replace q264 := eq_true q264
           have p265 : 0 ≤ (x11_4 : Int) := od_
           have q265 : x11_4 < (t243.length : Int) := od_
           obtain ⟨ad265, A265_0, c265_0, e265, hx265_0, hl265_0, hi265_0⟩ := at_L3 (Kd.S_reads' HO_7.out).2.2 x11_4 p265 q265
           obtain rfl : ad250 = ad265 := (by injection e265)
           obtain ⟨ce265, hce265, hMe265, hcc265⟩ := Kd.S_get HO_7.out [] x11_4 p265 (by first | exact q265 | exact of_decide_eq_true (by first | (with_reducible assumption) | assumption) | (have e_ := (Kd.S_reads' HO_7.out).1; omega))
           obtain ⟨ve265_0, rfl, ge265_0⟩ := hMe265
           have hv265_0 := hcc265 0 _ rfl
           rw [Nat.add_zero, show ((Kd.slice 3 (Kd.int .i64))).sz = 1 from rfl, Nat.mul_one] at hv265_0
           replace hv265_0 := Option.some.inj (hv265_0.symm.trans hx265_0)
           rw [hv265_0] at ge265_0
           have HL265_0 := Aside0.mk (show Kd.R (Kd.int .i64) 3 _ _ _ _ (rd_L3 t243 x11_4) from ge265_0)
           clear hv265_0 ge265_0
           clear hcc265 hce265
           have HR265_0 := Aside0.mk hi265_0
           have HC265_0 := Aside0.mk hl265_0
           clear hi265_0 hl265_0
           replace p265 := eq_true p265
           replace q265 := eq_true q265
           have ea_ := Option.some.inj (hx263_0.symm.trans hx265_0)
           injection ea_ with ea_ en_ ec_
           subst ea_
           subst ec_
           clear en_
           have p266 : 0 ≤ (x8_2 : Int) := od_
           have q266 : x8_2 < (t243.length : Int) := od_
           obtain ⟨ad266, A266_0, c266_0, e266, hx266_0, hl266_0, hi266_0⟩ := at_L3 (Kd.S_reads' HO_7.out).2.2 x8_2 p266 q266
           obtain rfl : ad250 = ad266 := (by injection e266)
           obtain ⟨ce266, hce266, hMe266, hcc266⟩ := Kd.S_get HO_7.out [] x8_2 p266 (by first | exact q266 | exact of_decide_eq_true (by first | (with_reducible assumption) | assumption) | (have e_ := (Kd.S_reads' HO_7.out).1; omega))
           obtain ⟨ve266_0, rfl, ge266_0⟩ := hMe266
           have hv266_0 := hcc266 0 _ rfl
           rw [Nat.add_zero, show ((Kd.slice 3 (Kd.int .i64))).sz = 1 from rfl, Nat.mul_one] at hv266_0
           replace hv266_0 := Option.some.inj (hv266_0.symm.trans hx266_0)
           rw [hv266_0] at ge266_0
           have HL266_0 := Aside0.mk (show Kd.R (Kd.int .i64) 3 _ _ _ _ (rd_L3 t243 x8_2) from ge266_0)
           clear hv266_0 ge266_0
           clear hcc266 hce266
           have HR266_0 := Aside0.mk hi266_0
           have HC266_0 := Aside0.mk hl266_0
           clear hi266_0 hl266_0
           replace p266 := eq_true p266
           replace q266 := eq_true q266
           have ea_ := Option.some.inj (hx264_0.symm.trans hx266_0)
           injection ea_ with ea_ en_ ec_
           subst ea_
           subst ec_
           clear en_
           have q59 : (((rd_L3 t243 x8_2).length : Int) : Int) ≤ (((rd_L3 t243 x11_4).length : Int) : Int) := od_
           obtain ⟨i059, hi059, _, hsz59, _⟩ := info_parts info3
           have hroom59 : (rd_L3 t243 x11_4).length ≤ c263_0 := HC265_0.out
           have hC59 : Kd.C (Kd.int .i64) _ A263_0 (rd_L3 t243 x11_4).length (rd_L3 t243 x11_4) := (by repeat (first | (with_reducible exact HR265_0.out) | (with_reducible refine Kd.C_alloc ?_ _) | (with_reducible refine Kd.C_drewN ?_ _) | (with_reducible refine Kd.C_drew ?_) | exact HR265_0.out))
           have hcut59 := cut_to (P := Try.prog) 24 3 .i64 Try.underlying24 hi059 A263_0 (rd_L3 t243 x11_4).length c263_0 ((rd_L3 t243 x8_2).length : Int) (of_decide_eq_true (by first | (with_reducible assumption) | assumption)) q59 hroom59
           have hr59 := Kd.C_take (m := (((rd_L3 t243 x8_2).length : Int) : Int).toNat) hC59 (by omega)
           have hy59 : y267.length = (((rd_L3 t243 x8_2).length : Int) : Int).toNat := (by rw [Ny267.out, List.length_take]; omega)
           rw [← Ny267.out] at hr59
           rw [← hy59] at hcut59
           have HR270 := Aside0.mk hr59
           have HC270 := Aside0.mk (show y267.length ≤ c263_0 from by omega)
           clear hr59 hC59 hroom59 hi059 hsz59
           have KY59 := Aside0.mk hy59
           clear hy59
           replace q59 := eq_true q59
           have p271 : 0 ≤ (x8_2 : Int) := od_
           have q271 : x8_2 < (t243.length : Int) := od_
           obtain ⟨ad271, A271_0, c271_0, e271, hx271_0, hl271_0, hi271_0⟩ := at_L3 (Kd.S_reads' HO_7.out).2.2 x8_2 p271 q271
           obtain rfl : ad250 = ad271 := (by injection e271)
           obtain ⟨ce271, hce271, hMe271, hcc271⟩ := Kd.S_get HO_7.out [] x8_2 p271 (by first | exact q271 | exact of_decide_eq_true (by first | (with_reducible assumption) | assumption) | (have e_ := (Kd.S_reads' HO_7.out).1; omega))
           obtain ⟨ve271_0, rfl, ge271_0⟩ := hMe271
           have hv271_0 := hcc271 0 _ rfl
           rw [Nat.add_zero, show ((Kd.slice 3 (Kd.int .i64))).sz = 1 from rfl, Nat.mul_one] at hv271_0
           replace hv271_0 := Option.some.inj (hv271_0.symm.trans hx271_0)
           rw [hv271_0] at ge271_0
           have HL271_0 := Aside0.mk (show Kd.R (Kd.int .i64) 3 _ _ _ _ (rd_L3 t243 x8_2) from ge271_0)
           clear hv271_0 ge271_0
           clear hcc271 hce271
           have HR271_0 := Aside0.mk hi271_0
           have HC271_0 := Aside0.mk hl271_0
           clear hi271_0 hl271_0
           replace p271 := eq_true p271
           replace q271 := eq_true q271
           have ea_ := Option.some.inj (hx264_0.symm.trans hx271_0)
           injection ea_ with ea_ en_ ec_
           subst ea_
           subst ec_
           clear en_
           refine start_ (n := 43) (S := fun w' => w'.cell? (ad259.add ((x11_4).toNat * 3)) = some (.int .i64 ((rd_T49 t240 x11_4).f0)) ∧ w'.cell? ⟨(ad259.add ((x11_4).toNat * 3)).block, (ad259.add ((x11_4).toNat * 3)).off + 1, none⟩ = some (.int .i64 ((rd_T49 t240 x11_4).f1)) ∧ w'.cell? ⟨(ad259.add ((x11_4).toNat * 3)).block, (ad259.add ((x11_4).toNat * 3)).off + 2, none⟩ = some (.bool ((rd_T49 t240 x11_4).f2)) ∧ w'.cell? (ad259.add ((x8_2).toNat * 3)) = some (.int .i64 ((rd_T49 t240 x8_2).f0)) ∧ w'.cell? ⟨(ad259.add ((x8_2).toNat * 3)).block, (ad259.add ((x8_2).toNat * 3)).off + 1, none⟩ = some (.int .i64 ((rd_T49 t240 x8_2).f1)) ∧ w'.cell? ⟨(ad259.add ((x8_2).toNat * 3)).block, (ad259.add ((x8_2).toNat * 3)).off + 2, none⟩ = some (.bool ((rd_T49 t240 x8_2).f2)) ∧ w'.cell? (ad250.add (x11_4).toNat) = some (.slice A263_0 (rd_L3 t243 x11_4).length c263_0) ∧ w'.cell? (ad250.add (x8_2).toNat) = some (.slice A264_0 (rd_L3 t243 x8_2).length c264_0) ∧ w'.cell? (ad250.add (x11_4).toNat) = some (.slice A263_0 (rd_L3 t243 x11_4).length c263_0) ∧ w'.cell? (ad250.add (x8_2).toNat) = some (.slice A264_0 (rd_L3 t243 x8_2).length c264_0) ∧ w'.cell? (ad250.add (x8_2).toNat) = some (.slice A264_0 (rd_L3 t243 x8_2).length c264_0)) (ds := []) (fl_ 0 43) (by kernel_rfl) rfl rfl ⟨hx261_0, hx261_1, hx261_2, hx262_0, hx262_1, hx262_2, hx263_0, hx264_0, hx265_0, hx266_0, hx271_0⟩ (fun hHeld => ?_); refine with_tabW hypercubelaw10_SortsOrders.tab23 hypercubelaw10_SortsOrders.bits23 (fun HT_ HW_ => ?_)
           generalize wc.drew = w58 at HO_6 HO_7 HR250_0 HB HL263_0 HL264_0 HL265_0 HL266_0 HL271_0 HR263_0 HR264_0 HR265_0 HR266_0 HR270 HR271_0 hx261_0 hx261_1 hx261_2 hx262_0 hx262_1 hx262_2 hx263_0 hx264_0 hx265_0 hx266_0 hx271_0 hHeld ⊢
           refine pure_ (i := 0) (N := some 115) (v := ?_) (a' := ?_) (fl_ 1 42) rfl rfl (any_of HT_.out (by kernel_rfl)) (fun _ _ _ h => h) (Or.inl ⟨by rfl, ?_⟩) ?_ ?_
           rotate_left
           ·intro w'
            go_simp
            with_reducible rfl
           rotate_left
           ·simp only [Act.put, sl0, sl1, sl2, i64_w, i32_w]
            rfl
           refine pure_ (i := 1) (N := some 116) (v := ?_) (a' := ?_) (fl_ 2 41) rfl rfl (any_of HT_.out (by kernel_rfl)) (fun _ _ _ h => h) (Or.inl ⟨by rfl, ?_⟩) ?_ ?_
           rotate_left
           ·intro w'
            go_simp
            with_reducible rfl
           rotate_left
           ·simp only [Act.put, sl0, sl1, sl2, i64_w, i32_w]
            rfl
           refine pure_ (i := 2) (N := some 117) (v := ?_) (a' := ?_) (fl_ 3 40) rfl rfl (any_of HT_.out (by kernel_rfl)) (fun _ _ _ h => h) (Or.inl ⟨by rfl, ?_⟩) ?_ ?_
           rotate_left
           ·intro w'
            go_simp
            with_reducible rfl
           rotate_left
           ·simp only [Act.put, sl0, sl1, sl2, i64_w, i32_w]
            rfl
           refine pure_ (i := 3) (N := some 118) (v := ?_) (a' := ?_) (fl_ 4 39) rfl rfl (any_of HT_.out (by kernel_rfl)) (fun _ _ _ h => h) (Or.inl ⟨by rfl, ?_⟩) ?_ ?_
           rotate_left
           ·intro w'
            go_simp
            with_reducible rfl
           rotate_left
           ·simp only [Act.put, sl0, sl1, sl2, i64_w, i32_w]
            rfl
           refine pure_ (i := 5) (N := some 120) (v := ?_) (a' := ?_) #[Y,Y,Y,Y,Z,Y,Z,Z,Z,Z,Z,Z,Z,Z,Z,Z,Z,Z,Z,Z,Z,Z,Z,Z,Z,Z,Z,Z,Z,Z,Z,Z,Z,Z,Z,Z,Z,Z,Z,Z,Z,Z,Z] rfl rfl (any_of HT_.out (by kernel_rfl)) (fun _ _ _ h => h) (Or.inl ⟨by rfl, ?_⟩) ?_ ?_
           rotate_left
           ·intro w'
            go_simp
            with_reducible rfl
           rotate_left
           ·simp only [Act.put, sl0, sl1, sl2, i64_w, i32_w]
            rfl
           refine pure_ (i := 6) (N := some 121) (v := ?_) (a' := ?_) #[Y,Y,Y,Y,Z,Y,Y,Z,Z,Z,Z,Z,Z,Z,Z,Z,Z,Z,Z,Z,Z,Z,Z,Z,Z,Z,Z,Z,Z,Z,Z,Z,Z,Z,Z,Z,Z,Z,Z,Z,Z,Z,Z] rfl rfl (any_of HT_.out (by kernel_rfl)) (fun _ _ _ h => h) (Or.inl ⟨by rfl, ?_⟩) ?_ ?_
           rotate_left
           ·intro w'
            go_simp
            with_reducible rfl
           rotate_left
           ·simp only [Act.put, sl0, sl1, sl2, i64_w, i32_w]
            rfl
           refine pure_ (i := 7) (N := some 122) (v := ?_) (a' := ?_) #[Y,Y,Y,Y,Z,Y,Y,Y,Z,Z,Z,Z,Z,Z,Z,Z,Z,Z,Z,Z,Z,Z,Z,Z,Z,Z,Z,Z,Z,Z,Z,Z,Z,Z,Z,Z,Z,Z,Z,Z,Z,Z,Z] rfl rfl (any_of HT_.out (by kernel_rfl)) (fun _ _ _ h => h) (Or.inl ⟨by rfl, ?_⟩) ?_ ?_
           rotate_left
           ·intro w'
            go_simp
            with_reducible rfl
           rotate_left
           ·simp only [Act.put, sl0, sl1, sl2, i64_w, i32_w]
            rfl
           refine pure_ (i := 8) (N := some 123) (v := ?_) (a' := ?_) #[Y,Y,Y,Y,Z,Y,Y,Y,Y,Z,Z,Z,Z,Z,Z,Z,Z,Z,Z,Z,Z,Z,Z,Z,Z,Z,Z,Z,Z,Z,Z,Z,Z,Z,Z,Z,Z,Z,Z,Z,Z,Z,Z] rfl rfl (any_of HT_.out (by kernel_rfl)) (fun _ _ _ h => h) (Or.inl ⟨by rfl, ?_⟩) ?_ ?_
           rotate_left
           ·intro w'
            go_simp
            with_reducible rfl
           rotate_left
           ·simp only [Act.put, sl0, sl1, sl2, i64_w, i32_w]
            rfl
           refine take_ (i := 4) (N := some 119) (v := ?_) (a' := ?_) (fl_ 9 34) rfl rfl (take_ofW HT_.out HW_.out (by kernel_rfl)) (fun _ _ _ h => h) (Or.inl ⟨by rfl, ?_⟩) hHeld ?_ ?_
           rotate_left
           ·rintro w' ⟨s0, s1, s2, s3, s4, s5, s6, s7, s8, s9, s10⟩
            go_simp
            with_reducible rfl
           rotate_left
           ·simp only [Act.put, sl0, sl1, sl2, i64_w, i32_w]
            rfl
           refine take_ (i := 9) (N := some 124) (v := ?_) (a' := ?_) (fl_ 10 33) rfl rfl (take_ofW HT_.out HW_.out (by kernel_rfl)) (fun _ _ _ h => h) (Or.inl ⟨by rfl, ?_⟩) hHeld ?_ ?_
           rotate_left
           ·rintro w' ⟨s0, s1, s2, s3, s4, s5, s6, s7, s8, s9, s10⟩
            go_simp
            with_reducible rfl
           rotate_left
           ·simp only [Act.put, sl0, sl1, sl2, i64_w, i32_w]
            rfl
           refine pure_ (i := 10) (N := some 125) (v := ?_) (a' := ?_) (fl_ 11 32) rfl rfl (any_of HT_.out (by kernel_rfl)) (fun _ _ _ h => h) (Or.inl ⟨by rfl, ?_⟩) ?_ ?_
           rotate_left
           ·intro w'
            go_simp
            with_reducible rfl
           rotate_left
           ·simp only [Act.put, sl0, sl1, sl2, i64_w, i32_w]
            rfl
           refine pure_ (i := 11) (N := some 126) (v := ?_) (a' := ?_) (fl_ 12 31) rfl rfl (any_of HT_.out (by kernel_rfl)) (fun _ _ _ h => h) (Or.inl ⟨by rfl, ?_⟩) ?_ ?_
           rotate_left
           ·intro w'
            go_simp
            with_reducible rfl
           rotate_left
           ·simp only [Act.put, sl0, sl1, sl2, i64_w, i32_w]
            rfl
           refine pure_ (i := 12) (N := some 127) (v := ?_) (a' := ?_) (fl_ 13 30) rfl rfl (any_of HT_.out (by kernel_rfl)) (fun _ _ _ h => h) (Or.inl ⟨by rfl, ?_⟩) ?_ ?_
           rotate_left
           ·intro w'
            go_simp
            with_reducible rfl
           rotate_left
           ·simp only [Act.put, sl0, sl1, sl2, i64_w, i32_w]
            rfl
           refine pure_ (i := 13) (N := some 128) (v := ?_) (a' := ?_) (fl_ 14 29) rfl rfl (any_of HT_.out (by kernel_rfl)) (fun _ _ _ h => h) (Or.inl ⟨by rfl, ?_⟩) ?_ ?_
           rotate_left
           ·intro w'
            go_simp
            with_reducible rfl
           rotate_left
           ·simp only [Act.put, sl0, sl1, sl2, i64_w, i32_w]
            rfl
           refine pure_ (i := 14) (N := some 129) (v := ?_) (a' := ?_) (fl_ 15 28) rfl rfl (any_of HT_.out (by kernel_rfl)) (fun _ _ _ h => h) (Or.inl ⟨by rfl, ?_⟩) ?_ ?_
           rotate_left
           ·intro w'
            go_simp
            with_reducible rfl
           rotate_left
           ·simp only [Act.put, sl0, sl1, sl2, i64_w, i32_w]
            rfl
           refine pure_ (i := 17) (N := some 132) (v := ?_) (a' := ?_) #[Y,Y,Y,Y,Y,Y,Y,Y,Y,Y,Y,Y,Y,Y,Y,Z,Z,Y,Z,Z,Z,Z,Z,Z,Z,Z,Z,Z,Z,Z,Z,Z,Z,Z,Z,Z,Z,Z,Z,Z,Z,Z,Z] rfl rfl (any_of HT_.out (by kernel_rfl)) (fun _ _ _ h => h) (Or.inl ⟨by rfl, ?_⟩) ?_ ?_
           rotate_left
           ·intro w'
            go_simp
            with_reducible rfl
           rotate_left
           ·simp only [Act.put, sl0, sl1, sl2, i64_w, i32_w]
            rfl
           refine pure_ (i := 18) (N := some 133) (v := ?_) (a' := ?_) #[Y,Y,Y,Y,Y,Y,Y,Y,Y,Y,Y,Y,Y,Y,Y,Z,Z,Y,Y,Z,Z,Z,Z,Z,Z,Z,Z,Z,Z,Z,Z,Z,Z,Z,Z,Z,Z,Z,Z,Z,Z,Z,Z] rfl rfl (any_of HT_.out (by kernel_rfl)) (fun _ _ _ h => h) (Or.inl ⟨by rfl, ?_⟩) ?_ ?_
           rotate_left
           ·intro w'
            go_simp
            with_reducible rfl
           rotate_left
           ·simp only [Act.put, sl0, sl1, sl2, i64_w, i32_w]
            rfl
           refine pure_ (i := 19) (N := some 134) (v := ?_) (a' := ?_) #[Y,Y,Y,Y,Y,Y,Y,Y,Y,Y,Y,Y,Y,Y,Y,Z,Z,Y,Y,Y,Z,Z,Z,Z,Z,Z,Z,Z,Z,Z,Z,Z,Z,Z,Z,Z,Z,Z,Z,Z,Z,Z,Z] rfl rfl (any_of HT_.out (by kernel_rfl)) (fun _ _ _ h => h) (Or.inl ⟨by rfl, ?_⟩) ?_ ?_
           rotate_left
           ·intro w'
            go_simp
            with_reducible rfl
           rotate_left
           ·simp only [Act.put, sl0, sl1, sl2, i64_w, i32_w]
            rfl
           refine take_ (i := 15) (N := some 130) (v := ?_) (a' := ?_) #[Y,Y,Y,Y,Y,Y,Y,Y,Y,Y,Y,Y,Y,Y,Y,Y,Z,Y,Y,Y,Z,Z,Z,Z,Z,Z,Z,Z,Z,Z,Z,Z,Z,Z,Z,Z,Z,Z,Z,Z,Z,Z,Z] rfl rfl (take_ofW HT_.out HW_.out (by kernel_rfl)) (fun _ _ _ h => h) (Or.inl ⟨by rfl, ?_⟩) hHeld ?_ ?_
           rotate_left
           ·rintro w' ⟨s0, s1, s2, s3, s4, s5, s6, s7, s8, s9, s10⟩
            go_simp
            with_reducible rfl
           rotate_left
           ·simp only [Act.put, sl0, sl1, sl2, i64_w, i32_w]
            rfl
           refine pure_ (i := 16) (N := some 131) (v := ?_) (a' := ?_) (fl_ 20 23) rfl rfl (any_of HT_.out (by kernel_rfl)) (fun _ _ _ h => h) (Or.inl ⟨by rfl, ?_⟩) ?_ ?_
           rotate_left
           ·intro w'
            go_simp
            with_reducible rfl
           rotate_left
           ·simp only [Act.put, sl0, sl1, sl2, i64_w, i32_w]
            rfl
           refine take_ (i := 20) (N := some 135) (v := ?_) (a' := ?_) (fl_ 21 22) rfl rfl (take_ofW HT_.out HW_.out (by kernel_rfl)) (fun _ _ _ h => h) (Or.inl ⟨by rfl, ?_⟩) hHeld ?_ ?_
           rotate_left
           ·rintro w' ⟨s0, s1, s2, s3, s4, s5, s6, s7, s8, s9, s10⟩
            go_simp
            with_reducible rfl
           rotate_left
           ·simp only [Act.put, sl0, sl1, sl2, i64_w, i32_w]
            rfl
           refine pure_ (i := 21) (N := some 136) (v := ?_) (a' := ?_) (fl_ 22 21) rfl rfl (any_of HT_.out (by kernel_rfl)) (fun _ _ _ h => h) (Or.inl ⟨by rfl, ?_⟩) ?_ ?_
           rotate_left
           ·intro w'
            go_simp
            with_reducible rfl
           rotate_left
           ·simp only [Act.put, sl0, sl1, sl2, i64_w, i32_w]
            rfl
           refine pure_ (i := 22) (N := some 137) (v := ?_) (a' := ?_) (fl_ 23 20) rfl rfl (any_of HT_.out (by kernel_rfl)) (fun _ _ _ h => h) (Or.inl ⟨by rfl, ?_⟩) ?_ ?_
           rotate_left
           ·intro w'
            go_simp
            with_reducible rfl
           rotate_left
           ·simp only [Act.put, sl0, sl1, sl2, i64_w, i32_w]
            rfl
           refine pure_ (i := 23) (N := some 138) (v := ?_) (a' := ?_) (fl_ 24 19) rfl rfl (any_of HT_.out (by kernel_rfl)) (fun _ _ _ h => h) (Or.inl ⟨by rfl, ?_⟩) ?_ ?_
           rotate_left
           ·intro w'
            go_simp
            with_reducible rfl
           rotate_left
           ·simp only [Act.put, sl0, sl1, sl2, i64_w, i32_w]
            rfl
           refine pure_ (i := 24) (N := some 139) (v := ?_) (a' := ?_) (fl_ 25 18) rfl rfl (any_of HT_.out (by kernel_rfl)) (fun _ _ _ h => h) (Or.inl ⟨by rfl, ?_⟩) ?_ ?_
           rotate_left
           ·intro w'
            go_simp
            with_reducible rfl
           rotate_left
           ·simp only [Act.put, sl0, sl1, sl2, i64_w, i32_w]
            rfl
           refine pure_ (i := 25) (N := some 140) (v := ?_) (a' := ?_) (fl_ 26 17) rfl rfl (any_of HT_.out (by kernel_rfl)) (fun _ _ _ h => h) (Or.inl ⟨by rfl, ?_⟩) ?_ ?_
           rotate_left
           ·intro w'
            go_simp
            with_reducible rfl
           rotate_left
           ·simp only [Act.put, sl0, sl1, sl2, i64_w, i32_w]
            rfl
           refine pure_ (i := 26) (N := some 141) (v := ?_) (a' := ?_) (fl_ 27 16) rfl rfl (any_of HT_.out (by kernel_rfl)) (fun _ _ _ h => h) (Or.inl ⟨by rfl, ?_⟩) ?_ ?_
           rotate_left
           ·intro w'
            go_simp
            with_reducible rfl
           rotate_left
           ·simp only [Act.put, sl0, sl1, sl2, i64_w, i32_w]
            rfl
           refine pure_ (i := 27) (N := some 142) (v := ?_) (a' := ?_) (fl_ 28 15) rfl rfl (any_of HT_.out (by kernel_rfl)) (fun _ _ _ h => h) (Or.inl ⟨by rfl, ?_⟩) ?_ ?_
           rotate_left
           ·intro w'
            go_simp
            with_reducible rfl
           rotate_left
           ·simp only [Act.put, sl0, sl1, sl2, i64_w, i32_w]
            rfl
           refine pure_ (i := 29) (N := some 144) (v := ?_) (a' := ?_) #[Y,Y,Y,Y,Y,Y,Y,Y,Y,Y,Y,Y,Y,Y,Y,Y,Y,Y,Y,Y,Y,Y,Y,Y,Y,Y,Y,Y,Z,Y,Z,Z,Z,Z,Z,Z,Z,Z,Z,Z,Z,Z,Z] rfl rfl (any_of HT_.out (by kernel_rfl)) (fun _ _ _ h => h) (Or.inl ⟨by rfl, ?_⟩) ?_ ?_
           rotate_left
           ·intro w'
            go_simp
            with_reducible rfl
           rotate_left
           ·simp only [Act.put, sl0, sl1, sl2, i64_w, i32_w]
            rfl
           refine pure_ (i := 30) (N := some 145) (v := ?_) (a' := ?_) #[Y,Y,Y,Y,Y,Y,Y,Y,Y,Y,Y,Y,Y,Y,Y,Y,Y,Y,Y,Y,Y,Y,Y,Y,Y,Y,Y,Y,Z,Y,Y,Z,Z,Z,Z,Z,Z,Z,Z,Z,Z,Z,Z] rfl rfl (any_of HT_.out (by kernel_rfl)) (fun _ _ _ h => h) (Or.inl ⟨by rfl, ?_⟩) ?_ ?_
           rotate_left
           ·intro w'
            go_simp
            with_reducible rfl
           rotate_left
           ·simp only [Act.put, sl0, sl1, sl2, i64_w, i32_w]
            rfl
           refine pure_ (i := 31) (N := some 146) (v := ?_) (a' := ?_) #[Y,Y,Y,Y,Y,Y,Y,Y,Y,Y,Y,Y,Y,Y,Y,Y,Y,Y,Y,Y,Y,Y,Y,Y,Y,Y,Y,Y,Z,Y,Y,Y,Z,Z,Z,Z,Z,Z,Z,Z,Z,Z,Z] rfl rfl (any_of HT_.out (by kernel_rfl)) (fun _ _ _ h => h) (Or.inl ⟨by rfl, ?_⟩) ?_ ?_
           rotate_left
           ·intro w'
            go_simp
            with_reducible rfl
           rotate_left
           ·simp only [Act.put, sl0, sl1, sl2, i64_w, i32_w]
            rfl
           refine pure_ (i := 35) (N := some 150) (v := ?_) (a' := ?_) #[Y,Y,Y,Y,Y,Y,Y,Y,Y,Y,Y,Y,Y,Y,Y,Y,Y,Y,Y,Y,Y,Y,Y,Y,Y,Y,Y,Y,Z,Y,Y,Y,Z,Z,Z,Y,Z,Z,Z,Z,Z,Z,Z] rfl rfl (any_of HT_.out (by kernel_rfl)) (fun _ _ _ h => h) (Or.inl ⟨by rfl, ?_⟩) ?_ ?_
           rotate_left
           ·intro w'
            go_simp
            with_reducible rfl
           rotate_left
           ·simp only [Act.put, sl0, sl1, sl2, i64_w, i32_w]
            rfl
           refine pure_ (i := 36) (N := some 151) (v := ?_) (a' := ?_) #[Y,Y,Y,Y,Y,Y,Y,Y,Y,Y,Y,Y,Y,Y,Y,Y,Y,Y,Y,Y,Y,Y,Y,Y,Y,Y,Y,Y,Z,Y,Y,Y,Z,Z,Z,Y,Y,Z,Z,Z,Z,Z,Z] rfl rfl (any_of HT_.out (by kernel_rfl)) (fun _ _ _ h => h) (Or.inl ⟨by rfl, ?_⟩) ?_ ?_
           rotate_left
           ·intro w'
            go_simp
            with_reducible rfl
           rotate_left
           ·simp only [Act.put, sl0, sl1, sl2, i64_w, i32_w]
            rfl
           refine pure_ (i := 37) (N := some 152) (v := ?_) (a' := ?_) #[Y,Y,Y,Y,Y,Y,Y,Y,Y,Y,Y,Y,Y,Y,Y,Y,Y,Y,Y,Y,Y,Y,Y,Y,Y,Y,Y,Y,Z,Y,Y,Y,Z,Z,Z,Y,Y,Y,Z,Z,Z,Z,Z] rfl rfl (any_of HT_.out (by kernel_rfl)) (fun _ _ _ h => h) (Or.inl ⟨by rfl, ?_⟩) ?_ ?_
           rotate_left
           ·intro w'
            go_simp
            with_reducible rfl
           rotate_left
           ·simp only [Act.put, sl0, sl1, sl2, i64_w, i32_w]
            rfl
           refine take_ (i := 28) (N := some 143) (v := ?_) (a' := ?_) #[Y,Y,Y,Y,Y,Y,Y,Y,Y,Y,Y,Y,Y,Y,Y,Y,Y,Y,Y,Y,Y,Y,Y,Y,Y,Y,Y,Y,Y,Y,Y,Y,Z,Z,Z,Y,Y,Y,Z,Z,Z,Z,Z] rfl rfl (take_ofW HT_.out HW_.out (by kernel_rfl)) (fun _ _ _ h => h) (Or.inl ⟨by rfl, ?_⟩) hHeld ?_ ?_
           rotate_left
           ·rintro w' ⟨s0, s1, s2, s3, s4, s5, s6, s7, s8, s9, s10⟩
            go_simp
            with_reducible rfl
           rotate_left
           ·simp only [Act.put, sl0, sl1, sl2, i64_w, i32_w]
            rfl
           refine take_ (i := 32) (N := some 147) (v := ?_) (a' := ?_) #[Y,Y,Y,Y,Y,Y,Y,Y,Y,Y,Y,Y,Y,Y,Y,Y,Y,Y,Y,Y,Y,Y,Y,Y,Y,Y,Y,Y,Y,Y,Y,Y,Y,Z,Z,Y,Y,Y,Z,Z,Z,Z,Z] rfl rfl (take_ofW HT_.out HW_.out (by kernel_rfl)) (fun _ _ _ h => h) (Or.inl ⟨by rfl, ?_⟩) hHeld ?_ ?_
           rotate_left
           ·rintro w' ⟨s0, s1, s2, s3, s4, s5, s6, s7, s8, s9, s10⟩
            go_simp
            with_reducible rfl
           rotate_left
           ·simp only [Act.put, sl0, sl1, sl2, i64_w, i32_w]
            rfl
           refine pure_ (i := 33) (N := some 148) (v := ?_) (a' := ?_) #[Y,Y,Y,Y,Y,Y,Y,Y,Y,Y,Y,Y,Y,Y,Y,Y,Y,Y,Y,Y,Y,Y,Y,Y,Y,Y,Y,Y,Y,Y,Y,Y,Y,Y,Z,Y,Y,Y,Z,Z,Z,Z,Z] rfl rfl (any_of HT_.out (by kernel_rfl)) (fun _ _ _ h => h) (Or.inl ⟨by rfl, ?_⟩) ?_ ?_
           rotate_left
           ·intro w'
            go_simp
            with_reducible rfl
           rotate_left
           ·simp only [Act.put, sl0, sl1, sl2, i64_w, i32_w]
            rfl
           refine pure_ (i := 34) (N := some 149) (v := ?_) (a' := ?_) (fl_ 38 5) rfl rfl (any_of HT_.out (by kernel_rfl)) (fun _ _ _ h => h) (Or.inl ⟨by rfl, ?_⟩) ?_ ?_
           rotate_left
           ·intro w'
            go_simp
            with_reducible rfl
           rotate_left
           ·simp only [Act.put, sl0, sl1, sl2, i64_w, i32_w]
            rfl
           refine take_ (i := 38) (N := some 153) (v := ?_) (a' := ?_) (fl_ 39 4) rfl rfl (take_ofW HT_.out HW_.out (by kernel_rfl)) (fun _ _ _ h => h) (Or.inl ⟨by rfl, ?_⟩) hHeld ?_ ?_
           rotate_left
           ·rintro w' ⟨s0, s1, s2, s3, s4, s5, s6, s7, s8, s9, s10⟩
            go_simp
            with_reducible rfl
           rotate_left
           ·simp only [Act.put, sl0, sl1, sl2, i64_w, i32_w]
            rfl
           refine one_ (i := 39) (N := some 154) (fl_ 40 3) rfl rfl (one_of HT_.out (by kernel_rfl)) (by decide) (fun K hK => ?_)
           refine goes_ Try.func33 (by kernel_rfl) rfl #[.slice A263_0 y267.length c263_0, .slice A264_0 (rd_L3 t243 x8_2).length c264_0] (by rfl) rfl rfl (by (try simp only [List.map_toArray, List.map_cons, List.map_nil]); first | done | rfl | (simp only [List.length_drop, List.length_take]; rfl)) ?_
           with_reducible refine (hypercuberef1_Ints.calls kj40 _ _ y267 _ _ (rd_L3 t243 x8_2) true _ ?side1 ?side2 ?side3 ?side4 A56.out).mono ?_
           (case side1 => repeat (first | exact (by repeat (first | (with_reducible exact HR270.out) | (with_reducible refine Kd.C_alloc ?_ _) | (with_reducible refine Kd.C_drewN ?_ _) | (with_reducible refine Kd.C_drew ?_) | exact HR270.out)) | (with_reducible refine Kd.C_alloc ?_ _) | (with_reducible refine Kd.C_drewN ?_ _) | (with_reducible refine Kd.C_drew ?_)))
           (case side2 => exact HC270.out)
           (case side3 => repeat (first | exact (by repeat (first | (with_reducible exact HR271_0.out) | (with_reducible refine Kd.C_alloc ?_ _) | (with_reducible refine Kd.C_drewN ?_ _) | (with_reducible refine Kd.C_drew ?_) | exact HR271_0.out)) | (with_reducible refine Kd.C_alloc ?_ _) | (with_reducible refine Kd.C_drewN ?_ _) | (with_reducible refine Kd.C_drew ?_)))
           (case side4 => exact HC271_0.out)
           rintro e w' ⟨rfl, ⟨nd, rfl⟩⟩
           refine ⟨_, rfl, ?_⟩
           refine hK.out _ _ ⟨hHeld.1, hHeld.2.1, hHeld.2.2.1, hHeld.2.2.2.1, hHeld.2.2.2.2.1, hHeld.2.2.2.2.2.1, hHeld.2.2.2.2.2.2.1, hHeld.2.2.2.2.2.2.2.1, hHeld.2.2.2.2.2.2.2.2.1, hHeld.2.2.2.2.2.2.2.2.2.1, hHeld.2.2.2.2.2.2.2.2.2.2⟩ (fun hHeld => ?_)
           clear hK K
           refine norm_ (a' := ?_) ?_ ?_
           rotate_left
           ·show Act.put _ (some 154) _ = _
            simp only [Act.put, sl0, sl1, sl2, i64_w, i32_w]
            rfl
           refine pure_ (i := 40) (N := some 155) (v := ?_) (a' := ?_) (fl_ 41 2) rfl rfl (any_of HT_.out (by kernel_rfl)) (fun _ _ _ h => h) (Or.inl ⟨by rfl, ?_⟩) ?_ ?_
           rotate_left
           ·intro w'
            go_simp
            with_reducible rfl
           rotate_left
           ·simp only [Act.put, sl0, sl1, sl2, i64_w, i32_w]
            rfl
           refine pure_ (i := 41) (N := some 156) (v := ?_) (a' := ?_) (fl_ 42 1) rfl rfl (any_of HT_.out (by kernel_rfl)) (fun _ _ _ h => h) (Or.inl ⟨by rfl, ?_⟩) ?_ ?_
           rotate_left
           ·intro w'
            go_simp
            with_reducible rfl
           rotate_left
           ·simp only [Act.put, sl0, sl1, sl2, i64_w, i32_w]
            rfl
           refine pure_ (i := 42) (N := some 157) (v := ?_) (a' := ?_) (fl_ 43 0) rfl rfl (any_of HT_.out (by kernel_rfl)) (fun _ _ _ h => h) (Or.inl ⟨by rfl, ?_⟩) ?_ ?_
           rotate_left
           ·intro w'
            go_simp
            with_reducible rfl
           rotate_left
           ·simp only [Act.put, sl0, sl1, sl2, i64_w, i32_w]
            rfl
           refine done_ (done_of HT_.out (by kernel_rfl)) ?_
           try go_wp2
           go_roundg kj40
           case measure => have := HJ7.out; have := HK2.out; have := HK3.out; have := HK4.out; have := HJ40.out; omega
           case rel => exact ⟨(wrap64 (x11_4 + 1)), (by first | rfl | (simp; done) | (simp [*]; done)), H', ⟨by have := HJ7.out; have := HK2.out; have := HK3.out; have := HK4.out; have := HJ40.out; omega⟩, ⟨by (with_reducible repeat (first | apply Kd.R_alloc | apply Kd.R_drewN | apply Kd.R_drew)); exact HO_6.out⟩, ⟨by (with_reducible repeat (first | apply Kd.S_alloc | apply Kd.S_drewN | apply Kd.S_drew)); exact HO_7.out⟩, ⟨by repeat (first | (with_reducible exact HR250_0.out) | (with_reducible refine Kd.C_alloc ?_ _) | (with_reducible refine Kd.C_drewN ?_ _) | (with_reducible refine Kd.C_drew ?_) | exact HR250_0.out)⟩, ⟨by repeat (first | (with_reducible first | exact HB.out | apply below_alloc | apply pw_below_drewN | apply below_drew1) | exact HB.out)⟩⟩

/-- THE ONE PURE STATEMENT of hypercubelaw10_SortsOrders: yours. -/
def hypercubelaw10_SortsOrders.Pure : Prop := ∀ (a0 : Int) (l1 : List Int), (Lit.int .i64 a0).wf = true → l1.length ≤ maxLen → l1.length * 8 ≤ 140737488351232 → (∀ x ∈ l1, (Lit.int .i64 x).wf = true) → ∃ k, hypercubelaw10_SortsOrders.f k a0 l1 = some true
theorem hypercubelaw10_SortsOrders.walk (P : hypercubelaw10_SortsOrders.Pure) (a0 : Int) (a1 : Option Addr) (len1 cap1 : Nat) (z1 : List Int) (w : World) (w0 : (Lit.int .i64 a0).wf = true) (w1 : (a1 = none ∧ len1 = 0 ∧ cap1 = 0 ∧ z1 = []) ∨ ∃ x, a1 = some x ∧ len1 ≤ cap1 ∧ cap1 ≤ maxLen ∧ z1.length = cap1 ∧ (∀ i, i < z1.length → w.cell? (x.add i) = some (.int .i64 (z1.getD i 0))) ∧ ∀ n ∈ z1, (Lit.int .i64 n).wf = true) (y1 : len1 * 8 ≤ 140737488351232) :
 Calls Try.prog 25 #[.int .i64 a0, .slice a1 len1 cap1] w fun e w' => e = .returned (.bool true) ∧ Below w.heap.size w w' := by
 obtain ⟨l1, rfl, hr1, hm1, hw1, hc1⟩ := ReadsInt.ofRowC w1
 obtain ⟨k, h⟩ := P a0 l1 w0 hm1 y1 hw1
 refine (hypercubelaw10_SortsOrders.calls k a0 _ _ l1 true w (Kd.C_of_reads (d := (0 : Int)) (h1 := fun _ => rfl) hr1) hc1 h).mono ?_
 rintro e w' ⟨rfl, hd⟩
 exact ⟨rfl, hd⟩

end Go.Proofs.Ytlplaidcdocbmaa.PSortsOrders
