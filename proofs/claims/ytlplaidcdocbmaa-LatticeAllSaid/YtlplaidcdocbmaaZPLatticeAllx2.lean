-- Cut by pack.py, a program of this session; not trusted: Lean checks it.
import Derived.Test.YtlplaidcdocbmaaZPLatticeAllx0
import Derived.Test.YtlplaidcdocbmaaZPLatticeAllx1
namespace Go.Proofs.Ytlplaidcdocbmaa.PLatticeAll
open Go.RowKit Go.Proofs.YtlplaidcdocbmaaW.PrintWords Go.Proofs.YtlplaidcdocbmaaW.PrintLast Go.Proofs.YtlplaidcdocbmaaW.PrintMore
private abbrev fl_ (a b : Nat) : Array Bool := (List.replicate a true ++ List.replicate b false).toArray
private abbrev Y : Bool := true
private abbrev Z : Bool := false
open List renaming setIfInBounds_toArray → sl0, set_cons_zero → sl1, set_cons_succ → sl2
private theorem od_ {p : Prop} [Decidable p] (h : decide p = true := by first | (with_reducible assumption) | assumption) : p := of_decide_eq_true h
attribute [local go_sem] max2_int min2_int max_two min_two max_three min_three max_four min_four   -- for this text's walks alone
set_option linter.unusedVariables false
set_option linter.unusedSimpArgs false

/-! ### hypercubelaw1_Facts: function 32 -/
mutual
def hypercubelaw1_Facts.l0 : Nat → Int → List Int → List Int → Int → List Int → Int → Option (List Int × Int × (List (S39)))
 | 0, _, _, _, _, _, _ => none
 | k + 1, x0, x1, x3, x11, x128000, x128001 => (hypercubelaw1_within.f x0 4).bind fun t128 => (if x11 ≤ t128 then (if x11 < (x1.length : Int) then (if 0 ≤ x11 then ((hypercubelaw1_within.f (rd x1 x11) 5).bind fun t130 => (if x128000.length < 17592186044416 then (hypercubelaw1_Facts.l0 k x0 x1 x3 (wrap64 (x11 + 1)) (x128000 ++ [wrap64 (1 + t130)]) x128001) else (none))) else (none)) else ((hypercubelaw1_within.f (wrap64 (x11 + 2)) 5).bind fun t134 => (if x128000.length < 17592186044416 then (hypercubelaw1_Facts.l0 k x0 x1 x3 (wrap64 (x11 + 1)) (x128000 ++ [wrap64 (1 + t134)]) x128001) else (none)))) else ((hypercubelaw1_within.f x0 7).bind fun t138 => (if t138 = 0 then (if 0 < (x128000.length : Int) then (hypercubelaw1_Facts.j1 k x3 (x128000.set (0 : Int).toNat 16) x128001) else (none)) else (hypercubelaw1_Facts.j1 k x3 x128000 x128001))))
def hypercubelaw1_Facts.j1 : Nat → List Int → List Int → Int → Option (List Int × Int × (List (S39)))
 | 0, _, _, _ => none
 | k + 1, x3, x128000, x128001 => hypercubelaw1_Facts.l1 k x3 ([] : List (S39)) 0 x128000 x128001
def hypercubelaw1_Facts.l1 : Nat → List Int → List (S39) → Int → List Int → Int → Option (List Int × Int × (List (S39)))
 | 0, _, _, _, _, _ => none
 | k + 1, x3, x13, x14, x128000, x128001 => if x14 < (x3.length : Int) then (hypercubelaw1_Facts.j3 k x3 x13 x14 (decide (x14 < 40)) x128000 x128001) else (hypercubelaw1_Facts.j3 k x3 x13 x14 false x128000 x128001)
def hypercubelaw1_Facts.j3 : Nat → List Int → List (S39) → Int → Bool → List Int → Int → Option (List Int × Int × (List (S39)))
 | 0, _, _, _, _, _, _ => none
 | k + 1, x3, x13, x14, x59, x128000, x128001 => if x59 = true then (if 0 ≤ x14 then (if x14 < (x3.length : Int) then (hypercubelaw1_Facts.l2 k x3 x13 x14 (rd x3 x14) 0 x128000 x128001 ([] : List Int)) else (none)) else (none)) else (some (x128000, x128001, x13))
def hypercubelaw1_Facts.l2 : Nat → List Int → List (S39) → Int → Int → Int → List Int → Int → List Int → Option (List Int × Int × (List (S39)))
 | 0, _, _, _, _, _, _, _, _ => none
 | k + 1, x3, x13, x14, x15, x17, x128000, x128001, x142000 => if x17 < (x128000.length : Int) then (if 0 ≤ x17 then ((hypercubelaw1_within.f x15 (rd x128000 x17)).bind fun t143 => (if x142000.length < 17592186044416 then (hypercubelaw1_Facts.l2 k x3 x13 x14 (wrap64 (Int.tdiv x15 5)) (wrap64 (x17 + 1)) x128000 x128001 (x142000 ++ [t143])) else (none))) else (none)) else (hypercubelaw1_Facts.l3 k x3 x13 x14 x15 0 x128000 x128001 x142000 ([] : List Int))
def hypercubelaw1_Facts.l3 : Nat → List Int → List (S39) → Int → Int → Int → List Int → Int → List Int → List Int → Option (List Int × Int × (List (S39)))
 | 0, _, _, _, _, _, _, _, _, _ => none
 | k + 1, x3, x13, x14, x15, x18, x128000, x128001, x142000, x142001 => if x18 < x128001 then ((hypercubelaw1_within.f (wrap64 (x15 + (wrap64 (7 * x18)))) 201).bind fun t147 => (if x142001.length < 17592186044416 then (hypercubelaw1_Facts.l3 k x3 x13 x14 x15 (wrap64 (x18 + 1)) x128000 x128001 x142000 (x142001 ++ [wrap64 (t147 - 100)])) else (none))) else (if x13.length < 2932031007402 then (hypercubelaw1_Facts.l1 k x3 (x13 ++ [(⟨x142000, x142001⟩ : S39)]) (wrap64 (x14 + 1)) x128000 x128001) else (none))
end
def hypercubelaw1_Facts.f (k : Nat) (a0 : Int) (l1 : List Int) (a2 : Int) (l3 : List Int) : Option (List Int × Int × (List (S39))) := (hypercubelaw1_within.f a2 3).bind fun t126 => (hypercubelaw1_Facts.l0 k a0 l1 l3 0 ([] : List Int) t126)
theorem hypercubelaw1_Facts.mono_l : ∀ k, (∀ y0 y1 y2 y3 y4 y5, LeO (hypercubelaw1_Facts.l0 k y0 y1 y2 y3 y4 y5) (hypercubelaw1_Facts.l0 (k + 1) y0 y1 y2 y3 y4 y5)) ∧ (∀ y0 y1 y2, LeO (hypercubelaw1_Facts.j1 k y0 y1 y2) (hypercubelaw1_Facts.j1 (k + 1) y0 y1 y2)) ∧ (∀ y0 y1 y2 y3 y4, LeO (hypercubelaw1_Facts.l1 k y0 y1 y2 y3 y4) (hypercubelaw1_Facts.l1 (k + 1) y0 y1 y2 y3 y4)) ∧ (∀ y0 y1 y2 y3 y4 y5, LeO (hypercubelaw1_Facts.j3 k y0 y1 y2 y3 y4 y5) (hypercubelaw1_Facts.j3 (k + 1) y0 y1 y2 y3 y4 y5)) ∧ (∀ y0 y1 y2 y3 y4 y5 y6 y7, LeO (hypercubelaw1_Facts.l2 k y0 y1 y2 y3 y4 y5 y6 y7) (hypercubelaw1_Facts.l2 (k + 1) y0 y1 y2 y3 y4 y5 y6 y7)) ∧ (∀ y0 y1 y2 y3 y4 y5 y6 y7 y8, LeO (hypercubelaw1_Facts.l3 k y0 y1 y2 y3 y4 y5 y6 y7 y8) (hypercubelaw1_Facts.l3 (k + 1) y0 y1 y2 y3 y4 y5 y6 y7 y8))
 | 0 => ⟨fun _ _ _ _ _ _ r h => by simp [hypercubelaw1_Facts.l0] at h, fun _ _ _ r h => by simp [hypercubelaw1_Facts.j1] at h, fun _ _ _ _ _ r h => by simp [hypercubelaw1_Facts.l1] at h, fun _ _ _ _ _ _ r h => by simp [hypercubelaw1_Facts.j3] at h, fun _ _ _ _ _ _ _ _ r h => by simp [hypercubelaw1_Facts.l2] at h, fun _ _ _ _ _ _ _ _ _ r h => by simp [hypercubelaw1_Facts.l3] at h⟩
 | k + 1 => by
  obtain ⟨ih0, ih1, ih2, ih3, ih4, ih5⟩ := hypercubelaw1_Facts.mono_l k
  refine ⟨?_, ?_, ?_, ?_, ?_, ?_⟩
  ·intro y0 y1 y2 y3 y4 y5
   unfold hypercubelaw1_Facts.l0
   repeat' first
   | (with_reducible exact ih0 _ _ _ _ _ _)
   | (with_reducible exact ih1 _ _ _)
   | (with_reducible exact ih2 _ _ _ _ _)
   | (with_reducible exact ih3 _ _ _ _ _ _)
   | (with_reducible exact ih4 _ _ _ _ _ _ _ _)
   | (with_reducible exact ih5 _ _ _ _ _ _ _ _ _)
   | (with_reducible exact LeO.refl _)
   | (with_reducible exact LeO.none _)
   | (with_reducible refine LeO.ite ?_ ?_)
   | (with_reducible refine LeO.bind ?_ (fun _ => ?_))
   | exact ih0 _ _ _ _ _ _
   | exact ih1 _ _ _
   | exact ih2 _ _ _ _ _
   | exact ih3 _ _ _ _ _ _
   | exact ih4 _ _ _ _ _ _ _ _
   | exact ih5 _ _ _ _ _ _ _ _ _
   | exact LeO.none _
   | refine LeO.ite ?_ ?_
   | refine LeO.bind ?_ (fun _ => ?_)
  ·intro y0 y1 y2
   unfold hypercubelaw1_Facts.j1
   repeat' first
   | (with_reducible exact ih0 _ _ _ _ _ _)
   | (with_reducible exact ih1 _ _ _)
   | (with_reducible exact ih2 _ _ _ _ _)
   | (with_reducible exact ih3 _ _ _ _ _ _)
   | (with_reducible exact ih4 _ _ _ _ _ _ _ _)
   | (with_reducible exact ih5 _ _ _ _ _ _ _ _ _)
   | (with_reducible exact LeO.refl _)
   | (with_reducible exact LeO.none _)
   | (with_reducible refine LeO.ite ?_ ?_)
   | (with_reducible refine LeO.bind ?_ (fun _ => ?_))
   | exact ih0 _ _ _ _ _ _
   | exact ih1 _ _ _
   | exact ih2 _ _ _ _ _
   | exact ih3 _ _ _ _ _ _
   | exact ih4 _ _ _ _ _ _ _ _
   | exact ih5 _ _ _ _ _ _ _ _ _
   | exact LeO.none _
   | refine LeO.ite ?_ ?_
   | refine LeO.bind ?_ (fun _ => ?_)
  ·intro y0 y1 y2 y3 y4
   unfold hypercubelaw1_Facts.l1
   repeat' first
   | (with_reducible exact ih0 _ _ _ _ _ _)
   | (with_reducible exact ih1 _ _ _)
   | (with_reducible exact ih2 _ _ _ _ _)
   | (with_reducible exact ih3 _ _ _ _ _ _)
   | (with_reducible exact ih4 _ _ _ _ _ _ _ _)
   | (with_reducible exact ih5 _ _ _ _ _ _ _ _ _)
   | (with_reducible exact LeO.refl _)
   | (with_reducible exact LeO.none _)
   | (with_reducible refine LeO.ite ?_ ?_)
   | (with_reducible refine LeO.bind ?_ (fun _ => ?_))
   | exact ih0 _ _ _ _ _ _
   | exact ih1 _ _ _
   | exact ih2 _ _ _ _ _
   | exact ih3 _ _ _ _ _ _
   | exact ih4 _ _ _ _ _ _ _ _
   | exact ih5 _ _ _ _ _ _ _ _ _
   | exact LeO.none _
   | refine LeO.ite ?_ ?_
   | refine LeO.bind ?_ (fun _ => ?_)
  ·intro y0 y1 y2 y3 y4 y5
   unfold hypercubelaw1_Facts.j3
   repeat' first
   | (with_reducible exact ih0 _ _ _ _ _ _)
   | (with_reducible exact ih1 _ _ _)
   | (with_reducible exact ih2 _ _ _ _ _)
   | (with_reducible exact ih3 _ _ _ _ _ _)
   | (with_reducible exact ih4 _ _ _ _ _ _ _ _)
   | (with_reducible exact ih5 _ _ _ _ _ _ _ _ _)
   | (with_reducible exact LeO.refl _)
   | (with_reducible exact LeO.none _)
   | (with_reducible refine LeO.ite ?_ ?_)
   | (with_reducible refine LeO.bind ?_ (fun _ => ?_))
   | exact ih0 _ _ _ _ _ _
   | exact ih1 _ _ _
   | exact ih2 _ _ _ _ _
   | exact ih3 _ _ _ _ _ _
   | exact ih4 _ _ _ _ _ _ _ _
   | exact ih5 _ _ _ _ _ _ _ _ _
   | exact LeO.none _
   | refine LeO.ite ?_ ?_
   | refine LeO.bind ?_ (fun _ => ?_)
  ·intro y0 y1 y2 y3 y4 y5 y6 y7
   unfold hypercubelaw1_Facts.l2
   repeat' first
   | (with_reducible exact ih0 _ _ _ _ _ _)
   | (with_reducible exact ih1 _ _ _)
   | (with_reducible exact ih2 _ _ _ _ _)
   | (with_reducible exact ih3 _ _ _ _ _ _)
   | (with_reducible exact ih4 _ _ _ _ _ _ _ _)
   | (with_reducible exact ih5 _ _ _ _ _ _ _ _ _)
   | (with_reducible exact LeO.refl _)
   | (with_reducible exact LeO.none _)
   | (with_reducible refine LeO.ite ?_ ?_)
   | (with_reducible refine LeO.bind ?_ (fun _ => ?_))
   | exact ih0 _ _ _ _ _ _
   | exact ih1 _ _ _
   | exact ih2 _ _ _ _ _
   | exact ih3 _ _ _ _ _ _
   | exact ih4 _ _ _ _ _ _ _ _
   | exact ih5 _ _ _ _ _ _ _ _ _
   | exact LeO.none _
   | refine LeO.ite ?_ ?_
   | refine LeO.bind ?_ (fun _ => ?_)
  intro y0 y1 y2 y3 y4 y5 y6 y7 y8
  unfold hypercubelaw1_Facts.l3
  repeat' first
  | (with_reducible exact ih0 _ _ _ _ _ _)
  | (with_reducible exact ih1 _ _ _)
  | (with_reducible exact ih2 _ _ _ _ _)
  | (with_reducible exact ih3 _ _ _ _ _ _)
  | (with_reducible exact ih4 _ _ _ _ _ _ _ _)
  | (with_reducible exact ih5 _ _ _ _ _ _ _ _ _)
  | (with_reducible exact LeO.refl _)
  | (with_reducible exact LeO.none _)
  | (with_reducible refine LeO.ite ?_ ?_)
  | (with_reducible refine LeO.bind ?_ (fun _ => ?_))
  | exact ih0 _ _ _ _ _ _
  | exact ih1 _ _ _
  | exact ih2 _ _ _ _ _
  | exact ih3 _ _ _ _ _ _
  | exact ih4 _ _ _ _ _ _ _ _
  | exact ih5 _ _ _ _ _ _ _ _ _
  | exact LeO.none _
  | refine LeO.ite ?_ ?_
  | refine LeO.bind ?_ (fun _ => ?_)
theorem hypercubelaw1_Facts.mono : ∀ a0 a1 a2 a3 k, LeO (hypercubelaw1_Facts.f k a0 a1 a2 a3) (hypercubelaw1_Facts.f (k + 1) a0 a1 a2 a3) := by
 intro a0 a1 a2 a3 k
 obtain ⟨ih0, ih1, ih2, ih3, ih4, ih5⟩ := hypercubelaw1_Facts.mono_l k
 unfold hypercubelaw1_Facts.f
 repeat' first
  | (with_reducible exact ih0 _ _ _ _ _ _)
  | (with_reducible exact ih1 _ _ _)
  | (with_reducible exact ih2 _ _ _ _ _)
  | (with_reducible exact ih3 _ _ _ _ _ _)
  | (with_reducible exact ih4 _ _ _ _ _ _ _ _)
  | (with_reducible exact ih5 _ _ _ _ _ _ _ _ _)
  | (with_reducible exact LeO.refl _)
  | (with_reducible exact LeO.none _)
  | (with_reducible refine LeO.ite ?_ ?_)
  | (with_reducible refine LeO.bind ?_ (fun _ => ?_))
  | exact ih0 _ _ _ _ _ _
  | exact ih1 _ _ _
  | exact ih2 _ _ _ _ _
  | exact ih3 _ _ _ _ _ _
  | exact ih4 _ _ _ _ _ _ _ _
  | exact ih5 _ _ _ _ _ _ _ _ _
  | exact LeO.none _
  | refine LeO.ite ?_ ?_
  | refine LeO.bind ?_ (fun _ => ?_)
def hypercubelaw1_Facts.T8 : Bool × List (List Nat × List Nat) := (true, [([], []), ([0], [0]), ([], []), ([2], [2]), ([3], [3]), ([4], [4]), ([1, 5, 3], [1, 5]), ([0, 1, 2, 3, 4, 5, 6], []), ([7, 6, 6, 0, 1, 2, 3, 4, 5, 6], [6, 7])])
def hypercubelaw1_Facts.B8 : List Nat := [0, 1, 0, 4, 12, 28, 63, 127, 255]
theorem hypercubelaw1_Facts.tab8 : rtab .any (opsOf Try.f32 8) = hypercubelaw1_Facts.T8 := by kernel_rfl
theorem hypercubelaw1_Facts.bits8 : waitsOk hypercubelaw1_Facts.T8.2 hypercubelaw1_Facts.B8 = true := by kernel_rfl
def hypercubelaw1_Facts.T20 : Bool × List (List Nat × List Nat) := (true, [([], []), ([0], [0]), ([], []), ([], []), ([3], [3]), ([], []), ([4, 5], [4, 5]), ([6], [6]), ([2, 7], [2, 7]), ([8], [8]), ([1, 9, 8], [1, 9]), ([0, 1, 2, 3, 4, 5, 6, 7, 8, 9, 10], []), ([11, 10, 10, 0, 1, 2, 3, 4, 5, 6, 7, 8, 9, 10], [10, 11])])
def hypercubelaw1_Facts.B20 : List Nat := [0, 1, 0, 0, 8, 0, 56, 120, 252, 508, 1023, 2047, 4095]
theorem hypercubelaw1_Facts.tab20 : rtab .any (opsOf Try.f32 20) = hypercubelaw1_Facts.T20 := by kernel_rfl
theorem hypercubelaw1_Facts.bits20 : waitsOk hypercubelaw1_Facts.T20.2 hypercubelaw1_Facts.B20 = true := by kernel_rfl
def hypercubelaw1_Facts.T25 : Bool × List (List Nat × List Nat) := (true, [([], []), ([0], [0]), ([], []), ([], []), ([3], [3]), ([2, 4], [2, 4]), ([5], [5]), ([6], [6]), ([7], [7]), ([1, 8, 6], [1, 8]), ([0, 1, 2, 3, 4, 5, 6, 7, 8, 9], []), ([10, 9, 9, 0, 1, 2, 3, 4, 5, 6, 7, 8, 9], [9, 10])])
def hypercubelaw1_Facts.B25 : List Nat := [0, 1, 0, 0, 8, 28, 60, 124, 252, 511, 1023, 2047]
theorem hypercubelaw1_Facts.tab25 : rtab .any (opsOf Try.f32 25) = hypercubelaw1_Facts.T25 := by kernel_rfl
theorem hypercubelaw1_Facts.bits25 : waitsOk hypercubelaw1_Facts.T25.2 hypercubelaw1_Facts.B25 = true := by kernel_rfl
set_option maxHeartbeats 8000000 in
set_option maxRecDepth 100000 in
theorem hypercubelaw1_Facts.calls (k : Nat) (a0 : Int) (A1 : Option Addr) (c1 : Nat) (l1 : List Int) (a2 : Int) (A3 : Option Addr) (c3 : Nat) (l3 : List Int) (r1 : List Int) (r2 : Int) (r3 : List (S39)) (w : World) (hr1 : Kd.C (Kd.int .i64) w A1 l1.length l1) (hc1 : l1.length ≤ c1) (hr3 : Kd.C (Kd.int .i64) w A3 l3.length l3) (hc3 : l3.length ≤ c3) (h : hypercubelaw1_Facts.f k a0 l1 a2 l3 = some (r1, r2, r3)) :
 Calls Try.prog 32 #[.int .i64 a0, .slice A1 l1.length c1, .int .i64 a2, .slice A3 l3.length c3] w fun e w' => ∃ v0_ v2_ : Value, e = .returned (.tuple #[.agg #[v0_, .int .i64 r2], v2_]) ∧ Kd.R (Kd.int .i64) 3 w' w.heap.size (fun _ => True) v0_ r1 ∧ Kd.S k39 39 w' w.heap.size (fun k_ => some k_ ≠ (v0_ : Value).ownBlock) v2_ r3 ∧ Below w.heap.size w w' := by
 have hu33 := Try.underlying33
 have hu39 := Try.underlying39
 have HR1 := Aside0.mk hr1
 have HC1 := Aside0.mk hc1
 clear hr1 hc1
 have HR3 := Aside0.mk hr3
 have HC3 := Aside0.mk hc3
 clear hr3 hc3
 have HB := Aside0.mk (Below.refl w.heap.size w)
 have H : ((hypercubelaw1_within.f a2 3).bind fun t126 => (hypercubelaw1_Facts.l0 k a0 l1 l3 0 ([] : List Int) t126)) = some (r1, r2, r3) := h
 clear h
 replace H := Option.bind_eq_some_iff.mp H
 obtain ⟨t126, A50, H⟩ := H
 replace H : (hypercubelaw1_Facts.l0 k a0 l1 l3 0 ([] : List Int) t126) = some (r1, r2, r3) := H
 have A5 := Aside0.mk A50
 clear A50
 have H' := Aside0.mk H
 clear H
 go_enter Try.func32, Try.ntmps32
 go_wp2_with (first | ((with_reducible refine gate_dst (N := 8) rfl ?_); refine box_event ?hg (N := 8) ?hd (cs := #[.slice none 0 0, .int .i64 0]) (t := 33) ?hr ?_; (case hd => rfl); (case hg => rfl); (case hr => first | (go_simp; done) | (go_simp; rfl)); intro gb125 hg w6 hbox hb; have n0_ := Aside0.mk (below_step (by repeat (first | (with_reducible first | exact HB.out | apply below_alloc | apply pw_below_drewN | apply below_drew1) | exact HB.out)) hb); have n1_ := Aside0.mk (hbox); have n2_ := Aside0.mk ((by rw [hg]; exact (below_size (by repeat (first | (with_reducible first | exact HB.out | apply below_alloc | apply pw_below_drewN | apply below_drew1) | exact HB.out))) : w.heap.size ≤ gb125)); have n3_ := Aside0.mk ((by rw [hg]; exact (below_size (by repeat (first | (with_reducible first | exact HB.out | apply below_alloc | apply pw_below_drewN | apply below_drew1) | exact HB.out))) : w.heap.size ≤ gb125)); clear HB; have HB := n0_; have BK125 := n1_; have GW125 := n2_; have GE125 := n3_; clear n0_ n1_ n2_ n3_; clear hb hbox hg) | ((with_reducible refine gate_callee (f := 70) rfl ?_); refine goesL_ (some 20) rfl rfl Try.func70 (by kernel_rfl) rfl #[.int .i64 a2, .int .i64 3] rfl (by (try simp only [List.map_toArray, List.map_cons, List.map_nil]); first | done | rfl | (simp only [List.length_drop, List.length_take]; rfl)) ?_; (with_reducible refine (hypercubelaw1_within.calls a2 3 t126 _ A5.out).mono ?_); rintro e w' ⟨rfl, ⟨nd, rfl⟩⟩; refine ⟨_, rfl, ?_⟩; (try (rw [drewN_self w6]; generalize hq_ : World.drewN w6 _ = w6; have n0_ : Aside0 (w6.heap[gb125]? = some (.cells #[.slice none 0 0, .int .i64 0] 33 (0, 0))) := ⟨by rw [← hq_]; exact (by (with_reducible repeat (first | refine blk_drewN ?_ _ | refine blk_drew ?_ | refine blk_alloc ?_ _)); exact BK125.out)⟩; have n1_ : Aside0 (Below w.heap.size w w6) := ⟨by rw [← hq_]; exact (by repeat (first | (with_reducible first | exact HB.out | apply below_alloc | apply pw_below_drewN | apply below_drew1 | refine below_set ?_ GE125.out) | exact HB.out))⟩; clear BK125 HB hq_; have BK125 := n0_; have HB := n1_; clear n0_ n1_))) | ((with_reducible refine gate_dst (N := 10) rfl ?_); refine box_event ?hg (N := 10) ?hd (cs := #[.slice none 0 0, .int .i64 0]) (t := 33) ?hr ?_; (case hd => rfl); (case hg => rfl); (case hr => first | (go_simp; done) | (go_simp; rfl)); intro gb127 hg w7 hbox hb; have n0_ := Aside0.mk (blk_below (g := gb125) (o := .cells #[.slice none 0 0, .int .i64 0] 33 (0, 0)) (by (with_reducible repeat (first | refine blk_drewN ?_ _ | refine blk_drew ?_ | refine blk_alloc ?_ _)); exact BK125.out) hb); have n1_ := Aside0.mk (below_step (by repeat (first | (with_reducible first | exact HB.out | apply below_alloc | apply pw_below_drewN | apply below_drew1 | refine below_set ?_ GE125.out) | exact HB.out)) hb); have n2_ := Aside0.mk (hbox); have n3_ := Aside0.mk ((by rw [hg]; exact (below_size (by repeat (first | (with_reducible first | exact HB.out | apply below_alloc | apply pw_below_drewN | apply below_drew1 | refine below_set ?_ GE125.out) | exact HB.out))) : w.heap.size ≤ gb127)); have n4_ := Aside0.mk ((by rw [hg]; exact (below_size (by repeat (first | (with_reducible first | exact HB.out | apply below_alloc | apply pw_below_drewN | apply below_drew1 | refine below_set ?_ GE125.out) | exact HB.out))) : w.heap.size ≤ gb127)); have n5_ := Aside0.mk ((by rw [hg]; exact Nat.ne_of_lt (blk_lt (g := gb125) (o := .cells #[.slice none 0 0, .int .i64 0] 33 (0, 0)) (by (with_reducible repeat (first | refine blk_drewN ?_ _ | refine blk_drew ?_ | refine blk_alloc ?_ _)); exact BK125.out)) : gb125 ≠ gb127)); have n6_ := Aside0.mk ((by rw [hg]; exact Nat.ne_of_gt (blk_lt (g := gb125) (o := .cells #[.slice none 0 0, .int .i64 0] 33 (0, 0)) (by (with_reducible repeat (first | refine blk_drewN ?_ _ | refine blk_drew ?_ | refine blk_alloc ?_ _)); exact BK125.out)) : gb127 ≠ gb125)); clear BK125; clear HB; have BK125 := n0_; have HB := n1_; have BK127 := n2_; have GW127 := n3_; have GE127 := n4_; have NB125_127 := n5_; have NB127_125 := n6_; clear n0_ n1_ n2_ n3_ n4_ n5_ n6_; clear hb hbox hg; have hnb8 := NB127_125.out; have hnc8 := NB125_127.out; have hcz9_0 : w7.cell? ⟨gb127, 0, none⟩ = some (.slice none 0 0) := (blk_cell BK127.out 0).trans rfl; have hcz9_1 : w7.cell? ⟨gb127, 1, none⟩ = some (.int .i64 0) := (blk_cell BK127.out 1).trans rfl; have hfz9_0 := blk_frozen BK127.out 0; have hfz9_1 := blk_frozen BK127.out 1))
 go_loopg [11] k (fun kq v11 w' => ∃ (x11_1 : Int) (x128000_1 : List Int) (u128000 : Value), v11 = .int .i64 x11_1 ∧ Aside0 (hypercubelaw1_Facts.l0 kq a0 l1 l3 x11_1 x128000_1 t126 = some (r1, r2, r3)) ∧ Aside0 (kq ≤ k) ∧ Aside0 (Kd.R (Kd.int .i64) 3 w' w.heap.size (fun _ => True) u128000 x128000_1) ∧ Aside0 (w'.heap[gb125]? = some (.cells #[(.slice none 0 0), .int .i64 0] 33 (0, 0))) ∧ Aside0 (w'.heap[gb127]? = some (.cells #[u128000, .int .i64 t126] 33 (0, 0))) ∧ Aside0 (Below w.heap.size w w'))
 case atStart => exact ⟨(0), (([] : List Int)), (.slice none 0 0), (by first | rfl | (simp; done) | (simp [*]; done)), H', ⟨Nat.le_refl _⟩, ⟨by first | exact Kd.R_nil _ _ _ _ _ | exact Kd.N_nil _ _ _ _ _ | exact Kd.V_nil _ _ _ _ _ | exact Kd.Q_nil _ _ _ _ _ | exact Kd.S_nil _ _ _ _ _⟩, ⟨by (with_reducible repeat (first | refine blk_drewN ?_ _ | refine blk_drew ?_ | refine blk_alloc ?_ _)); refine blk_far ?_ NB125_127.out _; (with_reducible repeat (first | refine blk_drewN ?_ _ | refine blk_drew ?_ | refine blk_alloc ?_ _)); refine blk_far ?_ NB125_127.out _; (with_reducible repeat (first | refine blk_drewN ?_ _ | refine blk_drew ?_ | refine blk_alloc ?_ _)); exact BK125.out⟩, ⟨by (with_reducible repeat (first | refine blk_drewN ?_ _ | refine blk_drew ?_ | refine blk_alloc ?_ _)); refine blk_put (cs := #[.slice none 0 0, .int .i64 0]) ?_ 1 _ rfl; (with_reducible repeat (first | refine blk_drewN ?_ _ | refine blk_drew ?_ | refine blk_alloc ?_ _)); refine blk_put (cs := #[.slice none 0 0, .int .i64 0]) ?_ 0 _ rfl; (with_reducible repeat (first | refine blk_drewN ?_ _ | refine blk_drew ?_ | refine blk_alloc ?_ _)); exact BK127.out⟩, ⟨by repeat (first | (with_reducible first | exact HB.out | apply below_alloc | apply pw_below_drewN | apply below_drew1 | refine below_set ?_ GE125.out | refine below_set ?_ GE127.out) | exact HB.out)⟩⟩
 case round =>
  clear H'
  try clear c1
  try clear p2
  try clear c3
  try clear c7
  try clear c8
  try clear hcz9_0
  try clear hcz9_1
  try clear hfz9_0
  try clear hfz9_1
  obtain ⟨x11_1, x128000_1, u128000, rfl, HA, HK1, HO_128000, BK125, BK127, HB⟩ := hrel
  cases gk with
  | zero => exact absurd HA.out (by simp [hypercubelaw1_Facts.l0])
  | succ k1 =>
   have H := HA.out
   clear HA
   simp only [hypercubelaw1_Facts.l0] at H
   replace H := Option.bind_eq_some_iff.mp H
   obtain ⟨t128, A100, H⟩ := H
   replace H : (if x11_1 ≤ t128 then (if x11_1 < (l1.length : Int) then (if 0 ≤ x11_1 then ((hypercubelaw1_within.f (rd l1 x11_1) 5).bind fun t130 => (if x128000_1.length < 17592186044416 then (hypercubelaw1_Facts.l0 k1 a0 l1 l3 (wrap64 (x11_1 + 1)) (x128000_1 ++ [wrap64 (1 + t130)]) t126) else (none))) else (none)) else ((hypercubelaw1_within.f (wrap64 (x11_1 + 2)) 5).bind fun t134 => (if x128000_1.length < 17592186044416 then (hypercubelaw1_Facts.l0 k1 a0 l1 l3 (wrap64 (x11_1 + 1)) (x128000_1 ++ [wrap64 (1 + t134)]) t126) else (none)))) else ((hypercubelaw1_within.f a0 7).bind fun t138 => (if t138 = 0 then (if 0 < (x128000_1.length : Int) then (hypercubelaw1_Facts.j1 k1 l3 (x128000_1.set (0 : Int).toNat 16) t126) else (none)) else (hypercubelaw1_Facts.j1 k1 l3 x128000_1 t126)))) = some (r1, r2, r3) := H
   have A10 := Aside0.mk A100
   clear A100
   by_cases c11 : x11_1 ≤ t128
   ·rw [if_pos c11] at H
    have c11b0 : decide (x11_1 ≤ t128) = true := decide_eq_true c11
    clear c11
    by_cases c12 : x11_1 < (l1.length : Int)
    rotate_left
    ·rw [if_neg c12] at H
     have c12b0 : decide (x11_1 < (l1.length : Int)) = false := decide_eq_false c12
     clear c12
     replace H := Option.bind_eq_some_iff.mp H
     obtain ⟨t134, A200, H⟩ := H
     replace H : (if x128000_1.length < 17592186044416 then (hypercubelaw1_Facts.l0 k1 a0 l1 l3 (wrap64 (x11_1 + 1)) (x128000_1 ++ [wrap64 (1 + t134)]) t126) else (none)) = some (r1, r2, r3) := H
     have A20 := Aside0.mk A200
     clear A200
     by_cases c21 : x128000_1.length < 17592186044416
     rotate_left
     ·rw [if_neg c21] at H
      exact absurd H (by simp)
     rw [if_pos c21] at H
     have LMc21 := Aside0.mk c21
     clear c21
     obtain ⟨y135, hy135⟩ : ∃ y_ : List Int, y_ = (x128000_1 ++ [wrap64 (1 + t134)]) := ⟨_, rfl⟩
     replace H : (hypercubelaw1_Facts.l0 k1 a0 l1 l3 (wrap64 (x11_1 + 1)) y135 t126) = some (r1, r2, r3) := by first | (rw [hy135]; with_reducible exact H) | (have H2_ := (Option.bind_some _ _).symm.trans H; rw [hy135]; with_reducible exact H2_) | (have H2_ := (Option.bind_some _ _).symm.trans H; with_reducible exact H2_) | with_reducible exact H | (rw [hy135]; exact H) | exact H
     have Ny135 := Aside0.mk hy135
     clear hy135
     have H' := Aside0.mk H
     clear H
     try go_wp2_with (first | ((with_reducible refine gate_callee (f := 70) rfl ?_); refine goesL_ (some 24) rfl rfl Try.func70 (by kernel_rfl) rfl #[.int .i64 a0, .int .i64 4] rfl (by (try simp only [List.map_toArray, List.map_cons, List.map_nil]); first | done | rfl | (simp only [List.length_drop, List.length_take]; rfl)) ?_; (with_reducible refine (hypercubelaw1_within.calls a0 4 t128 _ A10.out).mono ?_); rintro e w' ⟨rfl, ⟨nd, rfl⟩⟩; refine ⟨_, rfl, ?_⟩; (try (rw [drewN_self wr]; generalize hq_ : World.drewN wr _ = wr; have n0_ : Aside0 (Kd.R (Kd.int .i64) 3 wr w.heap.size (fun _ => True) u128000 x128000_1) := ⟨by rw [← hq_]; exact (by (with_reducible repeat (first | apply Kd.R_alloc | apply Kd.R_drewN | apply Kd.R_drew)); exact HO_128000.out)⟩; have n1_ : Aside0 (wr.heap[gb125]? = some (.cells #[.slice none 0 0, .int .i64 0] 33 (0, 0))) := ⟨by rw [← hq_]; exact (by (with_reducible repeat (first | refine blk_drewN ?_ _ | refine blk_drew ?_ | refine blk_alloc ?_ _)); exact BK125.out)⟩; have n2_ : Aside0 (wr.heap[gb127]? = some (.cells #[u128000, .int .i64 t126] 33 (0, 0))) := ⟨by rw [← hq_]; exact (by (with_reducible repeat (first | refine blk_drewN ?_ _ | refine blk_drew ?_ | refine blk_alloc ?_ _)); exact BK127.out)⟩; have n3_ : Aside0 (Below w.heap.size w wr) := ⟨by rw [← hq_]; exact (by repeat (first | (with_reducible first | exact HB.out | apply below_alloc | apply pw_below_drewN | apply below_drew1 | refine below_set ?_ GE125.out | refine below_set ?_ GE127.out) | exact HB.out))⟩; clear HO_128000 BK125 BK127 HB hq_; have HO_128000 := n0_; have BK125 := n1_; have BK127 := n2_; have HB := n3_; clear n0_ n1_ n2_ n3_))))
     have n0_ := Aside0.mk (Kd.R_drew HO_128000.out)
     have n1_ := Aside0.mk (blk_drew BK125.out)
     have n2_ := Aside0.mk (blk_drew BK127.out)
     have n3_ := Aside0.mk (below_drew1 HB.out)
     clear HO_128000
     clear BK125
     clear BK127
     clear HB
     have HO_128000 := n0_
     have BK125 := n1_
     have BK127 := n2_
     have HB := n3_
     clear n0_ n1_ n2_ n3_
     refine start_ (n := 9) (S := fun w' => w'.cell? ⟨gb127, 0, none⟩ = some (u128000) ∧ w'.cell? ⟨gb127, 1, none⟩ = some (.int .i64 t126)) (ds := [8]) (fl_ 0 9) (by kernel_rfl) rfl rfl ⟨(blk_cell BK127.out 0).trans rfl, (blk_cell BK127.out 1).trans rfl⟩ (fun hHeld => ?_); refine with_tabW hypercubelaw1_Facts.tab8 hypercubelaw1_Facts.bits8 (fun HT_ HW_ => ?_)
     generalize wr.drew = w22 at HO_128000 BK125 BK127 HB hHeld ⊢
     refine pure_ (i := 0) (N := some 38) (v := ?_) (a' := ?_) (fl_ 1 8) rfl rfl (any_of HT_.out (by kernel_rfl)) (fun _ _ _ h => h) (Or.inl ⟨by rfl, ?_⟩) ?_ ?_
     rotate_left
     ·intro w'
      go_simp
      with_reducible rfl
     rotate_left
     ·simp only [Act.put, sl0, sl1, sl2, i64_w, i32_w]
      rfl
     refine pure_ (i := 2) (N := some 40) (v := ?_) (a' := ?_) #[Y,Z,Y,Z,Z,Z,Z,Z,Z] rfl rfl (any_of HT_.out (by kernel_rfl)) (fun _ _ _ h => h) (Or.inl ⟨by rfl, ?_⟩) ?_ ?_
     rotate_left
     ·intro w'
      go_simp
      with_reducible rfl
     rotate_left
     ·simp only [Act.put, sl0, sl1, sl2, i64_w, i32_w]
      rfl
     refine take_ (i := 1) (N := some 39) (v := ?_) (a' := ?_) (fl_ 3 6) rfl rfl (take_ofW HT_.out HW_.out (by kernel_rfl)) (fun _ _ _ h => h) (Or.inl ⟨by rfl, ?_⟩) hHeld ?_ ?_
     rotate_left
     ·rintro w' ⟨s0, s1⟩
      go_simp
      with_reducible rfl
     rotate_left
     ·simp only [Act.put, sl0, sl1, sl2, i64_w, i32_w]
      rfl
     refine one_ (i := 3) (N := some 41) (fl_ 4 5) rfl rfl (one_of HT_.out (by kernel_rfl)) (by decide) (fun K hK => ?_)
     refine goes_ Try.func70 (by kernel_rfl) rfl #[.int .i64 (wrap64 (x11_1 + 2)), .int .i64 5] (by rfl) rfl rfl (by (try simp only [List.map_toArray, List.map_cons, List.map_nil]); first | done | rfl | (simp only [List.length_drop, List.length_take]; rfl)) ?_
     with_reducible refine (hypercubelaw1_within.calls (wrap64 (x11_1 + 2)) 5 t134 _ A20.out).mono ?_
     rintro e w' ⟨rfl, ⟨nd, rfl⟩⟩
     refine ⟨_, rfl, ?_⟩
     refine hK.out _ _ ⟨(blk_cell BK127.out 0).trans rfl, (blk_cell BK127.out 1).trans rfl⟩ (fun hHeld => ?_)
     clear hK K
     refine norm_ (a' := ?_) ?_ ?_
     rotate_left
     ·show Act.put _ (some 41) _ = _
      simp only [Act.put, sl0, sl1, sl2, i64_w, i32_w]
      rfl
     refine pure_ (i := 4) (N := some 42) (v := ?_) (a' := ?_) (fl_ 5 4) rfl rfl (any_of HT_.out (by kernel_rfl)) (fun _ _ _ h => h) (Or.inl ⟨by rfl, ?_⟩) ?_ ?_
     rotate_left
     ·intro w'
      go_simp
      with_reducible rfl
     rotate_left
     ·simp only [Act.put, sl0, sl1, sl2, i64_w, i32_w]
      rfl
     refine one_ (i := 5) (N := some 43) (fl_ 6 3) rfl rfl (one_of HT_.out (by kernel_rfl)) (by decide) (fun K hK => ?_)
     refine value_ (w1 := ?_) (v := ?_) (by rfl) rfl ?_ ?_
     rotate_left 2
     ·go_simp
      constructor
      ·rfl
      rfl
     refine hK.out _ _ ⟨(blk_cell (blk_alloc BK127.out _) 0).trans rfl, (blk_cell (blk_alloc BK127.out _) 1).trans rfl⟩ (fun hHeld => ?_)
     clear hK K
     refine norm_ (a' := ?_) ?_ ?_
     rotate_left
     ·show Act.put _ (some 43) _ = _
      simp only [Act.put, sl0, sl1, sl2, i64_w, i32_w]
      rfl
     refine one_ (i := 6) (N := some 44) (fl_ 7 2) rfl rfl (one_of HT_.out (by kernel_rfl)) (by decide) (fun K hK => ?_)
     refine Kd.R_append_step (Kd.int .i64) (w0 := w) w.heap.size (by rfl) (.tmp 39) (.tmp 43) 24 3 (.int .i64 0) 8 rfl Try.underlying24 info3 rfl (by decide) (by omega) u128000 x128000_1 (wrap64 (1 + t134)) [.int .i64 (wrap64 (1 + t134))] (fun _ => True) (fun _ => False) rfl rfl ?aP (fun _ hk => hk.elim) ?aF ?aO ?aB ?aS ?aL ?_
     (case aP => exact rfl)
     (case aB => exact (by repeat (first | (with_reducible first | exact HB.out | apply below_alloc | apply pw_below_drewN | apply below_drew1 | refine below_set ?_ GE125.out | refine below_set ?_ GE127.out) | exact HB.out)))
     (case aF => exact (fun _ _ => trivial))
     (case aO => exact (by (with_reducible repeat (first | apply Kd.R_alloc | apply Kd.R_drewN | apply Kd.R_drew)); exact HO_128000.out))
     (case aS => exact (below_size (by repeat (first | (with_reducible first | exact HB.out | apply below_alloc | apply pw_below_drewN | apply below_drew1 | refine below_set ?_ GE125.out | refine below_set ?_ GE127.out) | exact HB.out))))
     (case aL => have := LMc21.out; omega)
     intro v136 w23 ho hb hg hat
     rw [← Ny135.out] at ho
     have n0_ := Aside0.mk (blk_grown (g := gb125) (o := .cells #[.slice none 0 0, .int .i64 0] 33 (0, 0)) (by (with_reducible repeat (first | refine blk_drewN ?_ _ | refine blk_drew ?_ | refine blk_alloc ?_ _)); exact BK125.out) hg (Kd.R_ne HO_128000.out BK125.out (by decide)))
     have n1_ := Aside0.mk (blk_grown (g := gb127) (o := .cells #[u128000, .int .i64 t126] 33 (0, 0)) (by (with_reducible repeat (first | refine blk_drewN ?_ _ | refine blk_drew ?_ | refine blk_alloc ?_ _)); exact BK127.out) hg (Kd.R_ne HO_128000.out BK127.out (by decide)))
     have n2_ := Aside0.mk (hb)
     have n3_ := Aside0.mk (ho)
     clear BK125
     clear BK127
     clear HB
     clear HO_128000
     have BK125 := n0_
     have BK127 := n1_
     have HB := n2_
     have HO137 := n3_
     clear n0_ n1_ n2_ n3_
     clear ho hb hg hat
     obtain ⟨Ao24, co24, eo24⟩ := Kd.R_slice HO137.out
     (first | subst eo24 | (injection eo24 with f1_ f2_ f3_; have f4_ := f1_.symm; have f5_ := f3_.symm; clear f1_ f2_ f3_; subst f4_; subst f5_))
     refine hK.out _ _ ⟨(blk_cell BK127.out 0).trans rfl, (blk_cell BK127.out 1).trans rfl⟩ (fun hHeld => ?_)
     clear hK K
     refine norm_ (a' := ?_) ?_ ?_
     rotate_left
     ·show Act.put _ (some 44) _ = _
      simp only [Act.put, sl0, sl1, sl2, i64_w, i32_w]
      rfl
     refine pure_ (i := 7) (N := some 45) (v := ?_) (a' := ?_) (fl_ 8 1) rfl rfl (any_of HT_.out (by kernel_rfl)) (fun _ _ _ h => h) (Or.inl ⟨by rfl, ?_⟩) ?_ ?_
     rotate_left
     ·intro w'
      go_simp
      with_reducible rfl
     rotate_left
     ·simp only [Act.put, sl0, sl1, sl2, i64_w, i32_w]
      rfl
     refine last_ (i := 8) (N := none) (fl_ 9 0) rfl rfl (one_of HT_.out (by kernel_rfl)) (by decide) (fun K hK => ?_)
     have hs25 : w23.cell? ⟨gb127, 0, none⟩ = some (u128000) := (blk_cell BK127.out 0).trans rfl
     have hfs25 := blk_frozen BK127.out 0
     have hns25_0 := NB125_127.out
     have hms25_0 := NB127_125.out
     refine skip_ (w1 := ?_) (by rfl) rfl ?_ ?_
     rotate_left
     ·go_simp
      rfl
     refine hK.out _ _ ?_
     clear hK K
     refine done_ (done_of HT_.out (by kernel_rfl)) ?_
     try go_wp2
     go_roundg k1
     case measure => have := HK1.out; omega
     case rel => exact ⟨(wrap64 (x11_1 + 1)), (y135), (.slice Ao24 y135.length co24), (by first | rfl | (simp; done) | (simp [*]; done)), H', ⟨by have := HK1.out; omega⟩, ⟨by (with_reducible repeat (first | apply Kd.R_alloc | apply Kd.R_drewN | apply Kd.R_drew)); exact Kd.R_mono (Kd.R_far (p := ⟨gb127, 0, none⟩) (Kd.R_types HO137.out BK127.out (by decide)) (fun _ hk => hk.2) (.slice Ao24 y135.length co24)) (fun _ hk => trivial)⟩, ⟨by (with_reducible repeat (first | refine blk_drewN ?_ _ | refine blk_drew ?_ | refine blk_alloc ?_ _)); refine blk_far ?_ NB125_127.out _; (with_reducible repeat (first | refine blk_drewN ?_ _ | refine blk_drew ?_ | refine blk_alloc ?_ _)); exact BK125.out⟩, ⟨by (with_reducible repeat (first | refine blk_drewN ?_ _ | refine blk_drew ?_ | refine blk_alloc ?_ _)); refine blk_put (cs := #[u128000, .int .i64 t126]) ?_ 0 _ rfl; (with_reducible repeat (first | refine blk_drewN ?_ _ | refine blk_drew ?_ | refine blk_alloc ?_ _)); exact BK127.out⟩, ⟨by repeat (first | (with_reducible first | exact HB.out | apply below_alloc | apply pw_below_drewN | apply below_drew1 | refine below_set ?_ GE125.out | refine below_set ?_ GE127.out) | exact HB.out)⟩⟩
    rw [if_pos c12] at H
    have c12b0 : decide (x11_1 < (l1.length : Int)) = true := decide_eq_true c12
    clear c12
    by_cases c13 : 0 ≤ x11_1
    rotate_left
    ·rw [if_neg c13] at H
     exact absurd H (by simp)
    rw [if_pos c13] at H
    have c13b0 : decide (0 ≤ x11_1) = true := decide_eq_true c13
    clear c13
    replace H := Option.bind_eq_some_iff.mp H
    obtain ⟨t130, A140, H⟩ := H
    replace H : (if x128000_1.length < 17592186044416 then (hypercubelaw1_Facts.l0 k1 a0 l1 l3 (wrap64 (x11_1 + 1)) (x128000_1 ++ [wrap64 (1 + t130)]) t126) else (none)) = some (r1, r2, r3) := H
    have A14 := Aside0.mk A140
    clear A140
    by_cases c15 : x128000_1.length < 17592186044416
    rotate_left
    ·rw [if_neg c15] at H
     exact absurd H (by simp)
    rw [if_pos c15] at H
    have LMc15 := Aside0.mk c15
    clear c15
    obtain ⟨y131, hy131⟩ : ∃ y_ : List Int, y_ = (x128000_1 ++ [wrap64 (1 + t130)]) := ⟨_, rfl⟩
    replace H : (hypercubelaw1_Facts.l0 k1 a0 l1 l3 (wrap64 (x11_1 + 1)) y131 t126) = some (r1, r2, r3) := by first | (rw [hy131]; with_reducible exact H) | (have H2_ := (Option.bind_some _ _).symm.trans H; rw [hy131]; with_reducible exact H2_) | (have H2_ := (Option.bind_some _ _).symm.trans H; with_reducible exact H2_) | with_reducible exact H | (rw [hy131]; exact H) | exact H
    have Ny131 := Aside0.mk hy131
    clear hy131
    have H' := Aside0.mk H
    clear H
    try go_wp2_with (first | ((with_reducible refine gate_callee (f := 70) rfl ?_); refine goesL_ (some 24) rfl rfl Try.func70 (by kernel_rfl) rfl #[.int .i64 a0, .int .i64 4] rfl (by (try simp only [List.map_toArray, List.map_cons, List.map_nil]); first | done | rfl | (simp only [List.length_drop, List.length_take]; rfl)) ?_; (with_reducible refine (hypercubelaw1_within.calls a0 4 t128 _ A10.out).mono ?_); rintro e w' ⟨rfl, ⟨nd, rfl⟩⟩; refine ⟨_, rfl, ?_⟩; (try (rw [drewN_self wr]; generalize hq_ : World.drewN wr _ = wr; have n0_ : Aside0 (Kd.R (Kd.int .i64) 3 wr w.heap.size (fun _ => True) u128000 x128000_1) := ⟨by rw [← hq_]; exact (by (with_reducible repeat (first | apply Kd.R_alloc | apply Kd.R_drewN | apply Kd.R_drew)); exact HO_128000.out)⟩; have n1_ : Aside0 (wr.heap[gb125]? = some (.cells #[.slice none 0 0, .int .i64 0] 33 (0, 0))) := ⟨by rw [← hq_]; exact (by (with_reducible repeat (first | refine blk_drewN ?_ _ | refine blk_drew ?_ | refine blk_alloc ?_ _)); exact BK125.out)⟩; have n2_ : Aside0 (wr.heap[gb127]? = some (.cells #[u128000, .int .i64 t126] 33 (0, 0))) := ⟨by rw [← hq_]; exact (by (with_reducible repeat (first | refine blk_drewN ?_ _ | refine blk_drew ?_ | refine blk_alloc ?_ _)); exact BK127.out)⟩; have n3_ : Aside0 (Below w.heap.size w wr) := ⟨by rw [← hq_]; exact (by repeat (first | (with_reducible first | exact HB.out | apply below_alloc | apply pw_below_drewN | apply below_drew1 | refine below_set ?_ GE125.out | refine below_set ?_ GE127.out) | exact HB.out))⟩; clear HO_128000 BK125 BK127 HB hq_; have HO_128000 := n0_; have BK125 := n1_; have BK127 := n2_; have HB := n3_; clear n0_ n1_ n2_ n3_)); have p129 : 0 ≤ (x11_1 : Int) := of_decide_eq_true (by first | (with_reducible assumption) | assumption); have q129 : x11_1 < (l1.length : Int) := of_decide_eq_true (by first | (with_reducible assumption) | assumption); obtain ⟨ad129, e129, hx129_0⟩ := Kd.at_int HR1.out x11_1 p129 q129; cases e129; replace hx129_0 := (HB.out.cell (World.block_lt_of_cell? w _ hx129_0)).trans hx129_0; replace p129 := eq_true p129; replace q129 := eq_true q129))
    have n0_ := Aside0.mk (Kd.R_drew HO_128000.out)
    have n1_ := Aside0.mk (blk_drew BK125.out)
    have n2_ := Aside0.mk (blk_drew BK127.out)
    have n3_ := Aside0.mk (below_drew1 HB.out)
    clear HO_128000
    clear BK125
    clear BK127
    clear HB
    have HO_128000 := n0_
    have BK125 := n1_
    have BK127 := n2_
    have HB := n3_
    clear n0_ n1_ n2_ n3_
    refine start_ (n := 9) (S := fun w' => w'.cell? ⟨gb127, 0, none⟩ = some (u128000) ∧ w'.cell? ⟨gb127, 1, none⟩ = some (.int .i64 t126)) (ds := [8]) (fl_ 0 9) (by kernel_rfl) rfl rfl ⟨(blk_cell BK127.out 0).trans rfl, (blk_cell BK127.out 1).trans rfl⟩ (fun hHeld => ?_); refine with_tabW hypercubelaw1_Facts.tab8 hypercubelaw1_Facts.bits8 (fun HT_ HW_ => ?_)
    generalize wr.drew = w16 at HO_128000 BK125 BK127 HB hHeld ⊢
    refine pure_ (i := 0) (N := some 38) (v := ?_) (a' := ?_) (fl_ 1 8) rfl rfl (any_of HT_.out (by kernel_rfl)) (fun _ _ _ h => h) (Or.inl ⟨by rfl, ?_⟩) ?_ ?_
    rotate_left
    ·intro w'
     go_simp
     with_reducible rfl
    rotate_left
    ·simp only [Act.put, sl0, sl1, sl2, i64_w, i32_w]
     rfl
    refine pure_ (i := 2) (N := some 40) (v := ?_) (a' := ?_) #[Y,Z,Y,Z,Z,Z,Z,Z,Z] rfl rfl (any_of HT_.out (by kernel_rfl)) (fun _ _ _ h => h) (Or.inl ⟨by rfl, ?_⟩) ?_ ?_
    rotate_left
    ·intro w'
     go_simp
     with_reducible rfl
    rotate_left
    ·simp only [Act.put, sl0, sl1, sl2, i64_w, i32_w]
     rfl
    refine take_ (i := 1) (N := some 39) (v := ?_) (a' := ?_) (fl_ 3 6) rfl rfl (take_ofW HT_.out HW_.out (by kernel_rfl)) (fun _ _ _ h => h) (Or.inl ⟨by rfl, ?_⟩) hHeld ?_ ?_
    rotate_left
    ·rintro w' ⟨s0, s1⟩
     go_simp
     with_reducible rfl
    rotate_left
    ·simp only [Act.put, sl0, sl1, sl2, i64_w, i32_w]
     rfl
    refine one_ (i := 3) (N := some 41) (fl_ 4 5) rfl rfl (one_of HT_.out (by kernel_rfl)) (by decide) (fun K hK => ?_)
    refine goes_ Try.func70 (by kernel_rfl) rfl #[.int .i64 (rd l1 x11_1), .int .i64 5] (by rfl) rfl rfl (by (try simp only [List.map_toArray, List.map_cons, List.map_nil]); first | done | rfl | (simp only [List.length_drop, List.length_take]; rfl)) ?_
    with_reducible refine (hypercubelaw1_within.calls (rd l1 x11_1) 5 t130 _ A14.out).mono ?_
    rintro e w' ⟨rfl, ⟨nd, rfl⟩⟩
    refine ⟨_, rfl, ?_⟩
    refine hK.out _ _ ⟨(blk_cell BK127.out 0).trans rfl, (blk_cell BK127.out 1).trans rfl⟩ (fun hHeld => ?_)
    clear hK K
    refine norm_ (a' := ?_) ?_ ?_
    rotate_left
    ·show Act.put _ (some 41) _ = _
     simp only [Act.put, sl0, sl1, sl2, i64_w, i32_w]
     rfl
    refine pure_ (i := 4) (N := some 42) (v := ?_) (a' := ?_) (fl_ 5 4) rfl rfl (any_of HT_.out (by kernel_rfl)) (fun _ _ _ h => h) (Or.inl ⟨by rfl, ?_⟩) ?_ ?_
    rotate_left
    ·intro w'
     go_simp
     with_reducible rfl
    rotate_left
    ·simp only [Act.put, sl0, sl1, sl2, i64_w, i32_w]
     rfl
    refine one_ (i := 5) (N := some 43) (fl_ 6 3) rfl rfl (one_of HT_.out (by kernel_rfl)) (by decide) (fun K hK => ?_)
    refine value_ (w1 := ?_) (v := ?_) (by rfl) rfl ?_ ?_
    rotate_left 2
    ·go_simp
     constructor
     ·rfl
     rfl
    refine hK.out _ _ ⟨(blk_cell (blk_alloc BK127.out _) 0).trans rfl, (blk_cell (blk_alloc BK127.out _) 1).trans rfl⟩ (fun hHeld => ?_)
    clear hK K
    refine norm_ (a' := ?_) ?_ ?_
    rotate_left
    ·show Act.put _ (some 43) _ = _
     simp only [Act.put, sl0, sl1, sl2, i64_w, i32_w]
     rfl
    refine one_ (i := 6) (N := some 44) (fl_ 7 2) rfl rfl (one_of HT_.out (by kernel_rfl)) (by decide) (fun K hK => ?_)
    refine Kd.R_append_step (Kd.int .i64) (w0 := w) w.heap.size (by rfl) (.tmp 39) (.tmp 43) 24 3 (.int .i64 0) 8 rfl Try.underlying24 info3 rfl (by decide) (by omega) u128000 x128000_1 (wrap64 (1 + t130)) [.int .i64 (wrap64 (1 + t130))] (fun _ => True) (fun _ => False) rfl rfl ?aP (fun _ hk => hk.elim) ?aF ?aO ?aB ?aS ?aL ?_
    (case aP => exact rfl)
    (case aB => exact (by repeat (first | (with_reducible first | exact HB.out | apply below_alloc | apply pw_below_drewN | apply below_drew1 | refine below_set ?_ GE125.out | refine below_set ?_ GE127.out) | exact HB.out)))
    (case aF => exact (fun _ _ => trivial))
    (case aO => exact (by (with_reducible repeat (first | apply Kd.R_alloc | apply Kd.R_drewN | apply Kd.R_drew)); exact HO_128000.out))
    (case aS => exact (below_size (by repeat (first | (with_reducible first | exact HB.out | apply below_alloc | apply pw_below_drewN | apply below_drew1 | refine below_set ?_ GE125.out | refine below_set ?_ GE127.out) | exact HB.out))))
    (case aL => have := LMc15.out; omega)
    intro v132 w17 ho hb hg hat
    rw [← Ny131.out] at ho
    have n0_ := Aside0.mk (blk_grown (g := gb125) (o := .cells #[.slice none 0 0, .int .i64 0] 33 (0, 0)) (by (with_reducible repeat (first | refine blk_drewN ?_ _ | refine blk_drew ?_ | refine blk_alloc ?_ _)); exact BK125.out) hg (Kd.R_ne HO_128000.out BK125.out (by decide)))
    have n1_ := Aside0.mk (blk_grown (g := gb127) (o := .cells #[u128000, .int .i64 t126] 33 (0, 0)) (by (with_reducible repeat (first | refine blk_drewN ?_ _ | refine blk_drew ?_ | refine blk_alloc ?_ _)); exact BK127.out) hg (Kd.R_ne HO_128000.out BK127.out (by decide)))
    have n2_ := Aside0.mk (hb)
    have n3_ := Aside0.mk (ho)
    clear BK125
    clear BK127
    clear HB
    clear HO_128000
    have BK125 := n0_
    have BK127 := n1_
    have HB := n2_
    have HO133 := n3_
    clear n0_ n1_ n2_ n3_
    clear ho hb hg hat
    obtain ⟨Ao18, co18, eo18⟩ := Kd.R_slice HO133.out
    (first | subst eo18 | (injection eo18 with f1_ f2_ f3_; have f4_ := f1_.symm; have f5_ := f3_.symm; clear f1_ f2_ f3_; subst f4_; subst f5_))
    refine hK.out _ _ ⟨(blk_cell BK127.out 0).trans rfl, (blk_cell BK127.out 1).trans rfl⟩ (fun hHeld => ?_)
    clear hK K
    refine norm_ (a' := ?_) ?_ ?_
    rotate_left
    ·show Act.put _ (some 44) _ = _
     simp only [Act.put, sl0, sl1, sl2, i64_w, i32_w]
     rfl
    refine pure_ (i := 7) (N := some 45) (v := ?_) (a' := ?_) (fl_ 8 1) rfl rfl (any_of HT_.out (by kernel_rfl)) (fun _ _ _ h => h) (Or.inl ⟨by rfl, ?_⟩) ?_ ?_
    rotate_left
    ·intro w'
     go_simp
     with_reducible rfl
    rotate_left
    ·simp only [Act.put, sl0, sl1, sl2, i64_w, i32_w]
     rfl
    refine last_ (i := 8) (N := none) (fl_ 9 0) rfl rfl (one_of HT_.out (by kernel_rfl)) (by decide) (fun K hK => ?_)
    have hs19 : w17.cell? ⟨gb127, 0, none⟩ = some (u128000) := (blk_cell BK127.out 0).trans rfl
    have hfs19 := blk_frozen BK127.out 0
    have hns19_0 := NB125_127.out
    have hms19_0 := NB127_125.out
    refine skip_ (w1 := ?_) (by rfl) rfl ?_ ?_
    rotate_left
    ·go_simp
     rfl
    refine hK.out _ _ ?_
    clear hK K
    refine done_ (done_of HT_.out (by kernel_rfl)) ?_
    try go_wp2
    go_roundg k1
    case measure => have := HK1.out; omega
    case rel => exact ⟨(wrap64 (x11_1 + 1)), (y131), (.slice Ao18 y131.length co18), (by first | rfl | (simp; done) | (simp [*]; done)), H', ⟨by have := HK1.out; omega⟩, ⟨by (with_reducible repeat (first | apply Kd.R_alloc | apply Kd.R_drewN | apply Kd.R_drew)); exact Kd.R_mono (Kd.R_far (p := ⟨gb127, 0, none⟩) (Kd.R_types HO133.out BK127.out (by decide)) (fun _ hk => hk.2) (.slice Ao18 y131.length co18)) (fun _ hk => trivial)⟩, ⟨by (with_reducible repeat (first | refine blk_drewN ?_ _ | refine blk_drew ?_ | refine blk_alloc ?_ _)); refine blk_far ?_ NB125_127.out _; (with_reducible repeat (first | refine blk_drewN ?_ _ | refine blk_drew ?_ | refine blk_alloc ?_ _)); exact BK125.out⟩, ⟨by (with_reducible repeat (first | refine blk_drewN ?_ _ | refine blk_drew ?_ | refine blk_alloc ?_ _)); refine blk_put (cs := #[u128000, .int .i64 t126]) ?_ 0 _ rfl; (with_reducible repeat (first | refine blk_drewN ?_ _ | refine blk_drew ?_ | refine blk_alloc ?_ _)); exact BK127.out⟩, ⟨by repeat (first | (with_reducible first | exact HB.out | apply below_alloc | apply pw_below_drewN | apply below_drew1 | refine below_set ?_ GE125.out | refine below_set ?_ GE127.out) | exact HB.out)⟩⟩
   rw [if_neg c11] at H
   have c11b0 : decide (x11_1 ≤ t128) = false := decide_eq_false c11
   clear c11
   replace H := Option.bind_eq_some_iff.mp H
   obtain ⟨t138, A260, H⟩ := H
   replace H : (if t138 = 0 then (if 0 < (x128000_1.length : Int) then (hypercubelaw1_Facts.j1 k1 l3 (x128000_1.set (0 : Int).toNat 16) t126) else (none)) else (hypercubelaw1_Facts.j1 k1 l3 x128000_1 t126)) = some (r1, r2, r3) := H
   have A26 := Aside0.mk A260
   clear A260
   have HC27 := Aside0.mk H
   clear H
   go_upto_if 48 with (first | ((with_reducible refine gate_callee (f := 70) rfl ?_); refine goesL_ (some 24) rfl rfl Try.func70 (by kernel_rfl) rfl #[.int .i64 a0, .int .i64 4] rfl (by (try simp only [List.map_toArray, List.map_cons, List.map_nil]); first | done | rfl | (simp only [List.length_drop, List.length_take]; rfl)) ?_; (with_reducible refine (hypercubelaw1_within.calls a0 4 t128 _ A10.out).mono ?_); rintro e w' ⟨rfl, ⟨nda, rfl⟩⟩; refine ⟨_, rfl, ?_⟩) | ((with_reducible refine gate_callee (f := 70) rfl ?_); refine goesL_ (some 47) rfl rfl Try.func70 (by kernel_rfl) rfl #[.int .i64 a0, .int .i64 7] rfl (by (try simp only [List.map_toArray, List.map_cons, List.map_nil]); first | done | rfl | (simp only [List.length_drop, List.length_take]; rfl)) ?_; (with_reducible refine (hypercubelaw1_within.calls a0 7 t138 _ A26.out).mono ?_); rintro e w' ⟨rfl, ⟨ndb, rfl⟩⟩; refine ⟨_, rfl, ?_⟩))
   (try simp only [Act.put, sl0, sl1, sl2])
   go_cut [] (fun wc => ∃ (kq : Nat) (x128000_26 : List Int) (u128000 : Value), Aside0 (hypercubelaw1_Facts.j1 kq l3 x128000_26 t126 = some (r1, r2, r3)) ∧ Aside0 (kq ≤ k1) ∧ Aside0 (Kd.R (Kd.int .i64) 3 wc w.heap.size (fun _ => True) u128000 x128000_26) ∧ Aside0 (wc.heap[gb125]? = some (.cells #[(.slice none 0 0), .int .i64 0] 33 (0, 0))) ∧ Aside0 (wc.heap[gb127]? = some (.cells #[u128000, .int .i64 t126] 33 (0, 0))) ∧ Aside0 (Below w.heap.size w wc))
   case first =>
    have H := HC27.out
    clear HC27
    by_cases c28 : t138 = 0
    rotate_left
    ·rw [if_neg c28] at H
     have c28b0 : (t138 == 0) = false := beq_eq_false_iff_ne.mpr c28
     have c28b1 : (t138 != 0) = true := bne_iff_ne.mpr c28
     (first | rw [c28b0] | (simp only [i64_w, i32_w]; rw [c28b0]) | skip)
     have H' := Aside0.mk H
     clear H
     go_wp2
     go_meet
     case rel => exact ⟨_, (x128000_1), (u128000), H', ⟨by have := HK1.out; first | omega | exact Nat.le_refl _⟩, ⟨by (with_reducible repeat (first | apply Kd.R_alloc | apply Kd.R_drewN | apply Kd.R_drew)); exact HO_128000.out⟩, ⟨by (with_reducible repeat (first | refine blk_drewN ?_ _ | refine blk_drew ?_ | refine blk_alloc ?_ _)); exact BK125.out⟩, ⟨by (with_reducible repeat (first | refine blk_drewN ?_ _ | refine blk_drew ?_ | refine blk_alloc ?_ _)); exact BK127.out⟩, ⟨by repeat (first | (with_reducible first | exact HB.out | apply below_alloc | apply pw_below_drewN | apply below_drew1 | refine below_set ?_ GE125.out | refine below_set ?_ GE127.out) | exact HB.out)⟩⟩
    rw [if_pos c28] at H
    have c28b0 : (t138 == 0) = true := beq_iff_eq.mpr c28
    have c28b1 : (t138 != 0) = false := bne_eq_false_iff_eq.mpr c28
    clear c28
    (first | rw [c28b0] | (simp only [i64_w, i32_w]; rw [c28b0]) | skip)
    by_cases c29 : 0 < (x128000_1.length : Int)
    rotate_left
    ·rw [if_neg c29] at H
     exact absurd H (by simp)
    rw [if_pos c29] at H
    have c29b0 : decide (0 < (x128000_1.length : Int)) = true := decide_eq_true c29
    have c29b1 : decide (0 < x128000_1.length) = true := decide_eq_true (by omega)
    clear c29
    obtain ⟨y139, hy139⟩ : ∃ y_ : List Int, y_ = (x128000_1.set (0 : Int).toNat 16) := ⟨_, rfl⟩
    replace H : (hypercubelaw1_Facts.j1 k1 l3 y139 t126) = some (r1, r2, r3) := by first | (rw [hy139]; with_reducible exact H) | (have H2_ := (Option.bind_some _ _).symm.trans H; rw [hy139]; with_reducible exact H2_) | (have H2_ := (Option.bind_some _ _).symm.trans H; with_reducible exact H2_) | with_reducible exact H | (rw [hy139]; exact H) | exact H
    have Ny139 := Aside0.mk hy139
    clear hy139
    have H' := Aside0.mk H
    clear H
    obtain ⟨wz, hwz⟩ : ∃ wz, wz = wr.drewN (nda + ndb) := ⟨_, rfl⟩
    rw [← hwz]
    replace HO_128000 := Aside0.mk (Kd.R_drewN (m := nda + ndb) HO_128000.out)
    rw [← hwz] at HO_128000
    replace BK125 := Aside0.mk (blk_drewN BK125.out (nda + ndb))
    rw [← hwz] at BK125
    replace BK127 := Aside0.mk (blk_drewN BK127.out (nda + ndb))
    rw [← hwz] at BK127
    replace HB := Aside0.mk (pw_below_drewN HB.out (nda + ndb))
    rw [← hwz] at HB
    clear hwz
    have hnb31 := NB127_125.out
    have hnc31 := NB125_127.out
    have hcz32_0 : wz.cell? ⟨gb127, 0, none⟩ = some (u128000) := (blk_cell BK127.out 0).trans rfl
    have hcz32_1 : wz.cell? ⟨gb127, 1, none⟩ = some (.int .i64 t126) := (blk_cell BK127.out 1).trans rfl
    have hfz32_0 := blk_frozen BK127.out 0
    have hfz32_1 := blk_frozen BK127.out 1
    have p30 : 0 ≤ (0 : Int) := (by omega)
    have q30 : (0 : Int) < ((x128000_1.length : Int) : Int) := od_
    have qi30 : (0 < x128000_1.length) = True := eq_true (by omega)
    obtain ⟨go30, co30, eo30, gb30, gl30, cl30, HG30⟩ := Kd.R_form HO_128000.out (by omega)
    (first | cases eo30 | (injection eo30 with ea_ en_ ec_; (first | subst ea_ | (injection ea_ with ea_; subst ea_)); subst ec_; clear en_))
    have GB30 := Aside0.mk gb30
    have GG30 := Aside0.mk HG30
    clear gb30 gl30 HG30
    obtain ⟨hx30_0, hf30_0⟩ := Kd.R_celln 0 HO_128000.out (0 : Int) p30 q30
    (try rw [show ((0 : Int)).toNat = 0 from rfl] at hx30_0)
    (try simp only [Nat.reduceMul, Nat.zero_mul, Nat.zero_add, Nat.reduceAdd] at hx30_0)
    (try rw [show ((0 : Int)).toNat = 0 from rfl] at hf30_0)
    (try simp only [Nat.reduceMul, Nat.zero_mul, Nat.zero_add, Nat.reduceAdd] at hf30_0)
    replace p30 := eq_true p30
    replace q30 := eq_true q30
    have HP33 := Kd.R_putg HO_128000.out (0 : Int) 16
    go_wp2_with (first | ((with_reducible refine gate_store (t := 3) (p := 51) rfl ?_); refine store_event (t := 3) (p := 51) (v := ?vo_w34) (w1 := (wz.setCell ⟨go30, (0 : Int).toNat, none⟩ (.int .i64 16))) ?hg ?ho ?hn ?hr ?_; (case ho => rfl); (case hg => rfl); (case hn => rfl); (case hr => first | (go_simp; done) | (go_simp; rfl)); intro w34 hw; have hg : wz.grownBy w34 (some go30) := (by rw [hw]; exact HP33.2); have hp_ : Kd.R (Kd.int .i64) 3 w34 w.heap.size (fun _ => True) (.slice (some ⟨go30, 0, none⟩) x128000_1.length co30) y139 := (by rw [hw, Ny139.out]; exact HP33.1); clear HP33; have n0_ := Aside0.mk (hp_); have n1_ := Aside0.mk (blk_grown (g := gb125) (o := .cells #[.slice none 0 0, .int .i64 0] 33 (0, 0)) (by (with_reducible repeat (first | refine blk_drewN ?_ _ | refine blk_drew ?_ | refine blk_alloc ?_ _)); exact BK125.out) hg (Kd.R_ne HO_128000.out BK125.out (by decide))); have n2_ := Aside0.mk (blk_grown (g := gb127) (o := .cells #[.slice (some ⟨go30, 0, none⟩) x128000_1.length co30, .int .i64 t126] 33 (0, 0)) (by (with_reducible repeat (first | refine blk_drewN ?_ _ | refine blk_drew ?_ | refine blk_alloc ?_ _)); exact BK127.out) hg (Kd.R_ne HO_128000.out BK127.out (by decide))); have n3_ := Aside0.mk ((by rw [hw]; exact below_set (HB.out) GB30.out : Below w.heap.size w w34)); clear HO_128000; clear BK125; clear BK127; clear HB; have HO_128000 := n0_; have BK125 := n1_; have BK127 := n2_; have HB := n3_; clear n0_ n1_ n2_ n3_; clear hg hw hp_))
    go_meet
    case rel => exact ⟨_, (y139), (.slice (some ⟨go30, 0, none⟩) x128000_1.length co30), H', ⟨by have := HK1.out; first | omega | exact Nat.le_refl _⟩, ⟨by (with_reducible repeat (first | apply Kd.R_alloc | apply Kd.R_drewN | apply Kd.R_drew)); exact HO_128000.out⟩, ⟨by (with_reducible repeat (first | refine blk_drewN ?_ _ | refine blk_drew ?_ | refine blk_alloc ?_ _)); exact BK125.out⟩, ⟨by (with_reducible repeat (first | refine blk_drewN ?_ _ | refine blk_drew ?_ | refine blk_alloc ?_ _)); exact BK127.out⟩, ⟨by repeat (first | (with_reducible first | exact HB.out | apply below_alloc | apply pw_below_drewN | apply below_drew1 | refine below_set ?_ GE125.out | refine below_set ?_ GE127.out) | exact HB.out)⟩⟩
   case rest =>
    clear HC27
    try clear c1
    try clear p1
    try clear q1
    try clear hx1
    try clear c2
    try clear p2
    try clear c3
    try clear p3
    try clear q3
    try clear hx3
    try clear qi3
    try clear p6
    try clear c7
    try clear c8
    try clear c11
    try clear c11b0
    try clear c12
    try clear c12b0
    try clear p12
    try clear q12
    try clear hx12
    try clear c13
    try clear c13b0
    try clear c15
    try clear c21
    try clear c28
    try clear c28b0
    try clear c28b1
    try clear c29
    try clear c29b0
    try clear c29b1
    try clear p30
    try clear q30
    try clear hx30
    try clear qi30
    try clear hf30
    try clear c31
    try clear c32
    try clear hcz32_0
    try clear hcz32_1
    try clear hcz9_0
    try clear hcz9_1
    try clear hfz32_0
    try clear hfz32_1
    try clear hfz9_0
    try clear hfz9_1
    try clear hx129_0
    try clear hx30_0
    try clear p129
    try clear p2
    try clear p30
    try clear q129
    try clear q30
    obtain ⟨kq, x128000_26, u128000, HA, HJ26, HO_128000, BK125, BK127, HB⟩ := hcut
    cases kq with
    | zero => exact absurd HA.out (by simp [hypercubelaw1_Facts.j1])
    | succ kj26 =>
     have H := HA.out
     clear HA
     simp only [hypercubelaw1_Facts.j1] at H
     have H' := Aside0.mk H
     clear H
     go_wp2
     go_loopg [13, 14] kj26 (fun kq v13 v14 w' => ∃ (x13_3 : List (S39)) (x14_3 : Int), v14 = .int .i64 x14_3 ∧ Aside0 (hypercubelaw1_Facts.l1 kq l3 x13_3 x14_3 x128000_26 t126 = some (r1, r2, r3)) ∧ Aside0 (kq ≤ kj26) ∧ Aside0 (Kd.S k39 39 w' w.heap.size (fun k_ => some k_ ≠ (u128000 : Value).ownBlock) v13 x13_3) ∧ Aside0 (Kd.R (Kd.int .i64) 3 w' w.heap.size (fun _ => True) u128000 x128000_26) ∧ Aside0 (w'.heap[gb125]? = some (.cells #[(.slice none 0 0), .int .i64 0] 33 (0, 0))) ∧ Aside0 (w'.heap[gb127]? = some (.cells #[u128000, .int .i64 t126] 33 (0, 0))) ∧ Aside0 (Below w.heap.size w w'))
     case atStart => exact ⟨(([] : List (S39))), (0), (by first | rfl | (simp; done) | (simp [*]; done)), H', ⟨Nat.le_refl _⟩, ⟨by first | exact Kd.S_nil _ _ _ _ _ | exact Kd.N_nil _ _ _ _ _ | exact Kd.V_nil _ _ _ _ _ | exact Kd.Q_nil _ _ _ _ _ | exact Kd.R_nil _ _ _ _ _⟩, ⟨by (with_reducible repeat (first | apply Kd.R_alloc | apply Kd.R_drewN | apply Kd.R_drew)); exact HO_128000.out⟩, ⟨by (with_reducible repeat (first | refine blk_drewN ?_ _ | refine blk_drew ?_ | refine blk_alloc ?_ _)); exact BK125.out⟩, ⟨by (with_reducible repeat (first | refine blk_drewN ?_ _ | refine blk_drew ?_ | refine blk_alloc ?_ _)); exact BK127.out⟩, ⟨by repeat (first | (with_reducible first | exact HB.out | apply below_alloc | apply pw_below_drewN | apply below_drew1 | refine below_set ?_ GE125.out | refine below_set ?_ GE127.out) | exact HB.out)⟩⟩
     case round =>
      clear H'
      try clear c1
      try clear p1
      try clear q1
      try clear hx1
      try clear c2
      try clear p2
      try clear c3
      try clear p3
      try clear q3
      try clear hx3
      try clear qi3
      try clear p6
      try clear c7
      try clear c8
      try clear c11
      try clear c11b0
      try clear c12
      try clear c12b0
      try clear p12
      try clear q12
      try clear hx12
      try clear c13
      try clear c13b0
      try clear c15
      try clear c21
      try clear c28
      try clear c28b0
      try clear c28b1
      try clear c29
      try clear c29b0
      try clear c29b1
      try clear p30
      try clear q30
      try clear hx30
      try clear qi30
      try clear hf30
      try clear c31
      try clear c32
      try clear hcz32_0
      try clear hcz32_1
      try clear hcz9_0
      try clear hcz9_1
      try clear hfz32_0
      try clear hfz32_1
      try clear hfz9_0
      try clear hfz9_1
      try clear hx129_0
      try clear hx30_0
      try clear p1
      try clear p12
      try clear p129
      try clear p2
      try clear p3
      try clear p30
      try clear p6
      try clear q1
      try clear q12
      try clear q129
      try clear q3
      try clear q30
      obtain ⟨x13_3, x14_3, rfl, HA, HK3, HO_13, HO_128000, BK125, BK127, HB⟩ := hrel
      cases gk with
      | zero => exact absurd HA.out (by simp [hypercubelaw1_Facts.l1])
      | succ k3 =>
       have H := HA.out
       clear HA
       simp only [hypercubelaw1_Facts.l1] at H
       have HC35 := Aside0.mk H
       clear H
       go_upto_region 13 with (fail)
       go_cut [59] (fun v59 wc => ∃ (kq : Nat) (x59_34 : Bool), v59 = .bool x59_34 ∧ Aside0 (hypercubelaw1_Facts.j3 kq l3 x13_3 x14_3 x59_34 x128000_26 t126 = some (r1, r2, r3)) ∧ Aside0 (kq ≤ k3) ∧ Aside0 (Kd.S k39 39 wc w.heap.size (fun k_ => some k_ ≠ (u128000 : Value).ownBlock) u13 x13_3) ∧ Aside0 (Kd.R (Kd.int .i64) 3 wc w.heap.size (fun _ => True) u128000 x128000_26) ∧ Aside0 (wc.heap[gb125]? = some (.cells #[(.slice none 0 0), .int .i64 0] 33 (0, 0))) ∧ Aside0 (wc.heap[gb127]? = some (.cells #[u128000, .int .i64 t126] 33 (0, 0))) ∧ Aside0 (Below w.heap.size w wc))
       case first =>
        have H := HC35.out
        clear HC35
        by_cases c36 : x14_3 < (l3.length : Int)
        ·rw [if_pos c36] at H
         have c36b0 : decide (x14_3 < (l3.length : Int)) = true := decide_eq_true c36
         clear c36
         (first | rw [c36b0] | (simp only [i64_w, i32_w]; rw [c36b0]) | skip)
         have H' := Aside0.mk H
         clear H
         go_wp2
         go_meet
         case rel => exact ⟨_, (decide (x14_3 < 40)), (by first | rfl | (simp; done) | (simp [*]; done)), H', ⟨by have := HK1.out; have := HJ26.out; have := HK3.out; first | omega | exact Nat.le_refl _⟩, ⟨by (with_reducible repeat (first | apply Kd.S_alloc | apply Kd.S_drewN | apply Kd.S_drew)); exact HO_13.out⟩, ⟨by (with_reducible repeat (first | apply Kd.R_alloc | apply Kd.R_drewN | apply Kd.R_drew)); exact HO_128000.out⟩, ⟨by (with_reducible repeat (first | refine blk_drewN ?_ _ | refine blk_drew ?_ | refine blk_alloc ?_ _)); exact BK125.out⟩, ⟨by (with_reducible repeat (first | refine blk_drewN ?_ _ | refine blk_drew ?_ | refine blk_alloc ?_ _)); exact BK127.out⟩, ⟨by repeat (first | (with_reducible first | exact HB.out | apply below_alloc | apply pw_below_drewN | apply below_drew1 | refine below_set ?_ GE125.out | refine below_set ?_ GE127.out) | exact HB.out)⟩⟩
        rw [if_neg c36] at H
        have c36b0 : decide (x14_3 < (l3.length : Int)) = false := decide_eq_false c36
        clear c36
        (first | rw [c36b0] | (simp only [i64_w, i32_w]; rw [c36b0]) | skip)
        have H' := Aside0.mk H
        clear H
        go_wp2
        go_meet
        case rel => exact ⟨_, (false), (by first | rfl | (simp; done) | (simp [*]; done)), H', ⟨by have := HK1.out; have := HJ26.out; have := HK3.out; first | omega | exact Nat.le_refl _⟩, ⟨by (with_reducible repeat (first | apply Kd.S_alloc | apply Kd.S_drewN | apply Kd.S_drew)); exact HO_13.out⟩, ⟨by (with_reducible repeat (first | apply Kd.R_alloc | apply Kd.R_drewN | apply Kd.R_drew)); exact HO_128000.out⟩, ⟨by (with_reducible repeat (first | refine blk_drewN ?_ _ | refine blk_drew ?_ | refine blk_alloc ?_ _)); exact BK125.out⟩, ⟨by (with_reducible repeat (first | refine blk_drewN ?_ _ | refine blk_drew ?_ | refine blk_alloc ?_ _)); exact BK127.out⟩, ⟨by repeat (first | (with_reducible first | exact HB.out | apply below_alloc | apply pw_below_drewN | apply below_drew1 | refine below_set ?_ GE125.out | refine below_set ?_ GE127.out) | exact HB.out)⟩⟩
       case rest =>
        clear HC35
        try clear c1
        try clear p1
        try clear q1
        try clear hx1
        try clear c2
        try clear p2
        try clear c3
        try clear p3
        try clear q3
        try clear hx3
        try clear qi3
        try clear p6
        try clear c7
        try clear c8
        try clear c11
        try clear c11b0
        try clear c12
        try clear c12b0
        try clear p12
        try clear q12
        try clear hx12
        try clear c13
        try clear c13b0
        try clear c15
        try clear c21
        try clear c28
        try clear c28b0
        try clear c28b1
        try clear c29
        try clear c29b0
        try clear c29b1
        try clear p30
        try clear q30
        try clear hx30
        try clear qi30
        try clear hf30
        try clear c31
        try clear c32
        try clear c36
        try clear c36b0
        try clear hcz32_0
        try clear hcz32_1
        try clear hcz9_0
        try clear hcz9_1
        try clear hfz32_0
        try clear hfz32_1
        try clear hfz9_0
        try clear hfz9_1
        try clear hx129_0
        try clear hx30_0
        try clear p1
        try clear p12
        try clear p129
        try clear p2
        try clear p3
        try clear p30
        try clear p6
        try clear q1
        try clear q12
        try clear q129
        try clear q3
        try clear q30
        obtain ⟨kq, x59_34, rfl, HA, HJ34, HO_13, HO_128000, BK125, BK127, HB⟩ := hcut
        cases kq with
        | zero => exact absurd HA.out (by simp [hypercubelaw1_Facts.j3])
        | succ kj34 =>
         have H := HA.out
         clear HA
         simp only [hypercubelaw1_Facts.j3] at H
         by_cases c37 : x59_34 = true
         rotate_left
         ·replace c37 := Bool.eq_false_iff.mpr c37
          subst c37
          have H1 : (some (x128000_26, t126, x13_3)) = some (r1, r2, r3) := by rw [if_neg (show ¬ (false = true) by decide)] at H; exact H
          clear H
          have H := H1
          clear H1
          simp only [Option.some.injEq, Prod.mk.injEq] at H
          obtain ⟨rfl, rfl, rfl⟩ := H
          have hnb76 := NB127_125.out
          have hnc76 := NB125_127.out
          have hcz77_0 : wc.cell? ⟨gb127, 0, none⟩ = some (u128000) := (blk_cell BK127.out 0).trans rfl
          have hcz77_1 : wc.cell? ⟨gb127, 1, none⟩ = some (.int .i64 t126) := (blk_cell BK127.out 1).trans rfl
          have hfz77_0 := blk_frozen BK127.out 0
          have hfz77_1 := blk_frozen BK127.out 1
          obtain ⟨Ao78, co78, eo78⟩ := Kd.R_slice HO_128000.out
          subst eo78
          have hcz79_0 : wc.cell? ⟨gb125, 0, none⟩ = some (.slice none 0 0) := (blk_cell BK125.out 0).trans rfl
          have hcz79_1 : wc.cell? ⟨gb125, 1, none⟩ = some (.int .i64 0) := (blk_cell BK125.out 1).trans rfl
          have hfz79_0 := blk_frozen BK125.out 0
          have hfz79_1 := blk_frozen BK125.out 1
          go_wp2
          refine bodyPost_ret (results_ct rfl _ _ gb125 33 #[.slice Ao78 x128000_26.length co78, .int .i64 t126] (0, 0) _ rfl (by (with_reducible repeat (first | refine blk_drewN ?_ _ | refine blk_drew ?_ | refine blk_alloc ?_ _)); refine blk_put (cs := #[.slice Ao78 x128000_26.length co78, .int .i64 0]) ?_ 1 _ rfl; (with_reducible repeat (first | refine blk_drewN ?_ _ | refine blk_drew ?_ | refine blk_alloc ?_ _)); refine blk_put (cs := #[.slice none 0 0, .int .i64 0]) ?_ 0 _ rfl; (with_reducible repeat (first | refine blk_drewN ?_ _ | refine blk_drew ?_ | refine blk_alloc ?_ _)); exact BK125.out) Try.underlying33 rfl (by kernel_rfl)) rfl ?_
          exact ⟨_, _, by first | rfl | (simp [errW_none, errW_some] <;> rfl) | (simp [*, errW_none, errW_some] <;> rfl), by (with_reducible repeat (first | apply Kd.R_alloc | apply Kd.R_drewN | apply Kd.R_drew)); exact Kd.R_mono (Kd.R_far (p := ⟨gb125, 1, none⟩) (Kd.R_far (p := ⟨gb125, 0, none⟩) (Kd.R_types HO_128000.out BK125.out (by decide)) (fun _ hk => hk.2) (.slice Ao78 x128000_26.length co78)) (fun _ hk => hk.2) (.int .i64 t126)) (fun _ hk => trivial), by (with_reducible repeat (first | apply Kd.S_alloc | apply Kd.S_drewN | apply Kd.S_drew)); exact Kd.S_mono (Kd.S_far (p := ⟨gb125, 1, none⟩) (Kd.S_far (p := ⟨gb125, 0, none⟩) (Kd.S_types HO_13.out BK125.out (by decide)) (fun _ hk => hk.2) (.slice Ao78 x128000_26.length co78)) (fun _ hk => hk.2) (.int .i64 t126)) (fun _ hk => hk.1), by repeat (first | (with_reducible first | exact HB.out | apply below_alloc | apply pw_below_drewN | apply below_drew1 | refine below_set ?_ GE125.out | refine below_set ?_ GE127.out) | exact HB.out)⟩
         subst c37
         have H1 : (if 0 ≤ x14_3 then (if x14_3 < (l3.length : Int) then (hypercubelaw1_Facts.l2 kj34 l3 x13_3 x14_3 (rd l3 x14_3) 0 x128000_26 t126 ([] : List Int)) else (none)) else (none)) = some (r1, r2, r3) := by rw [if_pos rfl] at H; exact H
         clear H
         have H := H1
         clear H1
         by_cases c38 : 0 ≤ x14_3
         rotate_left
         ·rw [if_neg c38] at H
          exact absurd H (by simp)
         rw [if_pos c38] at H
         have c38b0 : decide (0 ≤ x14_3) = true := decide_eq_true c38
         clear c38
         by_cases c39 : x14_3 < (l3.length : Int)
         rotate_left
         ·rw [if_neg c39] at H
          exact absurd H (by simp)
         rw [if_pos c39] at H
         have c39b0 : decide (x14_3 < (l3.length : Int)) = true := decide_eq_true c39
         clear c39
         have H' := Aside0.mk H
         clear H
         have p140 : 0 ≤ (x14_3 : Int) := od_
         have q140 : x14_3 < (l3.length : Int) := od_
         obtain ⟨ad140, e140, hx140_0⟩ := Kd.at_int HR3.out x14_3 p140 q140
         cases e140
         replace hx140_0 := (HB.out.cell (World.block_lt_of_cell? w _ hx140_0)).trans hx140_0
         replace p140 := eq_true p140
         replace q140 := eq_true q140
         go_wp2_with (first | ((with_reducible refine gate_dst (N := 16) rfl ?_); refine box_event ?hg (N := 16) ?hd (cs := #[.slice none 0 0, .slice none 0 0]) (t := 39) ?hr ?_; (case hd => rfl); (case hg => rfl); (case hr => first | (go_simp; done) | (go_simp; rfl)); intro gb141 hg w40 hbox hb; have n0_ := Aside0.mk (Kd.S_below (Kd.S_elderB (by (with_reducible repeat (first | apply Kd.S_alloc | apply Kd.S_drewN | apply Kd.S_drew)); exact HO_13.out) gb141 (Nat.le_of_eq hg.symm)) hb); have n1_ := Aside0.mk (Kd.R_below (by (with_reducible repeat (first | apply Kd.R_alloc | apply Kd.R_drewN | apply Kd.R_drew)); exact HO_128000.out) hb); have n2_ := Aside0.mk (blk_below (g := gb125) (o := .cells #[.slice none 0 0, .int .i64 0] 33 (0, 0)) (by (with_reducible repeat (first | refine blk_drewN ?_ _ | refine blk_drew ?_ | refine blk_alloc ?_ _)); exact BK125.out) hb); have n3_ := Aside0.mk (blk_below (g := gb127) (o := .cells #[u128000, .int .i64 t126] 33 (0, 0)) (by (with_reducible repeat (first | refine blk_drewN ?_ _ | refine blk_drew ?_ | refine blk_alloc ?_ _)); exact BK127.out) hb); have n4_ := Aside0.mk (below_step (by repeat (first | (with_reducible first | exact HB.out | apply below_alloc | apply pw_below_drewN | apply below_drew1 | refine below_set ?_ GE125.out | refine below_set ?_ GE127.out) | exact HB.out)) hb); have n5_ := Aside0.mk (hbox); have n6_ := Aside0.mk ((by rw [hg]; exact (below_size (by repeat (first | (with_reducible first | exact HB.out | apply below_alloc | apply pw_below_drewN | apply below_drew1 | refine below_set ?_ GE125.out | refine below_set ?_ GE127.out) | exact HB.out))) : w.heap.size ≤ gb141)); have n7_ := Aside0.mk ((by rw [hg]; exact (below_size (by repeat (first | (with_reducible first | exact HB.out | apply below_alloc | apply pw_below_drewN | apply below_drew1 | refine below_set ?_ GE125.out | refine below_set ?_ GE127.out) | exact HB.out))) : w.heap.size ≤ gb141)); have n8_ := Aside0.mk ((by rw [hg]; exact Nat.ne_of_lt (blk_lt (g := gb125) (o := .cells #[.slice none 0 0, .int .i64 0] 33 (0, 0)) (by (with_reducible repeat (first | refine blk_drewN ?_ _ | refine blk_drew ?_ | refine blk_alloc ?_ _)); exact BK125.out)) : gb125 ≠ gb141)); have n9_ := Aside0.mk ((by rw [hg]; exact Nat.ne_of_gt (blk_lt (g := gb125) (o := .cells #[.slice none 0 0, .int .i64 0] 33 (0, 0)) (by (with_reducible repeat (first | refine blk_drewN ?_ _ | refine blk_drew ?_ | refine blk_alloc ?_ _)); exact BK125.out)) : gb141 ≠ gb125)); have n10_ := Aside0.mk ((by rw [hg]; exact Nat.ne_of_lt (blk_lt (g := gb127) (o := .cells #[u128000, .int .i64 t126] 33 (0, 0)) (by (with_reducible repeat (first | refine blk_drewN ?_ _ | refine blk_drew ?_ | refine blk_alloc ?_ _)); exact BK127.out)) : gb127 ≠ gb141)); have n11_ := Aside0.mk ((by rw [hg]; exact Nat.ne_of_gt (blk_lt (g := gb127) (o := .cells #[u128000, .int .i64 t126] 33 (0, 0)) (by (with_reducible repeat (first | refine blk_drewN ?_ _ | refine blk_drew ?_ | refine blk_alloc ?_ _)); exact BK127.out)) : gb141 ≠ gb127)); clear HO_13; clear HO_128000; clear BK125; clear BK127; clear HB; have HO_13 := n0_; have HO_128000 := n1_; have BK125 := n2_; have BK127 := n3_; have HB := n4_; have BK141 := n5_; have GW141 := n6_; have GE141 := n7_; have NB125_141 := n8_; have NB141_125 := n9_; have NB127_141 := n10_; have NB141_127 := n11_; clear n0_ n1_ n2_ n3_ n4_ n5_ n6_ n7_ n8_ n9_ n10_ n11_; clear hb hbox hg))
         go_loopg [15, 17] kj34 (fun kq v15 v17 w' => ∃ (x15_5 : Int) (x17_5 : Int) (x142000_5 : List Int) (u142000 : Value), v15 = .int .i64 x15_5 ∧ v17 = .int .i64 x17_5 ∧ Aside0 (hypercubelaw1_Facts.l2 kq l3 x13_3 x14_3 x15_5 x17_5 x128000_26 t126 x142000_5 = some (r1, r2, r3)) ∧ Aside0 (kq ≤ kj34) ∧ Aside0 (Kd.S k39 39 w' w.heap.size (fun k_ => some k_ ≠ (u128000 : Value).ownBlock ∧ some k_ ≠ (u142000 : Value).ownBlock ∧ k_ ≠ gb141) u13 x13_3) ∧ Aside0 (Kd.R (Kd.int .i64) 3 w' w.heap.size (fun k_ => some k_ ≠ (u142000 : Value).ownBlock) u128000 x128000_26) ∧ Aside0 (Kd.R (Kd.int .i64) 3 w' w.heap.size (fun k_ => some k_ ≠ (u128000 : Value).ownBlock) u142000 x142000_5) ∧ Aside0 (w'.heap[gb125]? = some (.cells #[(.slice none 0 0), .int .i64 0] 33 (0, 0))) ∧ Aside0 (w'.heap[gb127]? = some (.cells #[u128000, .int .i64 t126] 33 (0, 0))) ∧ Aside0 (w'.heap[gb141]? = some (.cells #[u142000, (.slice none 0 0)] 39 (0, 0))) ∧ Aside0 (Below w.heap.size w w'))
         case atStart => exact ⟨(rd l3 x14_3), (0), (([] : List Int)), (.slice none 0 0), (by first | rfl | (simp; done) | (simp [*]; done)), (by first | rfl | (simp; done) | (simp [*]; done)), H', ⟨Nat.le_refl _⟩, ⟨by (with_reducible repeat (first | apply Kd.S_alloc | apply Kd.S_drewN | apply Kd.S_drew)); exact Kd.S_mono HO_13.out (fun _ hk => ⟨hk.1, ⟨(by simp [Value.ownBlock]), hk.2⟩⟩)⟩, ⟨by (with_reducible repeat (first | apply Kd.R_alloc | apply Kd.R_drewN | apply Kd.R_drew)); exact Kd.R_mono HO_128000.out (fun _ hk => (by simp [Value.ownBlock]))⟩, ⟨by first | exact Kd.R_nil _ _ _ _ _ | exact Kd.N_nil _ _ _ _ _ | exact Kd.V_nil _ _ _ _ _ | exact Kd.Q_nil _ _ _ _ _ | exact Kd.S_nil _ _ _ _ _⟩, ⟨by (with_reducible repeat (first | refine blk_drewN ?_ _ | refine blk_drew ?_ | refine blk_alloc ?_ _)); exact BK125.out⟩, ⟨by (with_reducible repeat (first | refine blk_drewN ?_ _ | refine blk_drew ?_ | refine blk_alloc ?_ _)); exact BK127.out⟩, ⟨by (with_reducible repeat (first | refine blk_drewN ?_ _ | refine blk_drew ?_ | refine blk_alloc ?_ _)); exact BK141.out⟩, ⟨by repeat (first | (with_reducible first | exact HB.out | apply below_alloc | apply pw_below_drewN | apply below_drew1 | refine below_set ?_ GE125.out | refine below_set ?_ GE127.out | refine below_set ?_ GE141.out) | exact HB.out)⟩⟩
         case round =>
          clear H'
          try clear c1
          try clear p1
          try clear q1
          try clear hx1
          try clear c2
          try clear p2
          try clear c3
          try clear p3
          try clear q3
          try clear hx3
          try clear qi3
          try clear p6
          try clear c7
          try clear c8
          try clear c11
          try clear c11b0
          try clear c12
          try clear c12b0
          try clear p12
          try clear q12
          try clear hx12
          try clear c13
          try clear c13b0
          try clear p14
          try clear q14
          try clear hx14
          try clear c15
          try clear c21
          try clear c28
          try clear c28b0
          try clear c28b1
          try clear c29
          try clear c29b0
          try clear c29b1
          try clear p30
          try clear q30
          try clear hx30
          try clear qi30
          try clear hf30
          try clear c31
          try clear c32
          try clear c36
          try clear c36b0
          try clear c37
          try clear c38
          try clear c38b0
          try clear c39
          try clear c39b0
          try clear hcz32_0
          try clear hcz32_1
          try clear hcz9_0
          try clear hcz9_1
          try clear hfz32_0
          try clear hfz32_1
          try clear hfz9_0
          try clear hfz9_1
          try clear hx129_0
          try clear hx140_0
          try clear hx30_0
          try clear p1
          try clear p12
          try clear p129
          try clear p140
          try clear p2
          try clear p3
          try clear p30
          try clear p6
          try clear q1
          try clear q12
          try clear q129
          try clear q140
          try clear q3
          try clear q30
          obtain ⟨x15_5, x17_5, x142000_5, u142000, rfl, rfl, HA, HK5, HO_13, HO_128000, HO_142000, BK125, BK127, BK141, HB⟩ := hrel
          cases gk with
          | zero => exact absurd HA.out (by simp [hypercubelaw1_Facts.l2])
          | succ k5 =>
           have H := HA.out
           clear HA
           simp only [hypercubelaw1_Facts.l2] at H
           by_cases c41 : x17_5 < (x128000_26.length : Int)
           ·rw [if_pos c41] at H
            have c41b0 : decide (x17_5 < (x128000_26.length : Int)) = true := decide_eq_true c41
            clear c41
            by_cases c42 : 0 ≤ x17_5
            rotate_left
            ·rw [if_neg c42] at H
             exact absurd H (by simp)
            rw [if_pos c42] at H
            have c42b0 : decide (0 ≤ x17_5) = true := decide_eq_true c42
            clear c42
            replace H := Option.bind_eq_some_iff.mp H
            obtain ⟨t143, A430, H⟩ := H
            replace H : (if x142000_5.length < 17592186044416 then (hypercubelaw1_Facts.l2 k5 l3 x13_3 x14_3 (wrap64 (Int.tdiv x15_5 5)) (wrap64 (x17_5 + 1)) x128000_26 t126 (x142000_5 ++ [t143])) else (none)) = some (r1, r2, r3) := H
            have A43 := Aside0.mk A430
            clear A430
            by_cases c44 : x142000_5.length < 17592186044416
            rotate_left
            ·rw [if_neg c44] at H
             exact absurd H (by simp)
            rw [if_pos c44] at H
            have LMc44 := Aside0.mk c44
            clear c44
            obtain ⟨y144, hy144⟩ : ∃ y_ : List Int, y_ = (x142000_5 ++ [t143]) := ⟨_, rfl⟩
            replace H : (hypercubelaw1_Facts.l2 k5 l3 x13_3 x14_3 (wrap64 (Int.tdiv x15_5 5)) (wrap64 (x17_5 + 1)) x128000_26 t126 y144) = some (r1, r2, r3) := by first | (rw [hy144]; with_reducible exact H) | (have H2_ := (Option.bind_some _ _).symm.trans H; rw [hy144]; with_reducible exact H2_) | (have H2_ := (Option.bind_some _ _).symm.trans H; with_reducible exact H2_) | with_reducible exact H | (rw [hy144]; exact H) | exact H
            have Ny144 := Aside0.mk hy144
            clear hy144
            have H' := Aside0.mk H
            clear H
            have hnb45 := NB127_125.out
            have hnc45 := NB125_127.out
            have hnb46 := NB127_141.out
            have hnc46 := NB141_127.out
            have hcz47_0 : wr.cell? ⟨gb127, 0, none⟩ = some (u128000) := (blk_cell BK127.out 0).trans rfl
            have hcz47_1 : wr.cell? ⟨gb127, 1, none⟩ = some (.int .i64 t126) := (blk_cell BK127.out 1).trans rfl
            have hfz47_0 := blk_frozen BK127.out 0
            have hfz47_1 := blk_frozen BK127.out 1
            obtain ⟨Ao48, co48, eo48⟩ := Kd.R_slice HO_128000.out
            subst eo48
            try go_wp2
            have n0_ := Aside0.mk (Kd.S_drew HO_13.out)
            have n1_ := Aside0.mk (Kd.R_drew HO_128000.out)
            have n2_ := Aside0.mk (Kd.R_drew HO_142000.out)
            have n3_ := Aside0.mk (blk_drew BK125.out)
            have n4_ := Aside0.mk (blk_drew BK127.out)
            have n5_ := Aside0.mk (blk_drew BK141.out)
            have n6_ := Aside0.mk (below_drew1 HB.out)
            clear HO_13
            clear HO_128000
            clear HO_142000
            clear BK125
            clear BK127
            clear BK141
            clear HB
            have HO_13 := n0_
            have HO_128000 := n1_
            have HO_142000 := n2_
            have BK125 := n3_
            have BK127 := n4_
            have BK141 := n5_
            have HB := n6_
            clear n0_ n1_ n2_ n3_ n4_ n5_ n6_
            have p142 : 0 ≤ (x17_5 : Int) := od_
            have q142 : x17_5 < (x128000_26.length : Int) := od_
            obtain ⟨ad142, e142, hx142_0⟩ := Kd.at_int (Kd.R_reads' HO_128000.out).2.2 x17_5 p142 q142
            cases e142
            replace p142 := eq_true p142
            replace q142 := eq_true q142
            refine start_ (n := 13) (S := fun w' => w'.cell? ⟨gb141, 0, none⟩ = some (u142000) ∧ w'.cell? ⟨gb141, 1, none⟩ = some (.slice none 0 0) ∧ w'.cell? ⟨gb127, 0, none⟩ = some (.slice (some ad142) x128000_26.length co48) ∧ w'.cell? ⟨gb127, 1, none⟩ = some (.int .i64 t126) ∧ w'.cell? (ad142.add (x17_5).toNat) = some (.int .i64 (rd x128000_26 x17_5))) (ds := [10, 12]) (fl_ 0 13) (by kernel_rfl) rfl rfl ⟨(blk_cell BK141.out 0).trans rfl, (blk_cell BK141.out 1).trans rfl, (blk_cell BK127.out 0).trans rfl, (blk_cell BK127.out 1).trans rfl, hx142_0⟩ (fun hHeld => ?_); refine with_tabW hypercubelaw1_Facts.tab20 hypercubelaw1_Facts.bits20 (fun HT_ HW_ => ?_)
            generalize wr.drew = w49 at HO_13 HO_128000 HO_142000 BK125 BK127 BK141 HB hx142_0 hHeld ⊢
            refine pure_ (i := 0) (N := some 73) (v := ?_) (a' := ?_) (fl_ 1 12) rfl rfl (any_of HT_.out (by kernel_rfl)) (fun _ _ _ h => h) (Or.inl ⟨by rfl, ?_⟩) ?_ ?_
            rotate_left
            ·intro w'
             go_simp
             with_reducible rfl
            rotate_left
            ·simp only [Act.put, sl0, sl1, sl2, i64_w, i32_w]
             rfl
            refine pure_ (i := 2) (N := some 75) (v := ?_) (a' := ?_) #[Y,Z,Y,Z,Z,Z,Z,Z,Z,Z,Z,Z,Z] rfl rfl (any_of HT_.out (by kernel_rfl)) (fun _ _ _ h => h) (Or.inl ⟨by rfl, ?_⟩) ?_ ?_
            rotate_left
            ·intro w'
             go_simp
             with_reducible rfl
            rotate_left
            ·simp only [Act.put, sl0, sl1, sl2, i64_w, i32_w]
             rfl
            refine pure_ (i := 3) (N := some 76) (v := ?_) (a' := ?_) #[Y,Z,Y,Y,Z,Z,Z,Z,Z,Z,Z,Z,Z] rfl rfl (any_of HT_.out (by kernel_rfl)) (fun _ _ _ h => h) (Or.inl ⟨by rfl, ?_⟩) ?_ ?_
            rotate_left
            ·intro w'
             go_simp
             with_reducible rfl
            rotate_left
            ·simp only [Act.put, sl0, sl1, sl2, i64_w, i32_w]
             rfl
            refine pure_ (i := 5) (N := some 78) (v := ?_) (a' := ?_) #[Y,Z,Y,Y,Z,Y,Z,Z,Z,Z,Z,Z,Z] rfl rfl (any_of HT_.out (by kernel_rfl)) (fun _ _ _ h => h) (Or.inl ⟨by rfl, ?_⟩) ?_ ?_
            rotate_left
            ·intro w'
             go_simp
             with_reducible rfl
            rotate_left
            ·simp only [Act.put, sl0, sl1, sl2, i64_w, i32_w]
             rfl
            refine take_ (i := 1) (N := some 74) (v := ?_) (a' := ?_) #[Y,Y,Y,Y,Z,Y,Z,Z,Z,Z,Z,Z,Z] rfl rfl (take_ofW HT_.out HW_.out (by kernel_rfl)) (fun _ _ _ h => h) (Or.inl ⟨by rfl, ?_⟩) hHeld ?_ ?_
            rotate_left
            ·rintro w' ⟨s0, s1, s2, s3, s4⟩
             go_simp
             with_reducible rfl
            rotate_left
            ·simp only [Act.put, sl0, sl1, sl2, i64_w, i32_w]
             rfl
            refine take_ (i := 4) (N := some 77) (v := ?_) (a' := ?_) (fl_ 6 7) rfl rfl (take_ofW HT_.out HW_.out (by kernel_rfl)) (fun _ _ _ h => h) (Or.inl ⟨by rfl, ?_⟩) hHeld ?_ ?_
            rotate_left
            ·rintro w' ⟨s0, s1, s2, s3, s4⟩
             go_simp
             with_reducible rfl
            rotate_left
            ·simp only [Act.put, sl0, sl1, sl2, i64_w, i32_w]
             rfl
            refine pure_ (i := 6) (N := some 79) (v := ?_) (a' := ?_) (fl_ 7 6) rfl rfl (any_of HT_.out (by kernel_rfl)) (fun _ _ _ h => h) (Or.inl ⟨by rfl, ?_⟩) ?_ ?_
            rotate_left
            ·intro w'
             go_simp
             with_reducible rfl
            rotate_left
            ·simp only [Act.put, sl0, sl1, sl2, i64_w, i32_w]
             rfl
            refine take_ (i := 7) (N := some 80) (v := ?_) (a' := ?_) (fl_ 8 5) rfl rfl (take_ofW HT_.out HW_.out (by kernel_rfl)) (fun _ _ _ h => h) (Or.inl ⟨by rfl, ?_⟩) hHeld ?_ ?_
            rotate_left
            ·rintro w' ⟨s0, s1, s2, s3, s4⟩
             go_simp
             with_reducible rfl
            rotate_left
            ·simp only [Act.put, sl0, sl1, sl2, i64_w, i32_w]
             rfl
            refine one_ (i := 8) (N := some 81) (fl_ 9 4) rfl rfl (one_of HT_.out (by kernel_rfl)) (by decide) (fun K hK => ?_)
            refine goes_ Try.func70 (by kernel_rfl) rfl #[.int .i64 x15_5, .int .i64 (rd x128000_26 x17_5)] (by rfl) rfl rfl (by (try simp only [List.map_toArray, List.map_cons, List.map_nil]); first | done | rfl | (simp only [List.length_drop, List.length_take]; rfl)) ?_
            with_reducible refine (hypercubelaw1_within.calls x15_5 (rd x128000_26 x17_5) t143 _ A43.out).mono ?_
            rintro e w' ⟨rfl, ⟨nd, rfl⟩⟩
            refine ⟨_, rfl, ?_⟩
            refine hK.out _ _ ⟨(blk_cell BK141.out 0).trans rfl, (blk_cell BK141.out 1).trans rfl, (blk_cell BK127.out 0).trans rfl, (blk_cell BK127.out 1).trans rfl, hHeld.2.2.2.2⟩ (fun hHeld => ?_)
            clear hK K
            refine norm_ (a' := ?_) ?_ ?_
            rotate_left
            ·show Act.put _ (some 81) _ = _
             simp only [Act.put, sl0, sl1, sl2, i64_w, i32_w]
             rfl
            refine one_ (i := 9) (N := some 82) (fl_ 10 3) rfl rfl (one_of HT_.out (by kernel_rfl)) (by decide) (fun K hK => ?_)
            refine value_ (w1 := ?_) (v := ?_) (by rfl) rfl ?_ ?_
            rotate_left 2
            ·go_simp
             constructor
             ·rfl
             rfl
            refine hK.out _ _ ⟨(blk_cell (blk_alloc BK141.out _) 0).trans rfl, (blk_cell (blk_alloc BK141.out _) 1).trans rfl, (blk_cell (blk_alloc BK127.out _) 0).trans rfl, (blk_cell (blk_alloc BK127.out _) 1).trans rfl, (World.cell?_alloc_lt _ _ _ (World.block_lt_of_cell? _ _ (hHeld.2.2.2.2))).trans (hHeld.2.2.2.2)⟩ (fun hHeld => ?_)
            clear hK K
            refine norm_ (a' := ?_) ?_ ?_
            rotate_left
            ·show Act.put _ (some 82) _ = _
             simp only [Act.put, sl0, sl1, sl2, i64_w, i32_w]
             rfl
            refine last_ (i := 10) (N := some 83) (fl_ 11 2) rfl rfl (one_of HT_.out (by kernel_rfl)) (by decide) (fun K hK => ?_)
            refine Kd.R_append_step (Kd.int .i64) (w0 := w) w.heap.size (by rfl) (.tmp 74) (.tmp 82) 24 3 (.int .i64 0) 8 rfl Try.underlying24 info3 rfl (by decide) (by omega) u142000 x142000_5 t143 [.int .i64 t143] (fun k_ => some k_ ≠ (.slice (some ad142) x128000_26.length co48 : Value).ownBlock) (fun _ => False) rfl rfl ?aP (fun _ hk => hk.elim) ?aF ?aO ?aB ?aS ?aL ?_
            (case aP => exact rfl)
            (case aB => exact (by repeat (first | (with_reducible first | exact HB.out | apply below_alloc | apply pw_below_drewN | apply below_drew1 | refine below_set ?_ GE125.out | refine below_set ?_ GE127.out | refine below_set ?_ GE141.out) | exact HB.out)))
            (case aF => exact (fun k_ hk => Kd.fresh' (Kd.R_lt (by (with_reducible repeat (first | apply Kd.R_alloc | apply Kd.R_drewN | apply Kd.R_drew)); exact HO_128000.out)) k_ hk))
            (case aO => exact (by (with_reducible repeat (first | apply Kd.R_alloc | apply Kd.R_drewN | apply Kd.R_drew)); exact HO_142000.out))
            (case aS => exact (below_size (by repeat (first | (with_reducible first | exact HB.out | apply below_alloc | apply pw_below_drewN | apply below_drew1 | refine below_set ?_ GE125.out | refine below_set ?_ GE127.out | refine below_set ?_ GE141.out) | exact HB.out))))
            (case aL => have := LMc44.out; omega)
            intro v145 w50 ho hb hg hat
            rw [← Ny144.out] at ho
            have n0_ := Aside0.mk (Kd.S_after (ok := (fun k_ => some k_ ≠ (.slice (some ad142) x128000_26.length co48 : Value).ownBlock ∧ k_ ≠ gb141)) (by (with_reducible repeat (first | apply Kd.S_alloc | apply Kd.S_drewN | apply Kd.S_drew)); exact Kd.S_mono HO_13.out (fun _ hk => ⟨⟨hk.1, hk.2.2⟩, hk.2.1⟩)) hg hat)
            have n1_ := Aside0.mk (Kd.R_after (ok := (fun _ => True)) (by (with_reducible repeat (first | apply Kd.R_alloc | apply Kd.R_drewN | apply Kd.R_drew)); exact Kd.R_mono HO_128000.out (fun _ hk => ⟨trivial, hk⟩)) hg hat)
            have n2_ := Aside0.mk (blk_grown (g := gb125) (o := .cells #[.slice none 0 0, .int .i64 0] 33 (0, 0)) (by (with_reducible repeat (first | refine blk_drewN ?_ _ | refine blk_drew ?_ | refine blk_alloc ?_ _)); exact BK125.out) hg (Kd.R_ne HO_142000.out BK125.out (by decide)))
            have n3_ := Aside0.mk (blk_grown (g := gb127) (o := .cells #[.slice (some ad142) x128000_26.length co48, .int .i64 t126] 33 (0, 0)) (by (with_reducible repeat (first | refine blk_drewN ?_ _ | refine blk_drew ?_ | refine blk_alloc ?_ _)); exact BK127.out) hg (Kd.R_ne HO_142000.out BK127.out (by decide)))
            have n4_ := Aside0.mk (blk_grown (g := gb141) (o := .cells #[u142000, .slice none 0 0] 39 (0, 0)) (by (with_reducible repeat (first | refine blk_drewN ?_ _ | refine blk_drew ?_ | refine blk_alloc ?_ _)); exact BK141.out) hg (Kd.R_ne HO_142000.out BK141.out (by decide)))
            have n5_ := Aside0.mk (hb)
            have n6_ := Aside0.mk (ho)
            clear HO_13
            clear HO_128000
            clear BK125
            clear BK127
            clear BK141
            clear HB
            clear HO_142000
            have HO_13 := n0_
            have HO_128000 := n1_
            have BK125 := n2_
            have BK127 := n3_
            have BK141 := n4_
            have HB := n5_
            have HO146 := n6_
            clear n0_ n1_ n2_ n3_ n4_ n5_ n6_
            clear ho hb hg hat
            obtain ⟨Ao51, co51, eo51⟩ := Kd.R_slice HO146.out
            (first | subst eo51 | (injection eo51 with f1_ f2_ f3_; have f4_ := f1_.symm; have f5_ := f3_.symm; clear f1_ f2_ f3_; subst f4_; subst f5_))
            refine hK.out _ _ ?_
            clear hK K
            refine norm_ (a' := ?_) ?_ ?_
            rotate_left
            ·show Act.put _ (some 83) _ = _
             simp only [Act.put, sl0, sl1, sl2, i64_w, i32_w]
             rfl
            refine pure_ (i := 11) (N := some 84) (v := ?_) (a' := ?_) (fl_ 12 1) rfl rfl (any_of HT_.out (by kernel_rfl)) (fun _ _ _ h => h) (Or.inl ⟨by rfl, ?_⟩) ?_ ?_
            rotate_left
            ·intro w'
             go_simp
             with_reducible rfl
            rotate_left
            ·simp only [Act.put, sl0, sl1, sl2, i64_w, i32_w]
             rfl
            refine last_ (i := 12) (N := none) (fl_ 13 0) rfl rfl (one_of HT_.out (by kernel_rfl)) (by decide) (fun K hK => ?_)
            have hs52 : w50.cell? ⟨gb141, 0, none⟩ = some (u142000) := (blk_cell BK141.out 0).trans rfl
            have hfs52 := blk_frozen BK141.out 0
            have hns52_0 := NB125_141.out
            have hns52_1 := NB127_141.out
            have hms52_0 := NB141_125.out
            have hms52_1 := NB141_127.out
            refine skip_ (w1 := ?_) (by rfl) rfl ?_ ?_
            rotate_left
            ·go_simp
             rfl
            refine hK.out _ _ ?_
            clear hK K
            refine done_ (done_of HT_.out (by kernel_rfl)) ?_
            try go_wp2
            go_roundg k5
            case measure => have := HK1.out; have := HJ26.out; have := HK3.out; have := HJ34.out; have := HK5.out; omega
            case rel => exact ⟨(wrap64 (Int.tdiv x15_5 5)), (wrap64 (x17_5 + 1)), (y144), (.slice Ao51 y144.length co51), (by first | rfl | (simp; done) | (simp [*]; done)), (by first | rfl | (simp; done) | (simp [*]; done)), H', ⟨by have := HK1.out; have := HJ26.out; have := HK3.out; have := HJ34.out; have := HK5.out; omega⟩, ⟨by (with_reducible repeat (first | apply Kd.S_alloc | apply Kd.S_drewN | apply Kd.S_drew)); exact Kd.S_mono (Kd.S_far (p := ⟨gb141, 0, none⟩) (Kd.S_mono HO_13.out (fun k_ hk => (⟨hk, hk.1.2⟩ : _ ∧ k_ ≠ gb141))) (fun _ hk => hk.2) (.slice Ao51 y144.length co51)) (fun _ hk => ⟨hk.1.1.1, ⟨hk.1.2, hk.1.1.2⟩⟩)⟩, ⟨by (with_reducible repeat (first | apply Kd.R_alloc | apply Kd.R_drewN | apply Kd.R_drew)); exact Kd.R_mono (Kd.R_far (p := ⟨gb141, 0, none⟩) (Kd.R_types HO_128000.out BK141.out (by decide)) (fun _ hk => hk.2) (.slice Ao51 y144.length co51)) (fun _ hk => hk.1.2)⟩, ⟨by (with_reducible repeat (first | apply Kd.R_alloc | apply Kd.R_drewN | apply Kd.R_drew)); exact Kd.R_mono (Kd.R_far (p := ⟨gb141, 0, none⟩) (Kd.R_types HO146.out BK141.out (by decide)) (fun _ hk => hk.2) (.slice Ao51 y144.length co51)) (fun _ hk => hk.1)⟩, ⟨by (with_reducible repeat (first | refine blk_drewN ?_ _ | refine blk_drew ?_ | refine blk_alloc ?_ _)); refine blk_far ?_ NB125_141.out _; (with_reducible repeat (first | refine blk_drewN ?_ _ | refine blk_drew ?_ | refine blk_alloc ?_ _)); exact BK125.out⟩, ⟨by (with_reducible repeat (first | refine blk_drewN ?_ _ | refine blk_drew ?_ | refine blk_alloc ?_ _)); refine blk_far ?_ NB127_141.out _; (with_reducible repeat (first | refine blk_drewN ?_ _ | refine blk_drew ?_ | refine blk_alloc ?_ _)); exact BK127.out⟩, ⟨by (with_reducible repeat (first | refine blk_drewN ?_ _ | refine blk_drew ?_ | refine blk_alloc ?_ _)); refine blk_put (cs := #[u142000, .slice none 0 0]) ?_ 0 _ rfl; (with_reducible repeat (first | refine blk_drewN ?_ _ | refine blk_drew ?_ | refine blk_alloc ?_ _)); exact BK141.out⟩, ⟨by repeat (first | (with_reducible first | exact HB.out | apply below_alloc | apply pw_below_drewN | apply below_drew1 | refine below_set ?_ GE125.out | refine below_set ?_ GE127.out | refine below_set ?_ GE141.out) | exact HB.out)⟩⟩
           rw [if_neg c41] at H
           have c41b0 : decide (x17_5 < (x128000_26.length : Int)) = false := decide_eq_false c41
           clear c41
           have H' := Aside0.mk H
           clear H
           have hnb53 := NB127_125.out
           have hnc53 := NB125_127.out
           have hnb54 := NB127_141.out
           have hnc54 := NB141_127.out
           have hcz55_0 : wr.cell? ⟨gb127, 0, none⟩ = some (u128000) := (blk_cell BK127.out 0).trans rfl
           have hcz55_1 : wr.cell? ⟨gb127, 1, none⟩ = some (.int .i64 t126) := (blk_cell BK127.out 1).trans rfl
           have hfz55_0 := blk_frozen BK127.out 0
           have hfz55_1 := blk_frozen BK127.out 1
           obtain ⟨Ao56, co56, eo56⟩ := Kd.R_slice HO_128000.out
           subst eo56
           go_wp2
           go_loopg [18] k5 (fun kq v18 w' => ∃ (x18_6 : Int) (x142001_6 : List Int) (u142001 : Value), v18 = .int .i64 x18_6 ∧ Aside0 (hypercubelaw1_Facts.l3 kq l3 x13_3 x14_3 x15_5 x18_6 x128000_26 t126 x142000_5 x142001_6 = some (r1, r2, r3)) ∧ Aside0 (kq ≤ k5) ∧ Aside0 (Kd.S k39 39 w' w.heap.size (fun k_ => some k_ ≠ ((.slice Ao56 x128000_26.length co56) : Value).ownBlock ∧ some k_ ≠ (u142000 : Value).ownBlock ∧ some k_ ≠ (u142001 : Value).ownBlock ∧ k_ ≠ gb141) u13 x13_3) ∧ Aside0 (Kd.R (Kd.int .i64) 3 w' w.heap.size (fun k_ => some k_ ≠ (u142000 : Value).ownBlock ∧ some k_ ≠ (u142001 : Value).ownBlock) (.slice Ao56 x128000_26.length co56) x128000_26) ∧ Aside0 (Kd.R (Kd.int .i64) 3 w' w.heap.size (fun k_ => some k_ ≠ ((.slice Ao56 x128000_26.length co56) : Value).ownBlock ∧ some k_ ≠ (u142001 : Value).ownBlock) u142000 x142000_5) ∧ Aside0 (Kd.R (Kd.int .i64) 3 w' w.heap.size (fun k_ => some k_ ≠ ((.slice Ao56 x128000_26.length co56) : Value).ownBlock ∧ some k_ ≠ (u142000 : Value).ownBlock) u142001 x142001_6) ∧ Aside0 (w'.heap[gb125]? = some (.cells #[(.slice none 0 0), .int .i64 0] 33 (0, 0))) ∧ Aside0 (w'.heap[gb127]? = some (.cells #[(.slice Ao56 x128000_26.length co56), .int .i64 t126] 33 (0, 0))) ∧ Aside0 (w'.heap[gb141]? = some (.cells #[u142000, u142001] 39 (0, 0))) ∧ Aside0 (Below w.heap.size w w'))
           case atStart => exact ⟨(0), (([] : List Int)), (.slice none 0 0), (by first | rfl | (simp; done) | (simp [*]; done)), H', ⟨Nat.le_refl _⟩, ⟨by (with_reducible repeat (first | apply Kd.S_alloc | apply Kd.S_drewN | apply Kd.S_drew)); exact Kd.S_mono HO_13.out (fun _ hk => ⟨hk.1, ⟨hk.2.1, ⟨(by simp [Value.ownBlock]), hk.2.2⟩⟩⟩)⟩, ⟨by (with_reducible repeat (first | apply Kd.R_alloc | apply Kd.R_drewN | apply Kd.R_drew)); exact Kd.R_mono HO_128000.out (fun _ hk => ⟨hk, (by simp [Value.ownBlock])⟩)⟩, ⟨by (with_reducible repeat (first | apply Kd.R_alloc | apply Kd.R_drewN | apply Kd.R_drew)); exact Kd.R_mono HO_142000.out (fun _ hk => ⟨hk, (by simp [Value.ownBlock])⟩)⟩, ⟨by first | exact Kd.R_nil _ _ _ _ _ | exact Kd.N_nil _ _ _ _ _ | exact Kd.V_nil _ _ _ _ _ | exact Kd.Q_nil _ _ _ _ _ | exact Kd.S_nil _ _ _ _ _⟩, ⟨by (with_reducible repeat (first | refine blk_drewN ?_ _ | refine blk_drew ?_ | refine blk_alloc ?_ _)); exact BK125.out⟩, ⟨by (with_reducible repeat (first | refine blk_drewN ?_ _ | refine blk_drew ?_ | refine blk_alloc ?_ _)); exact BK127.out⟩, ⟨by (with_reducible repeat (first | refine blk_drewN ?_ _ | refine blk_drew ?_ | refine blk_alloc ?_ _)); exact BK141.out⟩, ⟨by repeat (first | (with_reducible first | exact HB.out | apply below_alloc | apply pw_below_drewN | apply below_drew1 | refine below_set ?_ GE125.out | refine below_set ?_ GE127.out | refine below_set ?_ GE141.out) | exact HB.out)⟩⟩
           case round =>
            clear H'
            try clear c1
            try clear p1
            try clear q1
            try clear hx1
            try clear c2
            try clear p2
            try clear c3
            try clear p3
            try clear q3
            try clear hx3
            try clear qi3
            try clear c4
            try clear c5
            try clear p6
            try clear c7
            try clear c8
            try clear c11
            try clear c11b0
            try clear c12
            try clear c12b0
            try clear p12
            try clear q12
            try clear hx12
            try clear c13
            try clear c13b0
            try clear p14
            try clear q14
            try clear hx14
            try clear c15
            try clear c21
            try clear c28
            try clear c28b0
            try clear c28b1
            try clear c29
            try clear c29b0
            try clear c29b1
            try clear p30
            try clear q30
            try clear hx30
            try clear qi30
            try clear hf30
            try clear c31
            try clear c32
            try clear c36
            try clear c36b0
            try clear c37
            try clear c38
            try clear c38b0
            try clear c39
            try clear c39b0
            try clear c41
            try clear c41b0
            try clear c42
            try clear c42b0
            try clear c44
            try clear c45
            try clear c46
            try clear c53
            try clear c54
            try clear hcz32_0
            try clear hcz32_1
            try clear hcz47_0
            try clear hcz47_1
            try clear hcz55_0
            try clear hcz55_1
            try clear hcz9_0
            try clear hcz9_1
            try clear hfz32_0
            try clear hfz32_1
            try clear hfz47_0
            try clear hfz47_1
            try clear hfz55_0
            try clear hfz55_1
            try clear hfz9_0
            try clear hfz9_1
            try clear hx129_0
            try clear hx140_0
            try clear hx142_0
            try clear hx30_0
            try clear p1
            try clear p12
            try clear p129
            try clear p14
            try clear p140
            try clear p142
            try clear p2
            try clear p3
            try clear p30
            try clear p6
            try clear q1
            try clear q12
            try clear q129
            try clear q14
            try clear q140
            try clear q142
            try clear q3
            try clear q30
            obtain ⟨x18_6, x142001_6, u142001, rfl, HA, HK6, HO_13, HO_128000, HO_142000, HO_142001, BK125, BK127, BK141, HB⟩ := hrel
            cases gk with
            | zero => exact absurd HA.out (by simp [hypercubelaw1_Facts.l3])
            | succ k6 =>
             have H := HA.out
             clear HA
             simp only [hypercubelaw1_Facts.l3] at H
             by_cases c57 : x18_6 < t126
             rotate_left
             ·rw [if_neg c57] at H
              have c57b0 : decide (x18_6 < t126) = false := decide_eq_false c57
              clear c57
              by_cases c67 : x13_3.length < 2932031007402
              rotate_left
              ·rw [if_neg c67] at H
               exact absurd H (by simp)
              rw [if_pos c67] at H
              have LMc67 := Aside0.mk c67
              clear c67
              obtain ⟨y151, hy151⟩ : ∃ y_ : List (S39), y_ = (x13_3 ++ [(⟨x142000_5, x142001_6⟩ : S39)]) := ⟨_, rfl⟩
              replace H : (hypercubelaw1_Facts.l1 k6 l3 y151 (wrap64 (x14_3 + 1)) x128000_26 t126) = some (r1, r2, r3) := by first | (rw [hy151]; with_reducible exact H) | (have H2_ := (Option.bind_some _ _).symm.trans H; rw [hy151]; with_reducible exact H2_) | (have H2_ := (Option.bind_some _ _).symm.trans H; with_reducible exact H2_) | with_reducible exact H | (rw [hy151]; exact H) | exact H
              have Ny151 := Aside0.mk hy151
              clear hy151
              have H' := Aside0.mk H
              clear H
              have hnb68 := NB127_125.out
              have hnc68 := NB125_127.out
              have hnb69 := NB127_141.out
              have hnc69 := NB141_127.out
              have hcz70_0 : wr.cell? ⟨gb127, 0, none⟩ = some (.slice Ao56 x128000_26.length co56) := (blk_cell BK127.out 0).trans rfl
              have hcz70_1 : wr.cell? ⟨gb127, 1, none⟩ = some (.int .i64 t126) := (blk_cell BK127.out 1).trans rfl
              have hfz70_0 := blk_frozen BK127.out 0
              have hfz70_1 := blk_frozen BK127.out 1
              have hnb71 := NB141_125.out
              have hnc71 := NB125_141.out
              have hcz72_0 : wr.cell? ⟨gb141, 0, none⟩ = some (u142000) := (blk_cell BK141.out 0).trans rfl
              have hcz72_1 : wr.cell? ⟨gb141, 1, none⟩ = some (u142001) := (blk_cell BK141.out 1).trans rfl
              have hfz72_0 := blk_frozen BK141.out 0
              have hfz72_1 := blk_frozen BK141.out 1
              obtain ⟨Ao74, co74, eo74⟩ := Kd.R_slice HO_142000.out
              subst eo74
              obtain ⟨Ao75, co75, eo75⟩ := Kd.R_slice HO_142001.out
              subst eo75
              go_wp2_with (first | ((with_reducible refine gate_builtin (b := .append) (xs := #[.tmp 104, .tmp 106]) rfl ?_); at_builtin; refine Kd.S_append k39 (w0 := w) w.heap.size rfl (.tmp 104) (.tmp 106) 34 39 (.agg #[(.slice none 0 0), (.slice none 0 0)]) 48 rfl Try.underlying34 info39 rfl (by decide) (by omega) u13 x13_3 (⟨x142000_5, x142001_6⟩ : S39) [.slice Ao74 x142000_5.length co74, .slice Ao75 x142001_6.length co75] (fun k_ => some k_ ≠ (.slice Ao56 x128000_26.length co56 : Value).ownBlock ∧ k_ ≠ gb141) (fun k_ => some k_ = (.slice Ao74 x142000_5.length co74 : Value).ownBlock ∨ some k_ = (.slice Ao75 x142001_6.length co75 : Value).ownBlock) rfl rfl ?aP (fun k_ hk_ => hk_.elim (fun h_ => ((Kd.R_mono (ok' := fun k_ => ((fun k_ => some k_ ≠ (.slice Ao56 x128000_26.length co56 : Value).ownBlock ∧ k_ ≠ gb141)) k_ ∧ some k_ ≠ (u13 : Value).ownBlock) (Kd.R_types (Kd.R_apart' (HO_142000.out) (Kd.S_typed HO_13.out) (by decide)) BK141.out (by decide)) (fun k_ hk => ⟨⟨hk.1.1.1, hk.2⟩, hk.1.2⟩))).1 k_ h_.symm) (fun h_ => ((Kd.R_mono (ok' := fun k_ => ((fun k_ => some k_ ≠ (.slice Ao56 x128000_26.length co56 : Value).ownBlock ∧ k_ ≠ gb141)) k_ ∧ some k_ ≠ (u13 : Value).ownBlock) (Kd.R_types (Kd.R_apart' (HO_142001.out) (Kd.S_typed HO_13.out) (by decide)) BK141.out (by decide)) (fun k_ hk => ⟨⟨hk.1.1.1, hk.2⟩, hk.1.2⟩))).1 k_ h_.symm)) ?aF ?aO ?aB ?aS ?aL ?_; (case aP => exact k39_mkM _ _ _ (⟨x142000_5, x142001_6⟩ : S39) (Kd.R_mono (Kd.R_tight rfl (Kd.R_mono (ok' := fun k_ => ((fun k_ => some k_ ≠ (.slice Ao56 x128000_26.length co56 : Value).ownBlock ∧ k_ ≠ gb141)) k_ ∧ some k_ ≠ (u13 : Value).ownBlock) (Kd.R_types (Kd.R_apart' (HO_142000.out) (Kd.S_typed HO_13.out) (by decide)) BK141.out (by decide)) (fun k_ hk => ⟨⟨hk.1.1.1, hk.2⟩, hk.1.2⟩))) (fun _ h_ => Or.inl h_)) (Kd.R_mono (Kd.R_tight rfl (Kd.R_mono (ok' := fun k_ => ((fun k_ => some k_ ≠ (.slice Ao56 x128000_26.length co56 : Value).ownBlock ∧ k_ ≠ gb141)) k_ ∧ some k_ ≠ (u13 : Value).ownBlock) (Kd.R_types (Kd.R_apart' (HO_142001.out) (Kd.S_typed HO_13.out) (by decide)) BK141.out (by decide)) (fun k_ hk => ⟨⟨hk.1.1.1, hk.2⟩, hk.1.2⟩))) (fun _ h_ => Or.inr (h_)))); (case aB => exact (by repeat (first | (with_reducible first | exact HB.out | apply below_alloc | apply pw_below_drewN | apply below_drew1 | refine below_set ?_ GE125.out | refine below_set ?_ GE127.out | refine below_set ?_ GE141.out) | exact HB.out))); (case aF => exact (fun k_ hk => ⟨Kd.fresh' (Kd.R_lt (by (with_reducible repeat (first | apply Kd.R_alloc | apply Kd.R_drewN | apply Kd.R_drew)); exact HO_128000.out)) k_ hk, Kd.freshB (g := gb141) (o := .cells #[.slice Ao74 x142000_5.length co74, .slice Ao75 x142001_6.length co75] 39 (0, 0)) (by (with_reducible repeat (first | refine blk_drewN ?_ _ | refine blk_drew ?_ | refine blk_alloc ?_ _)); exact BK141.out) k_ hk⟩)); (case aO => exact (by (with_reducible repeat (first | apply Kd.S_alloc | apply Kd.S_drewN | apply Kd.S_drew)); exact Kd.S_mono HO_13.out (fun k_ hk => ⟨⟨hk.1, hk.2.2.2⟩, fun e_ => e_.elim (fun h_ => hk.2.1 h_) (fun h_ => hk.2.2.1 h_)⟩))); (case aS => exact (below_size (by repeat (first | (with_reducible first | exact HB.out | apply below_alloc | apply pw_below_drewN | apply below_drew1 | refine below_set ?_ GE125.out | refine below_set ?_ GE127.out | refine below_set ?_ GE141.out) | exact HB.out)))); (case aL => have := LMc67.out; omega); intro v152 w73 ho hb hg hat; rw [← Ny151.out] at ho; have n0_ := Aside0.mk (Kd.R_over' (by (with_reducible repeat (first | apply Kd.R_alloc | apply Kd.R_drewN | apply Kd.R_drew)); exact HO_128000.out) (Kd.S_typed (by (with_reducible repeat (first | apply Kd.S_alloc | apply Kd.S_drewN | apply Kd.S_drew)); exact HO_13.out)) (by decide) hg); have n1_ := Aside0.mk (blk_grown (g := gb125) (o := .cells #[.slice none 0 0, .int .i64 0] 33 (0, 0)) (by (with_reducible repeat (first | refine blk_drewN ?_ _ | refine blk_drew ?_ | refine blk_alloc ?_ _)); exact BK125.out) hg (Kd.S_ne HO_13.out BK125.out (by decide))); have n2_ := Aside0.mk (blk_grown (g := gb127) (o := .cells #[.slice Ao56 x128000_26.length co56, .int .i64 t126] 33 (0, 0)) (by (with_reducible repeat (first | refine blk_drewN ?_ _ | refine blk_drew ?_ | refine blk_alloc ?_ _)); exact BK127.out) hg (Kd.S_ne HO_13.out BK127.out (by decide))); have n3_ := Aside0.mk (blk_grown (g := gb141) (o := .cells #[.slice Ao74 x142000_5.length co74, .slice Ao75 x142001_6.length co75] 39 (0, 0)) (by (with_reducible repeat (first | refine blk_drewN ?_ _ | refine blk_drew ?_ | refine blk_alloc ?_ _)); exact BK141.out) hg (Kd.S_away HO_13.out (fun _ hk => hk.2.2.2))); have n4_ := Aside0.mk (hb); have n5_ := Aside0.mk (ho); clear HO_128000; clear BK125; clear BK127; clear BK141; clear HB; clear HO_13; clear HO_142000; clear HO_142001; have HO_128000 := n0_; have BK125 := n1_; have BK127 := n2_; have BK141 := n3_; have HB := n4_; have HO153 := n5_; clear n0_ n1_ n2_ n3_ n4_ n5_; clear ho hb hg hat))
              go_roundg k6
              case measure => have := HK1.out; have := HJ26.out; have := HK3.out; have := HJ34.out; have := HK5.out; have := HK6.out; omega
              case rel => exact ⟨(y151), (wrap64 (x14_3 + 1)), (by first | rfl | (simp; done) | (simp [*]; done)), H', ⟨by have := HK1.out; have := HJ26.out; have := HK3.out; have := HJ34.out; have := HK5.out; have := HK6.out; omega⟩, ⟨by (with_reducible repeat (first | apply Kd.S_alloc | apply Kd.S_drewN | apply Kd.S_drew)); exact Kd.S_mono HO153.out (fun _ hk => hk.1)⟩, ⟨by (with_reducible repeat (first | apply Kd.R_alloc | apply Kd.R_drewN | apply Kd.R_drew)); exact Kd.R_mono HO_128000.out (fun _ hk => trivial)⟩, ⟨by (with_reducible repeat (first | refine blk_drewN ?_ _ | refine blk_drew ?_ | refine blk_alloc ?_ _)); exact BK125.out⟩, ⟨by (with_reducible repeat (first | refine blk_drewN ?_ _ | refine blk_drew ?_ | refine blk_alloc ?_ _)); exact BK127.out⟩, ⟨by repeat (first | (with_reducible first | exact HB.out | apply below_alloc | apply pw_below_drewN | apply below_drew1 | refine below_set ?_ GE125.out | refine below_set ?_ GE127.out | refine below_set ?_ GE141.out) | exact HB.out)⟩⟩
             rw [if_pos c57] at H
             have c57b0 : decide (x18_6 < t126) = true := decide_eq_true c57
             clear c57
             replace H := Option.bind_eq_some_iff.mp H
             obtain ⟨t147, A580, H⟩ := H
             replace H : (if x142001_6.length < 17592186044416 then (hypercubelaw1_Facts.l3 k6 l3 x13_3 x14_3 x15_5 (wrap64 (x18_6 + 1)) x128000_26 t126 x142000_5 (x142001_6 ++ [wrap64 (t147 - 100)])) else (none)) = some (r1, r2, r3) := H
             have A58 := Aside0.mk A580
             clear A580
             by_cases c59 : x142001_6.length < 17592186044416
             rotate_left
             ·rw [if_neg c59] at H
              exact absurd H (by simp)
             rw [if_pos c59] at H
             have LMc59 := Aside0.mk c59
             clear c59
             obtain ⟨y148, hy148⟩ : ∃ y_ : List Int, y_ = (x142001_6 ++ [wrap64 (t147 - 100)]) := ⟨_, rfl⟩
             replace H : (hypercubelaw1_Facts.l3 k6 l3 x13_3 x14_3 x15_5 (wrap64 (x18_6 + 1)) x128000_26 t126 x142000_5 y148) = some (r1, r2, r3) := by first | (rw [hy148]; with_reducible exact H) | (have H2_ := (Option.bind_some _ _).symm.trans H; rw [hy148]; with_reducible exact H2_) | (have H2_ := (Option.bind_some _ _).symm.trans H; with_reducible exact H2_) | with_reducible exact H | (rw [hy148]; exact H) | exact H
             have Ny148 := Aside0.mk hy148
             clear hy148
             have H' := Aside0.mk H
             clear H
             have hnb60 := NB127_125.out
             have hnc60 := NB125_127.out
             have hnb61 := NB127_141.out
             have hnc61 := NB141_127.out
             have hcz62_0 : wr.cell? ⟨gb127, 0, none⟩ = some (.slice Ao56 x128000_26.length co56) := (blk_cell BK127.out 0).trans rfl
             have hcz62_1 : wr.cell? ⟨gb127, 1, none⟩ = some (.int .i64 t126) := (blk_cell BK127.out 1).trans rfl
             have hfz62_0 := blk_frozen BK127.out 0
             have hfz62_1 := blk_frozen BK127.out 1
             try go_wp2
             have n0_ := Aside0.mk (Kd.S_drew HO_13.out)
             have n1_ := Aside0.mk (Kd.R_drew HO_128000.out)
             have n2_ := Aside0.mk (Kd.R_drew HO_142000.out)
             have n3_ := Aside0.mk (Kd.R_drew HO_142001.out)
             have n4_ := Aside0.mk (blk_drew BK125.out)
             have n5_ := Aside0.mk (blk_drew BK127.out)
             have n6_ := Aside0.mk (blk_drew BK141.out)
             have n7_ := Aside0.mk (below_drew1 HB.out)
             clear HO_13
             clear HO_128000
             clear HO_142000
             clear HO_142001
             clear BK125
             clear BK127
             clear BK141
             clear HB
             have HO_13 := n0_
             have HO_128000 := n1_
             have HO_142000 := n2_
             have HO_142001 := n3_
             have BK125 := n4_
             have BK127 := n5_
             have BK141 := n6_
             have HB := n7_
             clear n0_ n1_ n2_ n3_ n4_ n5_ n6_ n7_
             refine start_ (n := 12) (S := fun w' => w'.cell? ⟨gb141, 0, none⟩ = some (u142000) ∧ w'.cell? ⟨gb141, 1, none⟩ = some (u142001)) (ds := [11]) (fl_ 0 12) (by kernel_rfl) rfl rfl ⟨(blk_cell BK141.out 0).trans rfl, (blk_cell BK141.out 1).trans rfl⟩ (fun hHeld => ?_); refine with_tabW hypercubelaw1_Facts.tab25 hypercubelaw1_Facts.bits25 (fun HT_ HW_ => ?_)
             generalize wr.drew = w63 at HO_13 HO_128000 HO_142000 HO_142001 BK125 BK127 BK141 HB hHeld ⊢
             refine pure_ (i := 0) (N := some 93) (v := ?_) (a' := ?_) (fl_ 1 11) rfl rfl (any_of HT_.out (by kernel_rfl)) (fun _ _ _ h => h) (Or.inl ⟨by rfl, ?_⟩) ?_ ?_
             rotate_left
             ·intro w'
              go_simp
              with_reducible rfl
             rotate_left
             ·simp only [Act.put, sl0, sl1, sl2, i64_w, i32_w]
              rfl
             refine pure_ (i := 2) (N := some 95) (v := ?_) (a' := ?_) #[Y,Z,Y,Z,Z,Z,Z,Z,Z,Z,Z,Z] rfl rfl (any_of HT_.out (by kernel_rfl)) (fun _ _ _ h => h) (Or.inl ⟨by rfl, ?_⟩) ?_ ?_
             rotate_left
             ·intro w'
              go_simp
              with_reducible rfl
             rotate_left
             ·simp only [Act.put, sl0, sl1, sl2, i64_w, i32_w]
              rfl
             refine pure_ (i := 3) (N := some 96) (v := ?_) (a' := ?_) #[Y,Z,Y,Y,Z,Z,Z,Z,Z,Z,Z,Z] rfl rfl (any_of HT_.out (by kernel_rfl)) (fun _ _ _ h => h) (Or.inl ⟨by rfl, ?_⟩) ?_ ?_
             rotate_left
             ·intro w'
              go_simp
              with_reducible rfl
             rotate_left
             ·simp only [Act.put, sl0, sl1, sl2, i64_w, i32_w]
              rfl
             refine pure_ (i := 4) (N := some 97) (v := ?_) (a' := ?_) #[Y,Z,Y,Y,Y,Z,Z,Z,Z,Z,Z,Z] rfl rfl (any_of HT_.out (by kernel_rfl)) (fun _ _ _ h => h) (Or.inl ⟨by rfl, ?_⟩) ?_ ?_
             rotate_left
             ·intro w'
              go_simp
              with_reducible rfl
             rotate_left
             ·simp only [Act.put, sl0, sl1, sl2, i64_w, i32_w]
              rfl
             refine pure_ (i := 5) (N := some 98) (v := ?_) (a' := ?_) #[Y,Z,Y,Y,Y,Y,Z,Z,Z,Z,Z,Z] rfl rfl (any_of HT_.out (by kernel_rfl)) (fun _ _ _ h => h) (Or.inl ⟨by rfl, ?_⟩) ?_ ?_
             rotate_left
             ·intro w'
              go_simp
              with_reducible rfl
             rotate_left
             ·simp only [Act.put, sl0, sl1, sl2, i64_w, i32_w]
              rfl
             refine take_ (i := 1) (N := some 94) (v := ?_) (a' := ?_) (fl_ 6 6) rfl rfl (take_ofW HT_.out HW_.out (by kernel_rfl)) (fun _ _ _ h => h) (Or.inl ⟨by rfl, ?_⟩) hHeld ?_ ?_
             rotate_left
             ·rintro w' ⟨s0, s1⟩
              go_simp
              with_reducible rfl
             rotate_left
             ·simp only [Act.put, sl0, sl1, sl2, i64_w, i32_w]
              rfl
             refine one_ (i := 6) (N := some 99) (fl_ 7 5) rfl rfl (one_of HT_.out (by kernel_rfl)) (by decide) (fun K hK => ?_)
             refine goes_ Try.func70 (by kernel_rfl) rfl #[.int .i64 (wrap64 (x15_5 + (wrap64 (7 * x18_6)))), .int .i64 201] (by rfl) rfl rfl (by (try simp only [List.map_toArray, List.map_cons, List.map_nil]); first | done | rfl | (simp only [List.length_drop, List.length_take]; rfl)) ?_
             with_reducible refine (hypercubelaw1_within.calls (wrap64 (x15_5 + (wrap64 (7 * x18_6)))) 201 t147 _ A58.out).mono ?_
             rintro e w' ⟨rfl, ⟨nd, rfl⟩⟩
             refine ⟨_, rfl, ?_⟩
             refine hK.out _ _ ⟨(blk_cell BK141.out 0).trans rfl, (blk_cell BK141.out 1).trans rfl⟩ (fun hHeld => ?_)
             clear hK K
             refine norm_ (a' := ?_) ?_ ?_
             rotate_left
             ·show Act.put _ (some 99) _ = _
              simp only [Act.put, sl0, sl1, sl2, i64_w, i32_w]
              rfl
             refine pure_ (i := 7) (N := some 100) (v := ?_) (a' := ?_) (fl_ 8 4) rfl rfl (any_of HT_.out (by kernel_rfl)) (fun _ _ _ h => h) (Or.inl ⟨by rfl, ?_⟩) ?_ ?_
             rotate_left
             ·intro w'
              go_simp
              with_reducible rfl
             rotate_left
             ·simp only [Act.put, sl0, sl1, sl2, i64_w, i32_w]
              rfl
             refine one_ (i := 8) (N := some 101) (fl_ 9 3) rfl rfl (one_of HT_.out (by kernel_rfl)) (by decide) (fun K hK => ?_)
             refine value_ (w1 := ?_) (v := ?_) (by rfl) rfl ?_ ?_
             rotate_left 2
             ·go_simp
              constructor
              ·rfl
              rfl
             refine hK.out _ _ ⟨(blk_cell (blk_alloc BK141.out _) 0).trans rfl, (blk_cell (blk_alloc BK141.out _) 1).trans rfl⟩ (fun hHeld => ?_)
             clear hK K
             refine norm_ (a' := ?_) ?_ ?_
             rotate_left
             ·show Act.put _ (some 101) _ = _
              simp only [Act.put, sl0, sl1, sl2, i64_w, i32_w]
              rfl
             refine one_ (i := 9) (N := some 102) (fl_ 10 2) rfl rfl (one_of HT_.out (by kernel_rfl)) (by decide) (fun K hK => ?_)
             refine Kd.R_append_step (Kd.int .i64) (w0 := w) w.heap.size (by rfl) (.tmp 94) (.tmp 101) 24 3 (.int .i64 0) 8 rfl Try.underlying24 info3 rfl (by decide) (by omega) u142001 x142001_6 (wrap64 (t147 - 100)) [.int .i64 (wrap64 (t147 - 100))] (fun k_ => some k_ ≠ (.slice Ao56 x128000_26.length co56 : Value).ownBlock ∧ some k_ ≠ (u142000 : Value).ownBlock) (fun _ => False) rfl rfl ?aP (fun _ hk => hk.elim) ?aF ?aO ?aB ?aS ?aL ?_
             (case aP => exact rfl)
             (case aB => exact (by repeat (first | (with_reducible first | exact HB.out | apply below_alloc | apply pw_below_drewN | apply below_drew1 | refine below_set ?_ GE125.out | refine below_set ?_ GE127.out | refine below_set ?_ GE141.out) | exact HB.out)))
             (case aF => exact (fun k_ hk => ⟨Kd.fresh' (Kd.R_lt (by (with_reducible repeat (first | apply Kd.R_alloc | apply Kd.R_drewN | apply Kd.R_drew)); exact HO_128000.out)) k_ hk, Kd.fresh' (Kd.R_lt (by (with_reducible repeat (first | apply Kd.R_alloc | apply Kd.R_drewN | apply Kd.R_drew)); exact HO_142000.out)) k_ hk⟩))
             (case aO => exact (by (with_reducible repeat (first | apply Kd.R_alloc | apply Kd.R_drewN | apply Kd.R_drew)); exact HO_142001.out))
             (case aS => exact (below_size (by repeat (first | (with_reducible first | exact HB.out | apply below_alloc | apply pw_below_drewN | apply below_drew1 | refine below_set ?_ GE125.out | refine below_set ?_ GE127.out | refine below_set ?_ GE141.out) | exact HB.out))))
             (case aL => have := LMc59.out; omega)
             intro v149 w64 ho hb hg hat
             rw [← Ny148.out] at ho
             have n0_ := Aside0.mk (Kd.S_after (ok := (fun k_ => some k_ ≠ (.slice Ao56 x128000_26.length co56 : Value).ownBlock ∧ some k_ ≠ (u142000 : Value).ownBlock ∧ k_ ≠ gb141)) (by (with_reducible repeat (first | apply Kd.S_alloc | apply Kd.S_drewN | apply Kd.S_drew)); exact Kd.S_mono HO_13.out (fun _ hk => ⟨⟨hk.1, ⟨hk.2.1, hk.2.2.2⟩⟩, hk.2.2.1⟩)) hg hat)
             have n1_ := Aside0.mk (Kd.R_after (ok := (fun k_ => some k_ ≠ (u142000 : Value).ownBlock)) (by (with_reducible repeat (first | apply Kd.R_alloc | apply Kd.R_drewN | apply Kd.R_drew)); exact HO_128000.out) hg hat)
             have n2_ := Aside0.mk (Kd.R_after (ok := (fun k_ => some k_ ≠ (.slice Ao56 x128000_26.length co56 : Value).ownBlock)) (by (with_reducible repeat (first | apply Kd.R_alloc | apply Kd.R_drewN | apply Kd.R_drew)); exact HO_142000.out) hg hat)
             have n3_ := Aside0.mk (blk_grown (g := gb125) (o := .cells #[.slice none 0 0, .int .i64 0] 33 (0, 0)) (by (with_reducible repeat (first | refine blk_drewN ?_ _ | refine blk_drew ?_ | refine blk_alloc ?_ _)); exact BK125.out) hg (Kd.R_ne HO_142001.out BK125.out (by decide)))
             have n4_ := Aside0.mk (blk_grown (g := gb127) (o := .cells #[.slice Ao56 x128000_26.length co56, .int .i64 t126] 33 (0, 0)) (by (with_reducible repeat (first | refine blk_drewN ?_ _ | refine blk_drew ?_ | refine blk_alloc ?_ _)); exact BK127.out) hg (Kd.R_ne HO_142001.out BK127.out (by decide)))
             have n5_ := Aside0.mk (blk_grown (g := gb141) (o := .cells #[u142000, u142001] 39 (0, 0)) (by (with_reducible repeat (first | refine blk_drewN ?_ _ | refine blk_drew ?_ | refine blk_alloc ?_ _)); exact BK141.out) hg (Kd.R_ne HO_142001.out BK141.out (by decide)))
             have n6_ := Aside0.mk (hb)
             have n7_ := Aside0.mk (ho)
             clear HO_13
             clear HO_128000
             clear HO_142000
             clear BK125
             clear BK127
             clear BK141
             clear HB
             clear HO_142001
             have HO_13 := n0_
             have HO_128000 := n1_
             have HO_142000 := n2_
             have BK125 := n3_
             have BK127 := n4_
             have BK141 := n5_
             have HB := n6_
             have HO150 := n7_
             clear n0_ n1_ n2_ n3_ n4_ n5_ n6_ n7_
             clear ho hb hg hat
             obtain ⟨Ao65, co65, eo65⟩ := Kd.R_slice HO150.out
             (first | subst eo65 | (injection eo65 with f1_ f2_ f3_; have f4_ := f1_.symm; have f5_ := f3_.symm; clear f1_ f2_ f3_; subst f4_; subst f5_))
             refine hK.out _ _ ⟨(blk_cell BK141.out 0).trans rfl, (blk_cell BK141.out 1).trans rfl⟩ (fun hHeld => ?_)
             clear hK K
             refine norm_ (a' := ?_) ?_ ?_
             rotate_left
             ·show Act.put _ (some 102) _ = _
              simp only [Act.put, sl0, sl1, sl2, i64_w, i32_w]
              rfl
             refine pure_ (i := 10) (N := some 103) (v := ?_) (a' := ?_) (fl_ 11 1) rfl rfl (any_of HT_.out (by kernel_rfl)) (fun _ _ _ h => h) (Or.inl ⟨by rfl, ?_⟩) ?_ ?_
             rotate_left
             ·intro w'
              go_simp
              with_reducible rfl
             rotate_left
             ·simp only [Act.put, sl0, sl1, sl2, i64_w, i32_w]
              rfl
             refine last_ (i := 11) (N := none) (fl_ 12 0) rfl rfl (one_of HT_.out (by kernel_rfl)) (by decide) (fun K hK => ?_)
             have hs66 : w64.cell? ⟨gb141, 1, none⟩ = some (u142001) := (blk_cell BK141.out 1).trans rfl
             have hfs66 := blk_frozen BK141.out 1
             have hns66_0 := NB125_141.out
             have hns66_1 := NB127_141.out
             have hms66_0 := NB141_125.out
             have hms66_1 := NB141_127.out
             refine skip_ (w1 := ?_) (by rfl) rfl ?_ ?_
             rotate_left
             ·go_simp
              rfl
             refine hK.out _ _ ?_
             clear hK K
             refine done_ (done_of HT_.out (by kernel_rfl)) ?_
             try go_wp2
             go_roundg k6
             case measure => have := HK1.out; have := HJ26.out; have := HK3.out; have := HJ34.out; have := HK5.out; have := HK6.out; omega
             case rel => exact ⟨(wrap64 (x18_6 + 1)), (y148), (.slice Ao65 y148.length co65), (by first | rfl | (simp; done) | (simp [*]; done)), H', ⟨by have := HK1.out; have := HJ26.out; have := HK3.out; have := HJ34.out; have := HK5.out; have := HK6.out; omega⟩, ⟨by (with_reducible repeat (first | apply Kd.S_alloc | apply Kd.S_drewN | apply Kd.S_drew)); exact Kd.S_mono (Kd.S_far (p := ⟨gb141, 1, none⟩) (Kd.S_mono HO_13.out (fun k_ hk => (⟨hk, hk.1.2.2⟩ : _ ∧ k_ ≠ gb141))) (fun _ hk => hk.2) (.slice Ao65 y148.length co65)) (fun _ hk => ⟨hk.1.1.1, ⟨hk.1.1.2.1, ⟨hk.1.2, hk.1.1.2.2⟩⟩⟩)⟩, ⟨by (with_reducible repeat (first | apply Kd.R_alloc | apply Kd.R_drewN | apply Kd.R_drew)); exact Kd.R_mono (Kd.R_far (p := ⟨gb141, 1, none⟩) (Kd.R_types HO_128000.out BK141.out (by decide)) (fun _ hk => hk.2) (.slice Ao65 y148.length co65)) (fun _ hk => ⟨hk.1.1, hk.1.2⟩)⟩, ⟨by (with_reducible repeat (first | apply Kd.R_alloc | apply Kd.R_drewN | apply Kd.R_drew)); exact Kd.R_mono (Kd.R_far (p := ⟨gb141, 1, none⟩) (Kd.R_types HO_142000.out BK141.out (by decide)) (fun _ hk => hk.2) (.slice Ao65 y148.length co65)) (fun _ hk => ⟨hk.1.1, hk.1.2⟩)⟩, ⟨by (with_reducible repeat (first | apply Kd.R_alloc | apply Kd.R_drewN | apply Kd.R_drew)); exact Kd.R_mono (Kd.R_far (p := ⟨gb141, 1, none⟩) (Kd.R_types HO150.out BK141.out (by decide)) (fun _ hk => hk.2) (.slice Ao65 y148.length co65)) (fun _ hk => ⟨hk.1.1, hk.1.2⟩)⟩, ⟨by (with_reducible repeat (first | refine blk_drewN ?_ _ | refine blk_drew ?_ | refine blk_alloc ?_ _)); refine blk_far ?_ NB125_141.out _; (with_reducible repeat (first | refine blk_drewN ?_ _ | refine blk_drew ?_ | refine blk_alloc ?_ _)); exact BK125.out⟩, ⟨by (with_reducible repeat (first | refine blk_drewN ?_ _ | refine blk_drew ?_ | refine blk_alloc ?_ _)); refine blk_far ?_ NB127_141.out _; (with_reducible repeat (first | refine blk_drewN ?_ _ | refine blk_drew ?_ | refine blk_alloc ?_ _)); exact BK127.out⟩, ⟨by (with_reducible repeat (first | refine blk_drewN ?_ _ | refine blk_drew ?_ | refine blk_alloc ?_ _)); refine blk_put (cs := #[u142000, u142001]) ?_ 1 _ rfl; (with_reducible repeat (first | refine blk_drewN ?_ _ | refine blk_drew ?_ | refine blk_alloc ?_ _)); exact BK141.out⟩, ⟨by repeat (first | (with_reducible first | exact HB.out | apply below_alloc | apply pw_below_drewN | apply below_drew1 | refine below_set ?_ GE125.out | refine below_set ?_ GE127.out | refine below_set ?_ GE141.out) | exact HB.out)⟩⟩

end Go.Proofs.Ytlplaidcdocbmaa.PLatticeAll
