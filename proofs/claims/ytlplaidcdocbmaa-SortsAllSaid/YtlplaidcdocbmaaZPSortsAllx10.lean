-- Cut by pack.py, a program of this session; not trusted: Lean checks it.
import Derived.Test.YtlplaidcdocbmaaZG0
import Derived.Test.YtlplaidcdocbmaaZPSortsAllx4
import Derived.Test.YtlplaidcdocbmaaZPSortsAllx5
import Derived.Test.YtlplaidcdocbmaaZPSortsAllx6
import Derived.Test.YtlplaidcdocbmaaZPSortsAllx9

namespace Go.Proofs.Ytlplaidcdocbmaa.PSortsAll
open Go.RowKit Go.Proofs.YtlplaidcdocbmaaW.PrintWords Go.Proofs.YtlplaidcdocbmaaW.PrintLast Go.Proofs.YtlplaidcdocbmaaW.PrintMore
private abbrev fl_ (a b : Nat) : Array Bool := (List.replicate a true ++ List.replicate b false).toArray
private abbrev Y : Bool := true
private abbrev Z : Bool := false
open List renaming setIfInBounds_toArray → sl0, set_cons_zero → sl1, set_cons_succ → sl2
private theorem od_ {p : Prop} [Decidable p] (h : decide p = true := by first | (with_reducible assumption) | assumption) : p := of_decide_eq_true h
attribute [local go_sem] max2_int min2_int max_two min_two max_three min_three max_four min_four
set_option linter.unusedVariables false
set_option linter.unusedSimpArgs false
mutual
def hypercuberef10_below.l0 : Nat → Int → List Int → List Int → List (List Int) → Int → List Int → Int → Option ((List (S49)))
 | 0, _, _, _, _, _, _, _ => none
 | k + 1, x1, x8, x9, x10, x11, x215000, x215001 => if x11 < (x8.length : Int) then (hypercuberef10_below.l1 k x1 x8 x9 x10 x11 ([] : List Int) 0 x215000 x215001) else ((hypercuberef9_Assign.f x10).bind fun bt244 => (hypercuberef10_below.l3 k x1 x8 x9 bt244.1 ([] : List (S49)) 0 x215000 x215001))
def hypercuberef10_below.l1 : Nat → Int → List Int → List Int → List (List Int) → Int → List Int → Int → List Int → Int → Option ((List (S49)))
 | 0, _, _, _, _, _, _, _, _, _ => none
 | k + 1, x1, x8, x9, x10, x11, x12, x13, x215000, x215001 => if x13 < (x9.length : Int) then (if 0 ≤ x13 then (if 0 ≤ x11 then (if x11 < (x8.length : Int) then (if (Go.bits .and .i64 (rd x9 x13) (rd x8 x11)) = (rd x8 x11) then ((hypercuberef8_Scan.f k x215000 x215001 x1 (rd x9 x13)).bind fun t225 => (if x12.length < 17592186044416 then (hypercuberef10_below.l1 k x1 x8 x9 x10 x11 (x12 ++ [t225]) (wrap64 (x13 + 1)) x215000 x215001) else (none))) else (if x12.length < 17592186044416 then (hypercuberef10_below.l1 k x1 x8 x9 x10 x11 (x12 ++ [1000000]) (wrap64 (x13 + 1)) x215000 x215001) else (none))) else (none)) else (none)) else (none)) else (if 0 ≤ x11 then (if x11 < (x8.length : Int) then ((hypercuberef10_cheapest.f k x215000 x215001 x1 (rd x8 x11)).bind fun bt233 => (hypercuberef10_below.l2 k x1 x8 x9 x10 x11 x12 bt233.2 0 x215000 x215001)) else (none)) else (none))
def hypercuberef10_below.l2 : Nat → Int → List Int → List Int → List (List Int) → Int → List Int → Int → Int → List Int → Int → Option ((List (S49)))
 | 0, _, _, _, _, _, _, _, _, _, _ => none
 | k + 1, x1, x8, x9, x10, x11, x12, x16, x17, x215000, x215001 => if x17 < (x8.length : Int) then (if x17 = x11 then (if x12.length < 17592186044416 then (hypercuberef10_below.l2 k x1 x8 x9 x10 x11 (x12 ++ [x16]) x16 (wrap64 (x17 + 1)) x215000 x215001) else (none)) else (if x12.length < 17592186044416 then (hypercuberef10_below.l2 k x1 x8 x9 x10 x11 (x12 ++ [1000000]) x16 (wrap64 (x17 + 1)) x215000 x215001) else (none))) else (if x10.length < 5864062014805 then (hypercuberef10_below.l0 k x1 x8 x9 (x10 ++ [x12]) (wrap64 (x11 + 1)) x215000 x215001) else (none))
def hypercuberef10_below.l3 : Nat → Int → List Int → List Int → List Int → List (S49) → Int → List Int → Int → Option ((List (S49)))
 | 0, _, _, _, _, _, _, _, _ => none
 | k + 1, x1, x8, x9, x19, x22, x23, x215000, x215001 => if x23 < (x8.length : Int) then (if 0 ≤ x23 then (if x23 < (x19.length : Int) then (if (rd x19 x23) < (x9.length : Int) then (if 0 ≤ (rd x19 x23) then (if x22.length < 5864062014805 then (hypercuberef10_below.l3 k x1 x8 x9 x19 (x22 ++ [(⟨rd x8 x23, rd x9 (rd x19 x23), true⟩ : S49)]) (wrap64 (x23 + 1)) x215000 x215001) else (none)) else (none)) else ((hypercuberef10_cheapest.f k x215000 x215001 x1 (rd x8 x23)).bind fun bt257 => (if x22.length < 5864062014805 then (hypercuberef10_below.l3 k x1 x8 x9 x19 (x22 ++ [(⟨rd x8 x23, bt257.1, false⟩ : S49)]) (wrap64 (x23 + 1)) x215000 x215001) else (none)))) else (none)) else (none)) else (some x22)
end
def hypercuberef10_below.f (k : Nat) (l0_0 : List Int) (a0_1 : Int) (a1 : Int) (a2 : Int) : Option ((List (S49))) := (hypercuberef10_level.f k (l0_0.length : Int) a2).bind fun t215 => ((hypercuberef10_level.f k (l0_0.length : Int) (wrap64 (a2 + 1))).bind fun t218 => (hypercuberef10_below.l0 k a1 t215 t218 ([] : List (List Int)) 0 l0_0 a0_1))
def hypercuberef10_below.T12 : Bool × List (List Nat × List Nat) := (true, [([], []), ([], []), ([0, 1], [0, 1]), ([2], [2]), ([], []), ([], []), ([4, 5], [4, 5]), ([6], [6]), ([3, 7], [3, 7]), ([], []), ([], []), ([9, 10], [9, 10]), ([11], [11]), ([8, 12], [8, 12])])
def hypercuberef10_below.B12 : List Nat := [0, 0, 3, 7, 0, 0, 48, 112, 255, 0, 0, 1536, 3584, 8191]
theorem hypercuberef10_below.tab12 : rtab .any (opsOf Try.f77 12) = hypercuberef10_below.T12 := by kernel_rfl
theorem hypercuberef10_below.bits12 : waitsOk hypercuberef10_below.T12.2 hypercuberef10_below.B12 = true := by kernel_rfl
def hypercuberef10_below.T13 : Bool × List (List Nat × List Nat) := (true, [([], []), ([], []), ([], []), ([], []), ([2, 3], [2, 3]), ([4], [4]), ([0, 1, 5], [0, 1, 5]), ([6, 6, 0, 1, 2, 3, 4, 5, 6], [6])])
def hypercuberef10_below.B13 : List Nat := [0, 0, 0, 0, 12, 28, 63, 127]
theorem hypercuberef10_below.tab13 : rtab .any (opsOf Try.f77 13) = hypercuberef10_below.T13 := by kernel_rfl
theorem hypercuberef10_below.bits13 : waitsOk hypercuberef10_below.T13.2 hypercuberef10_below.B13 = true := by kernel_rfl
def hypercuberef10_below.T15 : Bool × List (List Nat × List Nat) := (true, [([], []), ([], []), ([], []), ([], []), ([2, 3], [2, 3]), ([4], [4]), ([0, 1, 5], [0, 1, 5]), ([6], [6]), ([7], [7]), ([7], [7]), ([8, 6, 0, 1, 2, 3, 4, 5, 6, 7, 8], [8]), ([9, 10, 0, 1, 2, 3, 4, 5, 6, 7, 8, 9, 10], [9])])
def hypercuberef10_below.B15 : List Nat := [0, 0, 0, 0, 12, 28, 63, 127, 255, 255, 511, 2047]
theorem hypercuberef10_below.tab15 : rtab .any (opsOf Try.f77 15) = hypercuberef10_below.T15 := by kernel_rfl
theorem hypercuberef10_below.bits15 : waitsOk hypercuberef10_below.T15.2 hypercuberef10_below.B15 = true := by kernel_rfl
def hypercuberef10_below.T30 : Bool × List (List Nat × List Nat) := (true, [([], []), ([], []), ([], []), ([1, 2], [1, 2]), ([3], [3]), ([], []), ([], []), ([], []), ([6, 7], [6, 7]), ([8], [8]), ([5, 9], [5, 9]), ([10], [10]), ([4, 11], [4, 11]), ([12], [12]), ([0, 13], [0, 13]), ([14, 14, 0, 1, 2, 3, 4, 5, 6, 7, 8, 9, 10, 11, 12, 13, 14], [0, 14])])
def hypercuberef10_below.B30 : List Nat := [0, 0, 0, 6, 14, 0, 0, 0, 192, 448, 992, 2016, 4094, 8190, 16383, 32767]
theorem hypercuberef10_below.tab30 : rtab .any (opsOf Try.f77 30) = hypercuberef10_below.T30 := by kernel_rfl
theorem hypercuberef10_below.bits30 : waitsOk hypercuberef10_below.T30.2 hypercuberef10_below.B30 = true := by kernel_rfl
def hypercuberef10_below.T31 : Bool × List (List Nat × List Nat) := (true, [([], []), ([], []), ([], []), ([], []), ([2, 3], [2, 3]), ([4], [4]), ([0, 1, 5], [0, 1, 5]), ([6], [6]), ([7], [7]), ([7], [7]), ([8, 6, 0, 1, 2, 3, 4, 5, 6, 7, 8], [8]), ([9, 10, 0, 1, 2, 3, 4, 5, 6, 7, 8, 9, 10], [9])])
def hypercuberef10_below.B31 : List Nat := [0, 0, 0, 0, 12, 28, 63, 127, 255, 255, 511, 2047]
theorem hypercuberef10_below.tab31 : rtab .any (opsOf Try.f77 31) = hypercuberef10_below.T31 := by kernel_rfl
theorem hypercuberef10_below.bits31 : waitsOk hypercuberef10_below.T31.2 hypercuberef10_below.B31 = true := by kernel_rfl
set_option maxHeartbeats 8000000 in
set_option maxRecDepth 100000 in
theorem hypercuberef10_below.calls (k : Nat) (A0_0 : Option Addr) (c0_0 : Nat) (l0_0 : List Int) (a0_1 : Int) (a1 : Int) (a2 : Int) (r : List (S49)) (w : World) (hr0_0 : Kd.C (Kd.int .i64) w A0_0 l0_0.length l0_0) (hc0_0 : l0_0.length ≤ c0_0) (h : hypercuberef10_below.f k l0_0 a0_1 a1 a2 = some r) :
 Calls Try.prog 77 #[.agg #[.slice A0_0 l0_0.length c0_0, .int .i64 a0_1], .int .i64 a1, .int .i64 a2] w fun e w' => ∃ v0_ : Value, e = .returned (v0_) ∧ Kd.R k49 49 w' w.heap.size (fun _ => True) v0_ r ∧ Below w.heap.size w w' := by
 have hu33 := Try.underlying33
 have hu49 := Try.underlying49
 have HR0_0 := Aside0.mk hr0_0
 have HC0_0 := Aside0.mk hc0_0
 clear hr0_0 hc0_0
 have HB := Aside0.mk (Below.refl w.heap.size w)
 have H : ((hypercuberef10_level.f k (l0_0.length : Int) a2).bind fun t215 => ((hypercuberef10_level.f k (l0_0.length : Int) (wrap64 (a2 + 1))).bind fun t218 => (hypercuberef10_below.l0 k a1 t215 t218 ([] : List (List Int)) 0 l0_0 a0_1))) = some r := h
 clear h
 replace H := Option.bind_eq_some_iff.mp H
 obtain ⟨t215, A40, H⟩ := H
 replace H : ((hypercuberef10_level.f k (l0_0.length : Int) (wrap64 (a2 + 1))).bind fun t218 => (hypercuberef10_below.l0 k a1 t215 t218 ([] : List (List Int)) 0 l0_0 a0_1)) = some r := H
 have A4 := Aside0.mk A40
 clear A40
 replace H := Option.bind_eq_some_iff.mp H
 obtain ⟨t218, A50, H⟩ := H
 replace H : (hypercuberef10_below.l0 k a1 t215 t218 ([] : List (List Int)) 0 l0_0 a0_1) = some r := H
 have A5 := Aside0.mk A50
 clear A50
 have H' := Aside0.mk H
 clear H
 go_enter Try.func77, Try.ntmps77
 go_wp2_with (first | ((with_reducible refine gate_dst (N := 3) rfl ?_); refine box_event ?hg (N := 3) ?hd (cs := #[.slice A0_0 l0_0.length c0_0, .int .i64 a0_1]) (t := 33) ?hr ?_; (case hd => rfl); (case hg => rfl); (case hr => first | (go_simp; done) | (go_simp; rfl)); intro gb214 hg w6 hbox hb; have n0_ := Aside0.mk (below_step (by repeat (first | (with_reducible first | exact HB.out | apply below_alloc | apply pw_below_drewN | apply below_drew1) | exact HB.out)) hb); have n1_ := Aside0.mk (hbox); have n2_ := Aside0.mk ((by rw [hg]; exact (below_size (by repeat (first | (with_reducible first | exact HB.out | apply below_alloc | apply pw_below_drewN | apply below_drew1) | exact HB.out))) : w.heap.size ≤ gb214)); have n3_ := Aside0.mk ((by rw [hg]; exact (below_size (by repeat (first | (with_reducible first | exact HB.out | apply below_alloc | apply pw_below_drewN | apply below_drew1) | exact HB.out))) : w.heap.size ≤ gb214)); clear HB; have HB := n0_; have BK214 := n1_; have GW214 := n2_; have GE214 := n3_; clear n0_ n1_ n2_ n3_; clear hb hbox hg; have hcz7_0 : w6.cell? ⟨gb214, 0, none⟩ = some (.slice A0_0 l0_0.length c0_0) := (blk_cell BK214.out 0).trans rfl; have hcz7_1 : w6.cell? ⟨gb214, 1, none⟩ = some (.int .i64 a0_1) := (blk_cell BK214.out 1).trans rfl; have hfz7_0 := blk_frozen BK214.out 0; have hfz7_1 := blk_frozen BK214.out 1) | ((with_reducible refine gate_callee (f := 95) rfl ?_); refine goesL_ (some 31) rfl rfl Try.func95 (by kernel_rfl) rfl #[.int .i64 (l0_0.length : Int), .int .i64 a2] rfl (by (try simp only [List.map_toArray, List.map_cons, List.map_nil]); first | done | rfl | (simp only [List.length_drop, List.length_take]; rfl)) ?_; (with_reducible refine (hypercuberef10_level.calls k (l0_0.length : Int) a2 t215 _ A4.out).mono ?_); rintro e w8 ⟨v216, rfl, ho0, hb⟩; refine ⟨_, rfl, ?_⟩; have n0_ := Aside0.mk (Kd.R_lower ho0 (below_size (by repeat (first | (with_reducible first | exact HB.out | apply below_alloc | apply pw_below_drewN | apply below_drew1 | refine below_set ?_ GE214.out) | exact HB.out)))); have n1_ := Aside0.mk (blk_below (g := gb214) (o := .cells #[.slice A0_0 l0_0.length c0_0, .int .i64 a0_1] 33 (0, 0)) (by (with_reducible repeat (first | refine blk_drewN ?_ _ | refine blk_drew ?_ | refine blk_alloc ?_ _)); exact BK214.out) hb); have n2_ := Aside0.mk (below_step (by repeat (first | (with_reducible first | exact HB.out | apply below_alloc | apply pw_below_drewN | apply below_drew1 | refine below_set ?_ GE214.out) | exact HB.out)) hb); clear BK214; clear HB; have HO217 := n0_; have BK214 := n1_; have HB := n2_; clear n0_ n1_ n2_; (try clear hb); (try clear hb2); (try clear hk); (try clear hi); (try clear ho0)) | ((with_reducible refine gate_callee (f := 95) rfl ?_); refine goesL_ (some 35) rfl rfl Try.func95 (by kernel_rfl) rfl #[.int .i64 (l0_0.length : Int), .int .i64 (wrap64 (a2 + 1))] rfl (by (try simp only [List.map_toArray, List.map_cons, List.map_nil]); first | done | rfl | (simp only [List.length_drop, List.length_take]; rfl)) ?_; (with_reducible refine (hypercuberef10_level.calls k (l0_0.length : Int) (wrap64 (a2 + 1)) t218 _ A5.out).mono ?_); rintro e w9 ⟨v219, rfl, ho0, hb⟩; refine ⟨_, rfl, ?_⟩; have n0_ := Aside0.mk (Kd.R_elder' (by (with_reducible repeat (first | apply Kd.R_alloc | apply Kd.R_drewN | apply Kd.R_drew)); exact HO217.out) (Kd.R_base ho0) hb); have n1_ := Aside0.mk (Kd.R_lower (Kd.R_new' ho0 (Kd.R_lt (by (with_reducible repeat (first | apply Kd.R_alloc | apply Kd.R_drewN | apply Kd.R_drew)); exact HO217.out))) (below_size (by repeat (first | (with_reducible first | exact HB.out | apply below_alloc | apply pw_below_drewN | apply below_drew1 | refine below_set ?_ GE214.out) | exact HB.out)))); have n2_ := Aside0.mk (blk_below (g := gb214) (o := .cells #[.slice A0_0 l0_0.length c0_0, .int .i64 a0_1] 33 (0, 0)) (by (with_reducible repeat (first | refine blk_drewN ?_ _ | refine blk_drew ?_ | refine blk_alloc ?_ _)); exact BK214.out) hb); have n3_ := Aside0.mk (below_step (by repeat (first | (with_reducible first | exact HB.out | apply below_alloc | apply pw_below_drewN | apply below_drew1 | refine below_set ?_ GE214.out) | exact HB.out)) hb); clear HO217; clear BK214; clear HB; have HO217 := n0_; have HO220 := n1_; have BK214 := n2_; have HB := n3_; clear n0_ n1_ n2_ n3_; (try clear hb); (try clear hb2); (try clear hk); (try clear hi); (try clear ho0)))
 go_loopg [10, 11] k (fun kq v10 v11 w' => ∃ (x10_1 : List (List Int)) (x11_1 : Int), v11 = .int .i64 x11_1 ∧ Aside0 (hypercuberef10_below.l0 kq a1 t215 t218 x10_1 x11_1 l0_0 a0_1 = some r) ∧ Aside0 (kq ≤ k) ∧ Aside0 (Kd.R (Kd.int .i64) 3 w' w.heap.size (fun k_ => some k_ ≠ (v219 : Value).ownBlock) v216 t215) ∧ Aside0 (Kd.R (Kd.int .i64) 3 w' w.heap.size (fun k_ => some k_ ≠ (v216 : Value).ownBlock) v219 t218) ∧ Aside0 (Kd.S (Kd.slice 3 (Kd.int .i64)) 24 w' w.heap.size (fun k_ => some k_ ≠ (v216 : Value).ownBlock ∧ some k_ ≠ (v219 : Value).ownBlock) v10 x10_1) ∧ Aside0 (w'.heap[gb214]? = some (.cells #[(.slice A0_0 l0_0.length c0_0), .int .i64 a0_1] 33 (0, 0))) ∧ Aside0 (Below w.heap.size w w'))
 case atStart => exact ⟨(([] : List (List Int))), (0), (by first | rfl | (simp; done) | (simp [*]; done)), H', ⟨Nat.le_refl _⟩, ⟨by (with_reducible repeat (first | apply Kd.R_alloc | apply Kd.R_drewN | apply Kd.R_drew)); exact Kd.R_mono HO217.out (fun _ hk => hk.2)⟩, ⟨by (with_reducible repeat (first | apply Kd.R_alloc | apply Kd.R_drewN | apply Kd.R_drew)); exact Kd.R_mono HO220.out (fun _ hk => hk.2)⟩, ⟨by first | exact Kd.S_nil _ _ _ _ _ | exact Kd.N_nil _ _ _ _ _ | exact Kd.V_nil _ _ _ _ _ | exact Kd.Q_nil _ _ _ _ _ | exact Kd.R_nil _ _ _ _ _⟩, ⟨by (with_reducible repeat (first | refine blk_drewN ?_ _ | refine blk_drew ?_ | refine blk_alloc ?_ _)); exact BK214.out⟩, ⟨by repeat (first | (with_reducible first | exact HB.out | apply below_alloc | apply pw_below_drewN | apply below_drew1 | refine below_set ?_ GE214.out) | exact HB.out)⟩⟩
 case round =>
  clear H'
  obtain ⟨x10_1, x11_1, rfl, HA, HK1, HO_8, HO_9, HO_10, BK214, HB⟩ := hrel
  cases gk with
  | zero => exact absurd HA.out (by simp [hypercuberef10_below.l0])
  | succ k1 =>
   have H := HA.out
   clear HA
   simp only [hypercuberef10_below.l0] at H
   by_cases c10 : x11_1 < (t215.length : Int)
   rotate_left
   ·rw [if_neg c10] at H
    have c10b0 : decide (x11_1 < (t215.length : Int)) = false := decide_eq_false c10
    clear c10
    replace H := Option.bind_eq_some_iff.mp H
    obtain ⟨⟨t244, t245, t246⟩, A430, H⟩ := H
    replace H : (hypercuberef10_below.l3 k1 a1 t215 t218 t244 ([] : List (S49)) 0 l0_0 a0_1) = some r := H
    have A43 := Aside0.mk A430
    clear A430
    have H' := Aside0.mk H
    clear H
    obtain ⟨Ao44, co44, eo44⟩ := Kd.R_slice HO_8.out
    subst eo44
    obtain ⟨Ao45, co45, eo45⟩ := Kd.S_slice HO_10.out
    subst eo45
    go_wp2_with (first | ((with_reducible refine gate_callee (f := 97) rfl ?_); refine goesL_ (some 103) rfl rfl Try.func97 (by kernel_rfl) rfl #[.slice Ao45 x10_1.length co45] rfl (by (try simp only [List.map_toArray, List.map_cons, List.map_nil]); first | done | rfl | (simp only [List.length_drop, List.length_take]; rfl)) ?_; (with_reducible refine (hypercuberef9_Assign.calls _ _ x10_1 t244 t245 t246 _ ?side1 ?side2 A43.out).mono ?_); (case side1 => repeat (first | exact (Kd.S_reads' HO_10.out).2.2 | (with_reducible refine Kd.C_alloc ?_ _) | (with_reducible refine Kd.C_drewN ?_ _) | (with_reducible refine Kd.C_drew ?_))); (case side2 => exact (Kd.S_reads' HO_10.out).2.1); rintro e w46 ⟨v247, rfl, ho0, hb⟩; refine ⟨_, rfl, ?_⟩; have n0_ := Aside0.mk (Kd.R_elder' (by (with_reducible repeat (first | apply Kd.R_alloc | apply Kd.R_drewN | apply Kd.R_drew)); exact HO_8.out) (Kd.R_base ho0) hb); have n1_ := Aside0.mk (Kd.R_elder' (by (with_reducible repeat (first | apply Kd.R_alloc | apply Kd.R_drewN | apply Kd.R_drew)); exact HO_9.out) (Kd.R_base ho0) hb); have n2_ := Aside0.mk (Kd.S_elder' (by (with_reducible repeat (first | apply Kd.S_alloc | apply Kd.S_drewN | apply Kd.S_drew)); exact HO_10.out) (Kd.R_base ho0) hb); have n3_ := Aside0.mk (Kd.R_lower (Kd.R_new' (Kd.R_new' ho0 (Kd.R_lt (by (with_reducible repeat (first | apply Kd.R_alloc | apply Kd.R_drewN | apply Kd.R_drew)); exact HO_8.out))) (Kd.R_lt (by (with_reducible repeat (first | apply Kd.R_alloc | apply Kd.R_drewN | apply Kd.R_drew)); exact HO_9.out))) (below_size (by repeat (first | (with_reducible first | exact HB.out | apply below_alloc | apply pw_below_drewN | apply below_drew1 | refine below_set ?_ GE214.out) | exact HB.out)))); have n4_ := Aside0.mk (blk_below (g := gb214) (o := .cells #[.slice A0_0 l0_0.length c0_0, .int .i64 a0_1] 33 (0, 0)) (by (with_reducible repeat (first | refine blk_drewN ?_ _ | refine blk_drew ?_ | refine blk_alloc ?_ _)); exact BK214.out) hb); have n5_ := Aside0.mk (below_step (by repeat (first | (with_reducible first | exact HB.out | apply below_alloc | apply pw_below_drewN | apply below_drew1 | refine below_set ?_ GE214.out) | exact HB.out)) hb); clear HO_8; clear HO_9; clear HO_10; clear BK214; clear HB; have HO_8 := n0_; have HO_9 := n1_; have HO_10 := n2_; have HO248 := n3_; have BK214 := n4_; have HB := n5_; clear n0_ n1_ n2_ n3_ n4_ n5_; (try clear hb); (try clear hb2); (try clear hk); (try clear hi); (try clear ho0)))
    go_loopg [22, 23] k1 (fun kq v22 v23 w' => ∃ (x22_2 : List (S49)) (x23_2 : Int), v23 = .int .i64 x23_2 ∧ Aside0 (hypercuberef10_below.l3 kq a1 t215 t218 t244 x22_2 x23_2 l0_0 a0_1 = some r) ∧ Aside0 (kq ≤ k1) ∧ Aside0 (Kd.R (Kd.int .i64) 3 w' w.heap.size (fun k_ => some k_ ≠ (v219 : Value).ownBlock ∧ some k_ ≠ (v247 : Value).ownBlock) (.slice Ao44 t215.length co44) t215) ∧ Aside0 (Kd.R (Kd.int .i64) 3 w' w.heap.size (fun k_ => some k_ ≠ ((.slice Ao44 t215.length co44) : Value).ownBlock ∧ some k_ ≠ (v247 : Value).ownBlock) v219 t218) ∧ Aside0 (Kd.R (Kd.int .i64) 3 w' w.heap.size (fun k_ => some k_ ≠ ((.slice Ao44 t215.length co44) : Value).ownBlock ∧ some k_ ≠ (v219 : Value).ownBlock) v247 t244) ∧ Aside0 (Kd.R k49 49 w' w.heap.size (fun _ => True) v22 x22_2) ∧ Aside0 (w'.heap[gb214]? = some (.cells #[(.slice A0_0 l0_0.length c0_0), .int .i64 a0_1] 33 (0, 0))) ∧ Aside0 (Below w.heap.size w w'))
    case atStart => exact ⟨(([] : List (S49))), (0), (by first | rfl | (simp; done) | (simp [*]; done)), H', ⟨Nat.le_refl _⟩, ⟨by (with_reducible repeat (first | apply Kd.R_alloc | apply Kd.R_drewN | apply Kd.R_drew)); exact HO_8.out⟩, ⟨by (with_reducible repeat (first | apply Kd.R_alloc | apply Kd.R_drewN | apply Kd.R_drew)); exact HO_9.out⟩, ⟨by (with_reducible repeat (first | apply Kd.R_alloc | apply Kd.R_drewN | apply Kd.R_drew)); exact Kd.R_mono HO248.out (fun _ hk => ⟨hk.1.2, hk.2⟩)⟩, ⟨by first | exact Kd.R_nil _ _ _ _ _ | exact Kd.N_nil _ _ _ _ _ | exact Kd.V_nil _ _ _ _ _ | exact Kd.Q_nil _ _ _ _ _ | exact Kd.S_nil _ _ _ _ _⟩, ⟨by (with_reducible repeat (first | refine blk_drewN ?_ _ | refine blk_drew ?_ | refine blk_alloc ?_ _)); exact BK214.out⟩, ⟨by repeat (first | (with_reducible first | exact HB.out | apply below_alloc | apply pw_below_drewN | apply below_drew1 | refine below_set ?_ GE214.out) | exact HB.out)⟩⟩
    case round =>
     clear H'
     obtain ⟨x22_2, x23_2, rfl, HA, HK2, HO_8, HO_9, HO_19, HO_22, BK214, HB⟩ := hrel
     cases gk with
     | zero => exact absurd HA.out (by simp [hypercuberef10_below.l3])
     | succ k2 =>
      have H := HA.out
      clear HA
      simp only [hypercuberef10_below.l3] at H
      by_cases c47 : x23_2 < (t215.length : Int)
      rotate_left
      ·rw [if_neg c47] at H
       have c47b0 : decide (x23_2 < (t215.length : Int)) = false := decide_eq_false c47
       clear c47
       obtain rfl := Option.some.inj H
       go_wp2
       go_ret
       exact ⟨_, by first | rfl | (simp [errW_none, errW_some] <;> rfl) | (simp [*, errW_none, errW_some] <;> rfl), by (with_reducible repeat (first | apply Kd.R_alloc | apply Kd.R_drewN | apply Kd.R_drew)); exact HO_22.out, by repeat (first | (with_reducible first | exact HB.out | apply below_alloc | apply pw_below_drewN | apply below_drew1 | refine below_set ?_ GE214.out) | exact HB.out)⟩
      rw [if_pos c47] at H
      have c47b0 : decide (x23_2 < (t215.length : Int)) = true := decide_eq_true c47
      clear c47
      by_cases c48 : 0 ≤ x23_2
      rotate_left
      ·rw [if_neg c48] at H
       exact absurd H (by simp)
      rw [if_pos c48] at H
      have c48b0 : decide (0 ≤ x23_2) = true := decide_eq_true c48
      clear c48
      by_cases c49 : x23_2 < (t244.length : Int)
      rotate_left
      ·rw [if_neg c49] at H
       exact absurd H (by simp)
      rw [if_pos c49] at H
      have c49b0 : decide (x23_2 < (t244.length : Int)) = true := decide_eq_true c49
      clear c49
      by_cases c50 : (rd t244 x23_2) < (t218.length : Int)
      rotate_left
      ·rw [if_neg c50] at H
       have c50b0 : decide ((rd t244 x23_2) < (t218.length : Int)) = false := decide_eq_false c50
       clear c50
       replace H := Option.bind_eq_some_iff.mp H
       obtain ⟨⟨t257, t258⟩, A570, H⟩ := H
       replace H : (if x22_2.length < 5864062014805 then (hypercuberef10_below.l3 k2 a1 t215 t218 t244 (x22_2 ++ [(⟨rd t215 x23_2, t257, false⟩ : S49)]) (wrap64 (x23_2 + 1)) l0_0 a0_1) else (none)) = some r := H
       have A57 := Aside0.mk A570
       clear A570
       by_cases c58 : x22_2.length < 5864062014805
       rotate_left
       ·rw [if_neg c58] at H
        exact absurd H (by simp)
       rw [if_pos c58] at H
       have LMc58 := Aside0.mk c58
       clear c58
       obtain ⟨y260, hy260⟩ : ∃ y_ : List (S49), y_ = (x22_2 ++ [(⟨rd t215 x23_2, t257, false⟩ : S49)]) := ⟨_, rfl⟩
       replace H : (hypercuberef10_below.l3 k2 a1 t215 t218 t244 y260 (wrap64 (x23_2 + 1)) l0_0 a0_1) = some r := by first | (rw [hy260]; with_reducible exact H) | (have H2_ := (Option.bind_some _ _).symm.trans H; rw [hy260]; with_reducible exact H2_) | (have H2_ := (Option.bind_some _ _).symm.trans H; with_reducible exact H2_) | with_reducible exact H | (rw [hy260]; exact H) | exact H
       have Ny260 := Aside0.mk hy260
       clear hy260
       have H' := Aside0.mk H
       clear H
       obtain ⟨Ao59, co59, eo59⟩ := Kd.R_slice HO_19.out
       subst eo59
       have p249 : 0 ≤ (x23_2 : Int) := od_
       have q249 : x23_2 < (t244.length : Int) := od_
       obtain ⟨ad249, e249, hx249_0⟩ := Kd.at_int (Kd.R_reads' HO_19.out).2.2 x23_2 p249 q249
       cases e249
       replace p249 := eq_true p249
       replace q249 := eq_true q249
       obtain ⟨Ao60, co60, eo60⟩ := Kd.R_slice HO_9.out
       subst eo60
       try go_wp2
       have n0_ := Aside0.mk (Kd.R_drew HO_8.out)
       have n1_ := Aside0.mk (Kd.R_drew HO_9.out)
       have n2_ := Aside0.mk (Kd.R_drew HO_19.out)
       have n3_ := Aside0.mk (Kd.R_drew HO_22.out)
       have n4_ := Aside0.mk (blk_drew BK214.out)
       have n5_ := Aside0.mk (below_drew1 HB.out)
       clear HO_8 HO_9 HO_19 HO_22 BK214 HB
       have HO_8 := n0_
       have HO_9 := n1_
       have HO_19 := n2_
       have HO_22 := n3_
       have BK214 := n4_
       have HB := n5_
       clear n0_ n1_ n2_ n3_ n4_ n5_
       have p256 : 0 ≤ (x23_2 : Int) := od_
       have q256 : x23_2 < (t215.length : Int) := od_
       obtain ⟨ad256, e256, hx256_0⟩ := Kd.at_int (Kd.R_reads' HO_8.out).2.2 x23_2 p256 q256
       cases e256
       replace p256 := eq_true p256
       replace q256 := eq_true q256
       refine start_ (n := 12) (S := fun w' => w'.cell? ⟨gb214, 0, none⟩ = some (.slice A0_0 l0_0.length c0_0) ∧ w'.cell? ⟨gb214, 1, none⟩ = some (.int .i64 a0_1) ∧ w'.cell? (ad256.add (x23_2).toNat) = some (.int .i64 (rd t215 x23_2))) (ds := []) (fl_ 0 12) (by kernel_rfl) rfl rfl ⟨(blk_cell BK214.out 0).trans rfl, (blk_cell BK214.out 1).trans rfl, hx256_0⟩ (fun hHeld => ?_); refine with_tabW hypercuberef10_below.tab31 hypercuberef10_below.bits31 (fun HT_ HW_ => ?_)
       generalize wr.drew = w61 at HO_8 HO_9 HO_19 HO_22 BK214 HB hx256_0 hHeld ⊢
       refine pure_ (i := 1) (N := some 137) (v := ?_) (a' := ?_) #[Z,Y,Z,Z,Z,Z,Z,Z,Z,Z,Z,Z] rfl rfl (any_of HT_.out (by kernel_rfl)) (fun _ _ _ h => h) (Or.inl ⟨by rfl, ?_⟩) ?_ ?_
       rotate_left
       ·intro w'
        go_simp
        with_reducible rfl
       rotate_left
       ·simp only [Act.put, sl0, sl1, sl2, i64_w, i32_w]
        rfl
       refine pure_ (i := 2) (N := some 138) (v := ?_) (a' := ?_) #[Z,Y,Y,Z,Z,Z,Z,Z,Z,Z,Z,Z] rfl rfl (any_of HT_.out (by kernel_rfl)) (fun _ _ _ h => h) (Or.inl ⟨by rfl, ?_⟩) ?_ ?_
       rotate_left
       ·intro w'
        go_simp
        with_reducible rfl
       rotate_left
       ·simp only [Act.put, sl0, sl1, sl2, i64_w, i32_w]
        rfl
       refine pure_ (i := 3) (N := some 139) (v := ?_) (a' := ?_) #[Z,Y,Y,Y,Z,Z,Z,Z,Z,Z,Z,Z] rfl rfl (any_of HT_.out (by kernel_rfl)) (fun _ _ _ h => h) (Or.inl ⟨by rfl, ?_⟩) ?_ ?_
       rotate_left
       ·intro w'
        go_simp
        with_reducible rfl
       rotate_left
       ·simp only [Act.put, sl0, sl1, sl2, i64_w, i32_w]
        rfl
       refine pure_ (i := 4) (N := some 140) (v := ?_) (a' := ?_) #[Z,Y,Y,Y,Y,Z,Z,Z,Z,Z,Z,Z] rfl rfl (any_of HT_.out (by kernel_rfl)) (fun _ _ _ h => h) (Or.inl ⟨by rfl, ?_⟩) ?_ ?_
       rotate_left
       ·intro w'
        go_simp
        with_reducible rfl
       rotate_left
       ·simp only [Act.put, sl0, sl1, sl2, i64_w, i32_w]
        rfl
       refine take_ (i := 0) (N := some 136) (v := ?_) (a' := ?_) (fl_ 5 7) rfl rfl (take_ofW HT_.out HW_.out (by kernel_rfl)) (fun _ _ _ h => h) (Or.inl ⟨by rfl, ?_⟩) hHeld ?_ ?_
       rotate_left
       ·rintro w' ⟨s0, s1, s2⟩
        go_simp
        with_reducible rfl
       rotate_left
       ·simp only [Act.put, sl0, sl1, sl2, i64_w, i32_w]
        rfl
       refine take_ (i := 5) (N := some 141) (v := ?_) (a' := ?_) (fl_ 6 6) rfl rfl (take_ofW HT_.out HW_.out (by kernel_rfl)) (fun _ _ _ h => h) (Or.inl ⟨by rfl, ?_⟩) hHeld ?_ ?_
       rotate_left
       ·rintro w' ⟨s0, s1, s2⟩
        go_simp
        with_reducible rfl
       rotate_left
       ·simp only [Act.put, sl0, sl1, sl2, i64_w, i32_w]
        rfl
       refine one_ (i := 6) (N := some 142) (fl_ 7 5) rfl rfl (one_of HT_.out (by kernel_rfl)) (by decide) (fun K hK => ?_)
       refine goes_ Try.func96 (by kernel_rfl) rfl #[.agg #[.slice A0_0 l0_0.length c0_0, .int .i64 a0_1], .int .i64 a1, .int .i64 (rd t215 x23_2)] (by rfl) rfl rfl (by (try simp only [List.map_toArray, List.map_cons, List.map_nil]); first | done | rfl | (simp only [List.length_drop, List.length_take]; rfl)) ?_
       with_reducible refine (hypercuberef10_cheapest.calls k2 _ _ l0_0 a0_1 a1 (rd t215 x23_2) t257 t258 _ ?side1 ?side2 A57.out).mono ?_
       (case side1 => repeat (first | exact (Kd.C_below HR0_0.out HB.out) | (with_reducible refine Kd.C_alloc ?_ _) | (with_reducible refine Kd.C_drewN ?_ _) | (with_reducible refine Kd.C_drew ?_)))
       (case side2 => exact HC0_0.out)
       rintro e w62 ⟨rfl, hb⟩
       have HS2_ := (hb.cell (World.block_lt_of_cell? _ _ (hHeld.2.2))).trans (hHeld.2.2)
       refine ⟨_, rfl, ?_⟩
       have n0_ := Aside0.mk (Kd.R_below (by (with_reducible repeat (first | apply Kd.R_alloc | apply Kd.R_drewN | apply Kd.R_drew)); exact HO_8.out) hb)
       have n1_ := Aside0.mk (Kd.R_below (by (with_reducible repeat (first | apply Kd.R_alloc | apply Kd.R_drewN | apply Kd.R_drew)); exact HO_9.out) hb)
       have n2_ := Aside0.mk (Kd.R_below (by (with_reducible repeat (first | apply Kd.R_alloc | apply Kd.R_drewN | apply Kd.R_drew)); exact HO_19.out) hb)
       have n3_ := Aside0.mk (Kd.R_below (by (with_reducible repeat (first | apply Kd.R_alloc | apply Kd.R_drewN | apply Kd.R_drew)); exact HO_22.out) hb)
       have n4_ := Aside0.mk (blk_below (g := gb214) (o := .cells #[.slice A0_0 l0_0.length c0_0, .int .i64 a0_1] 33 (0, 0)) (by (with_reducible repeat (first | refine blk_drewN ?_ _ | refine blk_drew ?_ | refine blk_alloc ?_ _)); exact BK214.out) hb)
       have n5_ := Aside0.mk (below_step (by repeat (first | (with_reducible first | exact HB.out | apply below_alloc | apply pw_below_drewN | apply below_drew1 | refine below_set ?_ GE214.out) | exact HB.out)) hb)
       clear HO_8 HO_9 HO_19 HO_22 BK214 HB
       have HO_8 := n0_
       have HO_9 := n1_
       have HO_19 := n2_
       have HO_22 := n3_
       have BK214 := n4_
       have HB := n5_
       clear n0_ n1_ n2_ n3_ n4_ n5_
       refine hK.out _ _ ⟨(blk_cell BK214.out 0).trans rfl, (blk_cell BK214.out 1).trans rfl, HS2_⟩ (fun hHeld => ?_)
       clear hK K
       refine norm_ (a' := ?_) ?_ ?_
       rotate_left
       ·show Act.put _ (some 142) _ = _
        simp only [Act.put, sl0, sl1, sl2, i64_w, i32_w]
        rfl
       refine pure_ (i := 7) (N := some 135) (v := ?_) (a' := ?_) (fl_ 8 4) rfl rfl (any_of HT_.out (by kernel_rfl)) (fun _ _ _ h => h) (Or.inl ⟨by rfl, ?_⟩) ?_ ?_
       rotate_left
       ·intro w'
        go_simp
        with_reducible rfl
       rotate_left
       ·simp only [Act.put, sl0, sl1, sl2, i64_w, i32_w]
        rfl
       refine pure_ (i := 8) (N := some 143) (v := ?_) (a' := ?_) (fl_ 9 3) rfl rfl (any_of HT_.out (by kernel_rfl)) (fun _ _ _ h => h) (Or.inl ⟨by rfl, ?_⟩) ?_ ?_
       rotate_left
       ·intro w'
        go_simp
        with_reducible rfl
       rotate_left
       ·simp only [Act.put, sl0, sl1, sl2, i64_w, i32_w]
        rfl
       refine pure_ (i := 9) (N := some 144) (v := ?_) (a' := ?_) (fl_ 10 2) rfl rfl (any_of HT_.out (by kernel_rfl)) (fun _ _ _ h => h) (Or.inl ⟨by rfl, ?_⟩) ?_ ?_
       rotate_left
       ·intro w'
        go_simp
        with_reducible rfl
       rotate_left
       ·simp only [Act.put, sl0, sl1, sl2, i64_w, i32_w]
        rfl
       refine pure_ (i := 10) (N := some 24) (v := ?_) (a' := ?_) (fl_ 11 1) rfl rfl (any_of HT_.out (by kernel_rfl)) (fun _ _ _ h => h) (Or.inl ⟨by rfl, ?_⟩) ?_ ?_
       rotate_left
       ·intro w'
        go_simp
        with_reducible rfl
       rotate_left
       ·simp only [Act.put, sl0, sl1, sl2, i64_w, i32_w]
        rfl
       refine pure_ (i := 11) (N := some 25) (v := ?_) (a' := ?_) (fl_ 12 0) rfl rfl (any_of HT_.out (by kernel_rfl)) (fun _ _ _ h => h) (Or.inl ⟨by rfl, ?_⟩) ?_ ?_
       rotate_left
       ·intro w'
        go_simp
        with_reducible rfl
       rotate_left
       ·simp only [Act.put, sl0, sl1, sl2, i64_w, i32_w]
        rfl
       refine done_ (done_of HT_.out (by kernel_rfl)) ?_
       have p259 : 0 ≤ (x23_2 : Int) := od_
       have q259 : x23_2 < (t215.length : Int) := od_
       obtain ⟨ad259, e259, hx259_0⟩ := Kd.at_int (Kd.R_reads' HO_8.out).2.2 x23_2 p259 q259
       obtain rfl : ad256 = ad259 := (by injection e259)
       replace p259 := eq_true p259
       replace q259 := eq_true q259
       try go_wp2_with (first | ((with_reducible refine gate_builtin (b := .append) (xs := #[.tmp 145, .tmp 152]) rfl ?_); at_builtin; refine Kd.R_append k49 (w0 := w) w.heap.size rfl (.tmp 145) (.tmp 152) 43 49 (.agg #[(.int .i64 0), (.int .i64 0), (.bool false)]) 24 rfl Try.underlying43 info49 rfl (by decide) (by omega) u22 x22_2 (⟨rd t215 x23_2, t257, false⟩ : S49) [.int .i64 (rd t215 x23_2), .int .i64 t257, .bool false] (fun _ => True) (fun _ => False) rfl rfl ?aP (fun _ hk => hk.elim) ?aF ?aO ?aB ?aS ?aL ?_; (case aP => exact k49_mkM _ _ _ (⟨rd t215 x23_2, t257, false⟩ : S49)); (case aB => exact (by repeat (first | (with_reducible first | exact HB.out | apply below_alloc | apply pw_below_drewN | apply below_drew1 | refine below_set ?_ GE214.out) | exact HB.out))); (case aF => exact (fun _ _ => trivial)); (case aO => exact (by (with_reducible repeat (first | apply Kd.R_alloc | apply Kd.R_drewN | apply Kd.R_drew)); exact HO_22.out)); (case aS => exact (below_size (by repeat (first | (with_reducible first | exact HB.out | apply below_alloc | apply pw_below_drewN | apply below_drew1 | refine below_set ?_ GE214.out) | exact HB.out)))); (case aL => have := LMc58.out; omega); intro v261 w63 ho hb hg hat; rw [← Ny260.out] at ho; have n0_ := Aside0.mk (Kd.R_over' (by (with_reducible repeat (first | apply Kd.R_alloc | apply Kd.R_drewN | apply Kd.R_drew)); exact HO_8.out) (Kd.R_typed (by (with_reducible repeat (first | apply Kd.R_alloc | apply Kd.R_drewN | apply Kd.R_drew)); exact HO_22.out)) (by decide) hg); have n1_ := Aside0.mk (Kd.R_over' (by (with_reducible repeat (first | apply Kd.R_alloc | apply Kd.R_drewN | apply Kd.R_drew)); exact HO_9.out) (Kd.R_typed (by (with_reducible repeat (first | apply Kd.R_alloc | apply Kd.R_drewN | apply Kd.R_drew)); exact HO_22.out)) (by decide) hg); have n2_ := Aside0.mk (Kd.R_over' (by (with_reducible repeat (first | apply Kd.R_alloc | apply Kd.R_drewN | apply Kd.R_drew)); exact HO_19.out) (Kd.R_typed (by (with_reducible repeat (first | apply Kd.R_alloc | apply Kd.R_drewN | apply Kd.R_drew)); exact HO_22.out)) (by decide) hg); have n3_ := Aside0.mk (blk_grown (g := gb214) (o := .cells #[.slice A0_0 l0_0.length c0_0, .int .i64 a0_1] 33 (0, 0)) (by (with_reducible repeat (first | refine blk_drewN ?_ _ | refine blk_drew ?_ | refine blk_alloc ?_ _)); exact BK214.out) hg (Kd.R_ne HO_22.out BK214.out (by decide))); have n4_ := Aside0.mk (hb); have n5_ := Aside0.mk (ho); clear HO_8; clear HO_9; clear HO_19; clear BK214; clear HB; clear HO_22; have HO_8 := n0_; have HO_9 := n1_; have HO_19 := n2_; have BK214 := n3_; have HB := n4_; have HO262 := n5_; clear n0_ n1_ n2_ n3_ n4_ n5_; clear ho hb hg hat))
       go_roundg k2
       case measure => have := HK1.out; have := HK2.out; omega
       case rel => exact ⟨(y260), (wrap64 (x23_2 + 1)), (by first | rfl | (simp; done) | (simp [*]; done)), H', ⟨by have := HK1.out; have := HK2.out; omega⟩, ⟨by (with_reducible repeat (first | apply Kd.R_alloc | apply Kd.R_drewN | apply Kd.R_drew)); exact HO_8.out⟩, ⟨by (with_reducible repeat (first | apply Kd.R_alloc | apply Kd.R_drewN | apply Kd.R_drew)); exact HO_9.out⟩, ⟨by (with_reducible repeat (first | apply Kd.R_alloc | apply Kd.R_drewN | apply Kd.R_drew)); exact HO_19.out⟩, ⟨by (with_reducible repeat (first | apply Kd.R_alloc | apply Kd.R_drewN | apply Kd.R_drew)); exact HO262.out⟩, ⟨by (with_reducible repeat (first | refine blk_drewN ?_ _ | refine blk_drew ?_ | refine blk_alloc ?_ _)); exact BK214.out⟩, ⟨by repeat (first | (with_reducible first | exact HB.out | apply below_alloc | apply pw_below_drewN | apply below_drew1 | refine below_set ?_ GE214.out) | exact HB.out)⟩⟩
      rw [if_pos c50] at H
      have c50b0 : decide ((rd t244 x23_2) < (t218.length : Int)) = true := decide_eq_true c50
      clear c50
      by_cases c51 : 0 ≤ (rd t244 x23_2)
      rotate_left
      ·rw [if_neg c51] at H
       exact absurd H (by simp)
      rw [if_pos c51] at H
      have c51b0 : decide (0 ≤ (rd t244 x23_2)) = true := decide_eq_true c51
      clear c51
      by_cases c52 : x22_2.length < 5864062014805
      rotate_left
      ·rw [if_neg c52] at H
       exact absurd H (by simp)
      rw [if_pos c52] at H
      have LMc52 := Aside0.mk c52
      clear c52
      obtain ⟨y253, hy253⟩ : ∃ y_ : List (S49), y_ = (x22_2 ++ [(⟨rd t215 x23_2, rd t218 (rd t244 x23_2), true⟩ : S49)]) := ⟨_, rfl⟩
      replace H : (hypercuberef10_below.l3 k2 a1 t215 t218 t244 y253 (wrap64 (x23_2 + 1)) l0_0 a0_1) = some r := by first | (rw [hy253]; with_reducible exact H) | (have H2_ := (Option.bind_some _ _).symm.trans H; rw [hy253]; with_reducible exact H2_) | (have H2_ := (Option.bind_some _ _).symm.trans H; with_reducible exact H2_) | with_reducible exact H | (rw [hy253]; exact H) | exact H
      have Ny253 := Aside0.mk hy253
      clear hy253
      have H' := Aside0.mk H
      clear H
      obtain ⟨Ao53, co53, eo53⟩ := Kd.R_slice HO_19.out
      subst eo53
      have p249 : 0 ≤ (x23_2 : Int) := od_
      have q249 : x23_2 < (t244.length : Int) := od_
      obtain ⟨ad249, e249, hx249_0⟩ := Kd.at_int (Kd.R_reads' HO_19.out).2.2 x23_2 p249 q249
      cases e249
      replace p249 := eq_true p249
      replace q249 := eq_true q249
      obtain ⟨Ao54, co54, eo54⟩ := Kd.R_slice HO_9.out
      subst eo54
      try go_wp2
      have n0_ := Aside0.mk (Kd.R_drew HO_8.out)
      have n1_ := Aside0.mk (Kd.R_drew HO_9.out)
      have n2_ := Aside0.mk (Kd.R_drew HO_19.out)
      have n3_ := Aside0.mk (Kd.R_drew HO_22.out)
      have n4_ := Aside0.mk (blk_drew BK214.out)
      have n5_ := Aside0.mk (below_drew1 HB.out)
      clear HO_8 HO_9 HO_19 HO_22 BK214 HB
      have HO_8 := n0_
      have HO_9 := n1_
      have HO_19 := n2_
      have HO_22 := n3_
      have BK214 := n4_
      have HB := n5_
      clear n0_ n1_ n2_ n3_ n4_ n5_
      have p250 : 0 ≤ (x23_2 : Int) := od_
      have q250 : x23_2 < (t215.length : Int) := od_
      obtain ⟨ad250, e250, hx250_0⟩ := Kd.at_int (Kd.R_reads' HO_8.out).2.2 x23_2 p250 q250
      cases e250
      replace p250 := eq_true p250
      replace q250 := eq_true q250
      have p251 : 0 ≤ (x23_2 : Int) := od_
      have q251 : x23_2 < (t244.length : Int) := od_
      obtain ⟨ad251, e251, hx251_0⟩ := Kd.at_int (Kd.R_reads' HO_19.out).2.2 x23_2 p251 q251
      obtain rfl : ad249 = ad251 := (by injection e251)
      replace p251 := eq_true p251
      replace q251 := eq_true q251
      have p252 : 0 ≤ ((rd t244 x23_2) : Int) := od_
      have q252 : (rd t244 x23_2) < (t218.length : Int) := od_
      obtain ⟨ad252, e252, hx252_0⟩ := Kd.at_int (Kd.R_reads' HO_9.out).2.2 (rd t244 x23_2) p252 q252
      cases e252
      replace p252 := eq_true p252
      replace q252 := eq_true q252
      refine start_ (n := 16) (S := fun w' => w'.cell? (ad250.add (x23_2).toNat) = some (.int .i64 (rd t215 x23_2)) ∧ w'.cell? (ad249.add (x23_2).toNat) = some (.int .i64 (rd t244 x23_2)) ∧ w'.cell? (ad252.add ((rd t244 x23_2)).toNat) = some (.int .i64 (rd t218 (rd t244 x23_2)))) (ds := [13, 14]) (fl_ 0 16) (by kernel_rfl) rfl rfl ⟨hx250_0, hx251_0, hx252_0⟩ (fun hHeld => ?_); refine with_tabW hypercuberef10_below.tab30 hypercuberef10_below.bits30 (fun HT_ HW_ => ?_)
      generalize wr.drew = w55 at HO_8 HO_9 HO_19 HO_22 BK214 HB hx250_0 hx251_0 hx252_0 hHeld ⊢
      refine pure_ (i := 0) (N := some 120) (v := ?_) (a' := ?_) (fl_ 1 15) rfl rfl (any_of HT_.out (by kernel_rfl)) (fun _ _ _ h => h) (Or.inl ⟨by rfl, ?_⟩) ?_ ?_
      rotate_left
      ·intro w'
       go_simp
       with_reducible rfl
      rotate_left
      ·simp only [Act.put, sl0, sl1, sl2, i64_w, i32_w]
       rfl
      refine pure_ (i := 1) (N := some 121) (v := ?_) (a' := ?_) (fl_ 2 14) rfl rfl (any_of HT_.out (by kernel_rfl)) (fun _ _ _ h => h) (Or.inl ⟨by rfl, ?_⟩) ?_ ?_
      rotate_left
      ·intro w'
       go_simp
       with_reducible rfl
      rotate_left
      ·simp only [Act.put, sl0, sl1, sl2, i64_w, i32_w]
       rfl
      refine pure_ (i := 2) (N := some 122) (v := ?_) (a' := ?_) (fl_ 3 13) rfl rfl (any_of HT_.out (by kernel_rfl)) (fun _ _ _ h => h) (Or.inl ⟨by rfl, ?_⟩) ?_ ?_
      rotate_left
      ·intro w'
       go_simp
       with_reducible rfl
      rotate_left
      ·simp only [Act.put, sl0, sl1, sl2, i64_w, i32_w]
       rfl
      refine pure_ (i := 3) (N := some 123) (v := ?_) (a' := ?_) (fl_ 4 12) rfl rfl (any_of HT_.out (by kernel_rfl)) (fun _ _ _ h => h) (Or.inl ⟨by rfl, ?_⟩) ?_ ?_
      rotate_left
      ·intro w'
       go_simp
       with_reducible rfl
      rotate_left
      ·simp only [Act.put, sl0, sl1, sl2, i64_w, i32_w]
       rfl
      refine pure_ (i := 5) (N := some 125) (v := ?_) (a' := ?_) #[Y,Y,Y,Y,Z,Y,Z,Z,Z,Z,Z,Z,Z,Z,Z,Z] rfl rfl (any_of HT_.out (by kernel_rfl)) (fun _ _ _ h => h) (Or.inl ⟨by rfl, ?_⟩) ?_ ?_
      rotate_left
      ·intro w'
       go_simp
       with_reducible rfl
      rotate_left
      ·simp only [Act.put, sl0, sl1, sl2, i64_w, i32_w]
       rfl
      refine pure_ (i := 6) (N := some 126) (v := ?_) (a' := ?_) #[Y,Y,Y,Y,Z,Y,Y,Z,Z,Z,Z,Z,Z,Z,Z,Z] rfl rfl (any_of HT_.out (by kernel_rfl)) (fun _ _ _ h => h) (Or.inl ⟨by rfl, ?_⟩) ?_ ?_
      rotate_left
      ·intro w'
       go_simp
       with_reducible rfl
      rotate_left
      ·simp only [Act.put, sl0, sl1, sl2, i64_w, i32_w]
       rfl
      refine pure_ (i := 7) (N := some 127) (v := ?_) (a' := ?_) #[Y,Y,Y,Y,Z,Y,Y,Y,Z,Z,Z,Z,Z,Z,Z,Z] rfl rfl (any_of HT_.out (by kernel_rfl)) (fun _ _ _ h => h) (Or.inl ⟨by rfl, ?_⟩) ?_ ?_
      rotate_left
      ·intro w'
       go_simp
       with_reducible rfl
      rotate_left
      ·simp only [Act.put, sl0, sl1, sl2, i64_w, i32_w]
       rfl
      refine pure_ (i := 8) (N := some 128) (v := ?_) (a' := ?_) #[Y,Y,Y,Y,Z,Y,Y,Y,Y,Z,Z,Z,Z,Z,Z,Z] rfl rfl (any_of HT_.out (by kernel_rfl)) (fun _ _ _ h => h) (Or.inl ⟨by rfl, ?_⟩) ?_ ?_
      rotate_left
      ·intro w'
       go_simp
       with_reducible rfl
      rotate_left
      ·simp only [Act.put, sl0, sl1, sl2, i64_w, i32_w]
       rfl
      refine take_ (i := 4) (N := some 124) (v := ?_) (a' := ?_) (fl_ 9 7) rfl rfl (take_ofW HT_.out HW_.out (by kernel_rfl)) (fun _ _ _ h => h) (Or.inl ⟨by rfl, ?_⟩) hHeld ?_ ?_
      rotate_left
      ·rintro w' ⟨s0, s1, s2⟩
       go_simp
       with_reducible rfl
      rotate_left
      ·simp only [Act.put, sl0, sl1, sl2, i64_w, i32_w]
       rfl
      refine take_ (i := 9) (N := some 129) (v := ?_) (a' := ?_) (fl_ 10 6) rfl rfl (take_ofW HT_.out HW_.out (by kernel_rfl)) (fun _ _ _ h => h) (Or.inl ⟨by rfl, ?_⟩) hHeld ?_ ?_
      rotate_left
      ·rintro w' ⟨s0, s1, s2⟩
       go_simp
       with_reducible rfl
      rotate_left
      ·simp only [Act.put, sl0, sl1, sl2, i64_w, i32_w]
       rfl
      refine pure_ (i := 10) (N := some 130) (v := ?_) (a' := ?_) (fl_ 11 5) rfl rfl (any_of HT_.out (by kernel_rfl)) (fun _ _ _ h => h) (Or.inl ⟨by rfl, ?_⟩) ?_ ?_
      rotate_left
      ·intro w'
       go_simp
       with_reducible rfl
      rotate_left
      ·simp only [Act.put, sl0, sl1, sl2, i64_w, i32_w]
       rfl
      refine take_ (i := 11) (N := some 131) (v := ?_) (a' := ?_) (fl_ 12 4) rfl rfl (take_ofW HT_.out HW_.out (by kernel_rfl)) (fun _ _ _ h => h) (Or.inl ⟨by rfl, ?_⟩) hHeld ?_ ?_
      rotate_left
      ·rintro w' ⟨s0, s1, s2⟩
       go_simp
       with_reducible rfl
      rotate_left
      ·simp only [Act.put, sl0, sl1, sl2, i64_w, i32_w]
       rfl
      refine pure_ (i := 12) (N := some 132) (v := ?_) (a' := ?_) (fl_ 13 3) rfl rfl (any_of HT_.out (by kernel_rfl)) (fun _ _ _ h => h) (Or.inl ⟨by rfl, ?_⟩) ?_ ?_
      rotate_left
      ·intro w'
       go_simp
       with_reducible rfl
      rotate_left
      ·simp only [Act.put, sl0, sl1, sl2, i64_w, i32_w]
       rfl
      refine last_ (i := 13) (N := some 133) (fl_ 14 2) rfl rfl (one_of HT_.out (by kernel_rfl)) (by decide) (fun K hK => ?_)
      refine value_ (w1 := ?_) (v := ?_) (by rfl) rfl ?_ ?_
      rotate_left 2
      ·go_simp
       constructor
       ·rfl
       rfl
      refine hK.out _ _ ?_
      clear hK K
      refine norm_ (a' := ?_) ?_ ?_
      rotate_left
      ·show Act.put _ (some 133) _ = _
       simp only [Act.put, sl0, sl1, sl2, i64_w, i32_w]
       rfl
      refine last_ (i := 14) (N := some 134) (fl_ 15 1) rfl rfl (one_of HT_.out (by kernel_rfl)) (by decide) (fun K hK => ?_)
      refine Kd.R_append_step k49 (w0 := w) w.heap.size (by rfl) (.tmp 120) (.tmp 133) 43 49 (.agg #[(.int .i64 0), (.int .i64 0), (.bool false)]) 24 rfl Try.underlying43 info49 rfl (by decide) (by omega) u22 x22_2 (⟨rd t215 x23_2, rd t218 (rd t244 x23_2), true⟩ : S49) [.int .i64 (rd t215 x23_2), .int .i64 (rd t218 (rd t244 x23_2)), .bool true] (fun _ => True) (fun _ => False) rfl rfl ?aP (fun _ hk => hk.elim) ?aF ?aO ?aB ?aS ?aL ?_
      (case aP => exact k49_mkM _ _ _ (⟨rd t215 x23_2, rd t218 (rd t244 x23_2), true⟩ : S49))
      (case aB => exact (by repeat (first | (with_reducible first | exact HB.out | apply below_alloc | apply pw_below_drewN | apply below_drew1 | refine below_set ?_ GE214.out) | exact HB.out)))
      (case aF => exact (fun _ _ => trivial))
      (case aO => exact (by (with_reducible repeat (first | apply Kd.R_alloc | apply Kd.R_drewN | apply Kd.R_drew)); exact HO_22.out))
      (case aS => exact (below_size (by repeat (first | (with_reducible first | exact HB.out | apply below_alloc | apply pw_below_drewN | apply below_drew1 | refine below_set ?_ GE214.out) | exact HB.out))))
      (case aL => have := LMc52.out; omega)
      intro v254 w56 ho hb hg hat
      rw [← Ny253.out] at ho
      have n0_ := Aside0.mk (Kd.R_over' (by (with_reducible repeat (first | apply Kd.R_alloc | apply Kd.R_drewN | apply Kd.R_drew)); exact HO_8.out) (Kd.R_typed (by (with_reducible repeat (first | apply Kd.R_alloc | apply Kd.R_drewN | apply Kd.R_drew)); exact HO_22.out)) (by decide) hg)
      have n1_ := Aside0.mk (Kd.R_over' (by (with_reducible repeat (first | apply Kd.R_alloc | apply Kd.R_drewN | apply Kd.R_drew)); exact HO_9.out) (Kd.R_typed (by (with_reducible repeat (first | apply Kd.R_alloc | apply Kd.R_drewN | apply Kd.R_drew)); exact HO_22.out)) (by decide) hg)
      have n2_ := Aside0.mk (Kd.R_over' (by (with_reducible repeat (first | apply Kd.R_alloc | apply Kd.R_drewN | apply Kd.R_drew)); exact HO_19.out) (Kd.R_typed (by (with_reducible repeat (first | apply Kd.R_alloc | apply Kd.R_drewN | apply Kd.R_drew)); exact HO_22.out)) (by decide) hg)
      have n3_ := Aside0.mk (blk_grown (g := gb214) (o := .cells #[.slice A0_0 l0_0.length c0_0, .int .i64 a0_1] 33 (0, 0)) (by (with_reducible repeat (first | refine blk_drewN ?_ _ | refine blk_drew ?_ | refine blk_alloc ?_ _)); exact BK214.out) hg (Kd.R_ne HO_22.out BK214.out (by decide)))
      have n4_ := Aside0.mk (hb)
      have n5_ := Aside0.mk (ho)
      clear HO_8 HO_9 HO_19 BK214 HB HO_22
      have HO_8 := n0_
      have HO_9 := n1_
      have HO_19 := n2_
      have BK214 := n3_
      have HB := n4_
      have HO255 := n5_
      clear n0_ n1_ n2_ n3_ n4_ n5_ ho hb hg hat
      refine hK.out _ _ ?_
      clear hK K
      refine norm_ (a' := ?_) ?_ ?_
      rotate_left
      ·show Act.put _ (some 134) _ = _
       simp only [Act.put, sl0, sl1, sl2, i64_w, i32_w]
       rfl
      refine pure_ (i := 15) (N := some 22) (v := ?_) (a' := ?_) (fl_ 16 0) rfl rfl (any_of HT_.out (by kernel_rfl)) (fun _ _ _ h => h) (Or.inl ⟨by rfl, ?_⟩) ?_ ?_
      rotate_left
      ·intro w'
       go_simp
       with_reducible rfl
      rotate_left
      ·simp only [Act.put, sl0, sl1, sl2, i64_w, i32_w]
       rfl
      refine done_ (done_of HT_.out (by kernel_rfl)) ?_
      try go_wp2
      go_roundg k2
      case measure => have := HK1.out; have := HK2.out; omega
      case rel => exact ⟨(y253), (wrap64 (x23_2 + 1)), (by first | rfl | (simp; done) | (simp [*]; done)), H', ⟨by have := HK1.out; have := HK2.out; omega⟩, ⟨by (with_reducible repeat (first | apply Kd.R_alloc | apply Kd.R_drewN | apply Kd.R_drew)); exact HO_8.out⟩, ⟨by (with_reducible repeat (first | apply Kd.R_alloc | apply Kd.R_drewN | apply Kd.R_drew)); exact HO_9.out⟩, ⟨by (with_reducible repeat (first | apply Kd.R_alloc | apply Kd.R_drewN | apply Kd.R_drew)); exact HO_19.out⟩, ⟨by (with_reducible repeat (first | apply Kd.R_alloc | apply Kd.R_drewN | apply Kd.R_drew)); exact HO255.out⟩, ⟨by (with_reducible repeat (first | refine blk_drewN ?_ _ | refine blk_drew ?_ | refine blk_alloc ?_ _)); exact BK214.out⟩, ⟨by repeat (first | (with_reducible first | exact HB.out | apply below_alloc | apply pw_below_drewN | apply below_drew1 | refine below_set ?_ GE214.out) | exact HB.out)⟩⟩
   rw [if_pos c10] at H
   have c10b0 : decide (x11_1 < (t215.length : Int)) = true := decide_eq_true c10
   clear c10
   have H' := Aside0.mk H
   clear H
   obtain ⟨Ao11, co11, eo11⟩ := Kd.R_slice HO_8.out
   subst eo11
   go_wp2
   go_loopg [12, 13] k1 (fun kq v12 v13 w' => ∃ (x12_2 : List Int) (x13_2 : Int), v13 = .int .i64 x13_2 ∧ Aside0 (hypercuberef10_below.l1 kq a1 t215 t218 x10_1 x11_1 x12_2 x13_2 l0_0 a0_1 = some r) ∧ Aside0 (kq ≤ k1) ∧ Aside0 (Kd.R (Kd.int .i64) 3 w' w.heap.size (fun k_ => some k_ ≠ (v219 : Value).ownBlock ∧ some k_ ≠ (v12 : Value).ownBlock) (.slice Ao11 t215.length co11) t215) ∧ Aside0 (Kd.R (Kd.int .i64) 3 w' w.heap.size (fun k_ => some k_ ≠ ((.slice Ao11 t215.length co11) : Value).ownBlock ∧ some k_ ≠ (v12 : Value).ownBlock) v219 t218) ∧ Aside0 (Kd.S (Kd.slice 3 (Kd.int .i64)) 24 w' w.heap.size (fun k_ => some k_ ≠ ((.slice Ao11 t215.length co11) : Value).ownBlock ∧ some k_ ≠ (v219 : Value).ownBlock ∧ some k_ ≠ (v12 : Value).ownBlock) u10 x10_1) ∧ Aside0 (Kd.R (Kd.int .i64) 3 w' w.heap.size (fun k_ => some k_ ≠ ((.slice Ao11 t215.length co11) : Value).ownBlock ∧ some k_ ≠ (v219 : Value).ownBlock) v12 x12_2) ∧ Aside0 (w'.heap[gb214]? = some (.cells #[(.slice A0_0 l0_0.length c0_0), .int .i64 a0_1] 33 (0, 0))) ∧ Aside0 (Below w.heap.size w w'))
   case atStart => exact ⟨(([] : List Int)), (0), (by first | rfl | (simp; done) | (simp [*]; done)), H', ⟨Nat.le_refl _⟩, ⟨by (with_reducible repeat (first | apply Kd.R_alloc | apply Kd.R_drewN | apply Kd.R_drew)); exact Kd.R_mono HO_8.out (fun _ hk => ⟨hk, (by simp [Value.ownBlock])⟩)⟩, ⟨by (with_reducible repeat (first | apply Kd.R_alloc | apply Kd.R_drewN | apply Kd.R_drew)); exact Kd.R_mono HO_9.out (fun _ hk => ⟨hk, (by simp [Value.ownBlock])⟩)⟩, ⟨by (with_reducible repeat (first | apply Kd.S_alloc | apply Kd.S_drewN | apply Kd.S_drew)); exact Kd.S_mono HO_10.out (fun _ hk => ⟨hk.1, ⟨hk.2, (by simp [Value.ownBlock])⟩⟩)⟩, ⟨by first | exact Kd.R_nil _ _ _ _ _ | exact Kd.N_nil _ _ _ _ _ | exact Kd.V_nil _ _ _ _ _ | exact Kd.Q_nil _ _ _ _ _ | exact Kd.S_nil _ _ _ _ _⟩, ⟨by (with_reducible repeat (first | refine blk_drewN ?_ _ | refine blk_drew ?_ | refine blk_alloc ?_ _)); exact BK214.out⟩, ⟨by repeat (first | (with_reducible first | exact HB.out | apply below_alloc | apply pw_below_drewN | apply below_drew1 | refine below_set ?_ GE214.out) | exact HB.out)⟩⟩
   case round =>
    clear H'
    obtain ⟨x12_2, x13_2, rfl, HA, HK2, HO_8, HO_9, HO_10, HO_12, BK214, HB⟩ := hrel
    cases gk with
    | zero => exact absurd HA.out (by simp [hypercuberef10_below.l1])
    | succ k2 =>
     have H := HA.out
     clear HA
     simp only [hypercuberef10_below.l1] at H
     by_cases c12 : x13_2 < (t218.length : Int)
     rotate_left
     ·rw [if_neg c12] at H
      have c12b0 : decide (x13_2 < (t218.length : Int)) = false := decide_eq_false c12
      clear c12
      by_cases c28 : 0 ≤ x11_1
      rotate_left
      ·rw [if_neg c28] at H
       exact absurd H (by simp)
      rw [if_pos c28] at H
      have c28b0 : decide (0 ≤ x11_1) = true := decide_eq_true c28
      clear c28
      by_cases c29 : x11_1 < (t215.length : Int)
      rotate_left
      ·rw [if_neg c29] at H
       exact absurd H (by simp)
      rw [if_pos c29] at H
      have c29b0 : decide (x11_1 < (t215.length : Int)) = true := decide_eq_true c29
      clear c29
      replace H := Option.bind_eq_some_iff.mp H
      obtain ⟨⟨t233, t234⟩, A300, H⟩ := H
      replace H : (hypercuberef10_below.l2 k2 a1 t215 t218 x10_1 x11_1 x12_2 t234 0 l0_0 a0_1) = some r := H
      have A30 := Aside0.mk A300
      clear A300
      have H' := Aside0.mk H
      clear H
      obtain ⟨Ao31, co31, eo31⟩ := Kd.R_slice HO_9.out
      subst eo31
      try go_wp2
      have n0_ := Aside0.mk (Kd.R_drew HO_8.out)
      have n1_ := Aside0.mk (Kd.R_drew HO_9.out)
      have n2_ := Aside0.mk (Kd.S_drew HO_10.out)
      have n3_ := Aside0.mk (Kd.R_drew HO_12.out)
      have n4_ := Aside0.mk (blk_drew BK214.out)
      have n5_ := Aside0.mk (below_drew1 HB.out)
      clear HO_8 HO_9 HO_10 HO_12 BK214 HB
      have HO_8 := n0_
      have HO_9 := n1_
      have HO_10 := n2_
      have HO_12 := n3_
      have BK214 := n4_
      have HB := n5_
      clear n0_ n1_ n2_ n3_ n4_ n5_
      have p232 : 0 ≤ (x11_1 : Int) := od_
      have q232 : x11_1 < (t215.length : Int) := od_
      obtain ⟨ad232, e232, hx232_0⟩ := Kd.at_int (Kd.R_reads' HO_8.out).2.2 x11_1 p232 q232
      cases e232
      replace p232 := eq_true p232
      replace q232 := eq_true q232
      refine start_ (n := 12) (S := fun w' => w'.cell? ⟨gb214, 0, none⟩ = some (.slice A0_0 l0_0.length c0_0) ∧ w'.cell? ⟨gb214, 1, none⟩ = some (.int .i64 a0_1) ∧ w'.cell? (ad232.add (x11_1).toNat) = some (.int .i64 (rd t215 x11_1))) (ds := []) (fl_ 0 12) (by kernel_rfl) rfl rfl ⟨(blk_cell BK214.out 0).trans rfl, (blk_cell BK214.out 1).trans rfl, hx232_0⟩ (fun hHeld => ?_); refine with_tabW hypercuberef10_below.tab15 hypercuberef10_below.bits15 (fun HT_ HW_ => ?_)
      generalize wr.drew = w32 at HO_8 HO_9 HO_10 HO_12 BK214 HB hx232_0 hHeld ⊢
      refine pure_ (i := 1) (N := some 75) (v := ?_) (a' := ?_) #[Z,Y,Z,Z,Z,Z,Z,Z,Z,Z,Z,Z] rfl rfl (any_of HT_.out (by kernel_rfl)) (fun _ _ _ h => h) (Or.inl ⟨by rfl, ?_⟩) ?_ ?_
      rotate_left
      ·intro w'
       go_simp
       with_reducible rfl
      rotate_left
      ·simp only [Act.put, sl0, sl1, sl2, i64_w, i32_w]
       rfl
      refine pure_ (i := 2) (N := some 76) (v := ?_) (a' := ?_) #[Z,Y,Y,Z,Z,Z,Z,Z,Z,Z,Z,Z] rfl rfl (any_of HT_.out (by kernel_rfl)) (fun _ _ _ h => h) (Or.inl ⟨by rfl, ?_⟩) ?_ ?_
      rotate_left
      ·intro w'
       go_simp
       with_reducible rfl
      rotate_left
      ·simp only [Act.put, sl0, sl1, sl2, i64_w, i32_w]
       rfl
      refine pure_ (i := 3) (N := some 77) (v := ?_) (a' := ?_) #[Z,Y,Y,Y,Z,Z,Z,Z,Z,Z,Z,Z] rfl rfl (any_of HT_.out (by kernel_rfl)) (fun _ _ _ h => h) (Or.inl ⟨by rfl, ?_⟩) ?_ ?_
      rotate_left
      ·intro w'
       go_simp
       with_reducible rfl
      rotate_left
      ·simp only [Act.put, sl0, sl1, sl2, i64_w, i32_w]
       rfl
      refine pure_ (i := 4) (N := some 78) (v := ?_) (a' := ?_) #[Z,Y,Y,Y,Y,Z,Z,Z,Z,Z,Z,Z] rfl rfl (any_of HT_.out (by kernel_rfl)) (fun _ _ _ h => h) (Or.inl ⟨by rfl, ?_⟩) ?_ ?_
      rotate_left
      ·intro w'
       go_simp
       with_reducible rfl
      rotate_left
      ·simp only [Act.put, sl0, sl1, sl2, i64_w, i32_w]
       rfl
      refine take_ (i := 0) (N := some 74) (v := ?_) (a' := ?_) (fl_ 5 7) rfl rfl (take_ofW HT_.out HW_.out (by kernel_rfl)) (fun _ _ _ h => h) (Or.inl ⟨by rfl, ?_⟩) hHeld ?_ ?_
      rotate_left
      ·rintro w' ⟨s0, s1, s2⟩
       go_simp
       with_reducible rfl
      rotate_left
      ·simp only [Act.put, sl0, sl1, sl2, i64_w, i32_w]
       rfl
      refine take_ (i := 5) (N := some 79) (v := ?_) (a' := ?_) (fl_ 6 6) rfl rfl (take_ofW HT_.out HW_.out (by kernel_rfl)) (fun _ _ _ h => h) (Or.inl ⟨by rfl, ?_⟩) hHeld ?_ ?_
      rotate_left
      ·rintro w' ⟨s0, s1, s2⟩
       go_simp
       with_reducible rfl
      rotate_left
      ·simp only [Act.put, sl0, sl1, sl2, i64_w, i32_w]
       rfl
      refine one_ (i := 6) (N := some 80) (fl_ 7 5) rfl rfl (one_of HT_.out (by kernel_rfl)) (by decide) (fun K hK => ?_)
      refine goes_ Try.func96 (by kernel_rfl) rfl #[.agg #[.slice A0_0 l0_0.length c0_0, .int .i64 a0_1], .int .i64 a1, .int .i64 (rd t215 x11_1)] (by rfl) rfl rfl (by (try simp only [List.map_toArray, List.map_cons, List.map_nil]); first | done | rfl | (simp only [List.length_drop, List.length_take]; rfl)) ?_
      with_reducible refine (hypercuberef10_cheapest.calls k2 _ _ l0_0 a0_1 a1 (rd t215 x11_1) t233 t234 _ ?side1 ?side2 A30.out).mono ?_
      (case side1 => repeat (first | exact (Kd.C_below HR0_0.out HB.out) | (with_reducible refine Kd.C_alloc ?_ _) | (with_reducible refine Kd.C_drewN ?_ _) | (with_reducible refine Kd.C_drew ?_)))
      (case side2 => exact HC0_0.out)
      rintro e w33 ⟨rfl, hb⟩
      have HS2_ := (hb.cell (World.block_lt_of_cell? _ _ (hHeld.2.2))).trans (hHeld.2.2)
      refine ⟨_, rfl, ?_⟩
      have n0_ := Aside0.mk (Kd.R_below (by (with_reducible repeat (first | apply Kd.R_alloc | apply Kd.R_drewN | apply Kd.R_drew)); exact HO_8.out) hb)
      have n1_ := Aside0.mk (Kd.R_below (by (with_reducible repeat (first | apply Kd.R_alloc | apply Kd.R_drewN | apply Kd.R_drew)); exact HO_9.out) hb)
      have n2_ := Aside0.mk (Kd.S_below (by (with_reducible repeat (first | apply Kd.S_alloc | apply Kd.S_drewN | apply Kd.S_drew)); exact HO_10.out) hb)
      have n3_ := Aside0.mk (Kd.R_below (by (with_reducible repeat (first | apply Kd.R_alloc | apply Kd.R_drewN | apply Kd.R_drew)); exact HO_12.out) hb)
      have n4_ := Aside0.mk (blk_below (g := gb214) (o := .cells #[.slice A0_0 l0_0.length c0_0, .int .i64 a0_1] 33 (0, 0)) (by (with_reducible repeat (first | refine blk_drewN ?_ _ | refine blk_drew ?_ | refine blk_alloc ?_ _)); exact BK214.out) hb)
      have n5_ := Aside0.mk (below_step (by repeat (first | (with_reducible first | exact HB.out | apply below_alloc | apply pw_below_drewN | apply below_drew1 | refine below_set ?_ GE214.out) | exact HB.out)) hb)
      clear HO_8 HO_9 HO_10 HO_12 BK214 HB
      have HO_8 := n0_
      have HO_9 := n1_
      have HO_10 := n2_
      have HO_12 := n3_
      have BK214 := n4_
      have HB := n5_
      clear n0_ n1_ n2_ n3_ n4_ n5_
      refine hK.out _ _ ⟨(blk_cell BK214.out 0).trans rfl, (blk_cell BK214.out 1).trans rfl, HS2_⟩ (fun hHeld => ?_)
      clear hK K
      refine norm_ (a' := ?_) ?_ ?_
      rotate_left
      ·show Act.put _ (some 80) _ = _
       simp only [Act.put, sl0, sl1, sl2, i64_w, i32_w]
       rfl
      refine pure_ (i := 7) (N := some 73) (v := ?_) (a' := ?_) (fl_ 8 4) rfl rfl (any_of HT_.out (by kernel_rfl)) (fun _ _ _ h => h) (Or.inl ⟨by rfl, ?_⟩) ?_ ?_
      rotate_left
      ·intro w'
       go_simp
       with_reducible rfl
      rotate_left
      ·simp only [Act.put, sl0, sl1, sl2, i64_w, i32_w]
       rfl
      refine pure_ (i := 8) (N := some 81) (v := ?_) (a' := ?_) (fl_ 9 3) rfl rfl (any_of HT_.out (by kernel_rfl)) (fun _ _ _ h => h) (Or.inl ⟨by rfl, ?_⟩) ?_ ?_
      rotate_left
      ·intro w'
       go_simp
       with_reducible rfl
      rotate_left
      ·simp only [Act.put, sl0, sl1, sl2, i64_w, i32_w]
       rfl
      refine pure_ (i := 9) (N := some 82) (v := ?_) (a' := ?_) (fl_ 10 2) rfl rfl (any_of HT_.out (by kernel_rfl)) (fun _ _ _ h => h) (Or.inl ⟨by rfl, ?_⟩) ?_ ?_
      rotate_left
      ·intro w'
       go_simp
       with_reducible rfl
      rotate_left
      ·simp only [Act.put, sl0, sl1, sl2, i64_w, i32_w]
       rfl
      refine pure_ (i := 10) (N := some 15) (v := ?_) (a' := ?_) (fl_ 11 1) rfl rfl (any_of HT_.out (by kernel_rfl)) (fun _ _ _ h => h) (Or.inl ⟨by rfl, ?_⟩) ?_ ?_
      rotate_left
      ·intro w'
       go_simp
       with_reducible rfl
      rotate_left
      ·simp only [Act.put, sl0, sl1, sl2, i64_w, i32_w]
       rfl
      refine pure_ (i := 11) (N := some 16) (v := ?_) (a' := ?_) (fl_ 12 0) rfl rfl (any_of HT_.out (by kernel_rfl)) (fun _ _ _ h => h) (Or.inl ⟨by rfl, ?_⟩) ?_ ?_
      rotate_left
      ·intro w'
       go_simp
       with_reducible rfl
      rotate_left
      ·simp only [Act.put, sl0, sl1, sl2, i64_w, i32_w]
       rfl
      refine done_ (done_of HT_.out (by kernel_rfl)) ?_
      try go_wp2
      go_loopg [12, 17] k2 (fun kq v12 v17 w' => ∃ (x12_3 : List Int) (x17_3 : Int), v17 = .int .i64 x17_3 ∧ Aside0 (hypercuberef10_below.l2 kq a1 t215 t218 x10_1 x11_1 x12_3 t234 x17_3 l0_0 a0_1 = some r) ∧ Aside0 (kq ≤ k2) ∧ Aside0 (Kd.R (Kd.int .i64) 3 w' w.heap.size (fun k_ => some k_ ≠ ((.slice Ao31 t218.length co31) : Value).ownBlock ∧ some k_ ≠ (v12 : Value).ownBlock) (.slice (some ad232) t215.length co11) t215) ∧ Aside0 (Kd.R (Kd.int .i64) 3 w' w.heap.size (fun k_ => some k_ ≠ ((.slice (some ad232) t215.length co11) : Value).ownBlock ∧ some k_ ≠ (v12 : Value).ownBlock) (.slice Ao31 t218.length co31) t218) ∧ Aside0 (Kd.S (Kd.slice 3 (Kd.int .i64)) 24 w' w.heap.size (fun k_ => some k_ ≠ ((.slice (some ad232) t215.length co11) : Value).ownBlock ∧ some k_ ≠ ((.slice Ao31 t218.length co31) : Value).ownBlock ∧ some k_ ≠ (v12 : Value).ownBlock) u10 x10_1) ∧ Aside0 (Kd.R (Kd.int .i64) 3 w' w.heap.size (fun k_ => some k_ ≠ ((.slice (some ad232) t215.length co11) : Value).ownBlock ∧ some k_ ≠ ((.slice Ao31 t218.length co31) : Value).ownBlock) v12 x12_3) ∧ Aside0 (w'.heap[gb214]? = some (.cells #[(.slice A0_0 l0_0.length c0_0), .int .i64 a0_1] 33 (0, 0))) ∧ Aside0 (Below w.heap.size w w'))
      case atStart => exact ⟨(x12_2), (0), (by first | rfl | (simp; done) | (simp [*]; done)), H', ⟨Nat.le_refl _⟩, ⟨by (with_reducible repeat (first | apply Kd.R_alloc | apply Kd.R_drewN | apply Kd.R_drew)); exact HO_8.out⟩, ⟨by (with_reducible repeat (first | apply Kd.R_alloc | apply Kd.R_drewN | apply Kd.R_drew)); exact HO_9.out⟩, ⟨by (with_reducible repeat (first | apply Kd.S_alloc | apply Kd.S_drewN | apply Kd.S_drew)); exact HO_10.out⟩, ⟨by (with_reducible repeat (first | apply Kd.R_alloc | apply Kd.R_drewN | apply Kd.R_drew)); exact HO_12.out⟩, ⟨by (with_reducible repeat (first | refine blk_drewN ?_ _ | refine blk_drew ?_ | refine blk_alloc ?_ _)); exact BK214.out⟩, ⟨by repeat (first | (with_reducible first | exact HB.out | apply below_alloc | apply pw_below_drewN | apply below_drew1 | refine below_set ?_ GE214.out) | exact HB.out)⟩⟩
      case round =>
       clear H'
       obtain ⟨x12_3, x17_3, rfl, HA, HK3, HO_8, HO_9, HO_10, HO_12, BK214, HB⟩ := hrel
       cases gk with
       | zero => exact absurd HA.out (by simp [hypercuberef10_below.l2])
       | succ k3 =>
        have H := HA.out
        clear HA
        simp only [hypercuberef10_below.l2] at H
        by_cases c34 : x17_3 < (t215.length : Int)
        rotate_left
        ·rw [if_neg c34] at H
         have c34b0 : decide (x17_3 < (t215.length : Int)) = false := decide_eq_false c34
         clear c34
         by_cases c40 : x10_1.length < 5864062014805
         rotate_left
         ·rw [if_neg c40] at H
          exact absurd H (by simp)
         rw [if_pos c40] at H
         have LMc40 := Aside0.mk c40
         clear c40
         obtain ⟨y241, hy241⟩ : ∃ y_ : List (List Int), y_ = (x10_1 ++ [x12_3]) := ⟨_, rfl⟩
         replace H : (hypercuberef10_below.l0 k3 a1 t215 t218 y241 (wrap64 (x11_1 + 1)) l0_0 a0_1) = some r := by first | (rw [hy241]; with_reducible exact H) | (have H2_ := (Option.bind_some _ _).symm.trans H; rw [hy241]; with_reducible exact H2_) | (have H2_ := (Option.bind_some _ _).symm.trans H; with_reducible exact H2_) | with_reducible exact H | (rw [hy241]; exact H) | exact H
         have Ny241 := Aside0.mk hy241
         clear hy241
         have H' := Aside0.mk H
         clear H
         obtain ⟨Ao42, co42, eo42⟩ := Kd.R_slice HO_12.out
         subst eo42
         go_wp2_with (first | ((with_reducible refine gate_builtin (b := .append) (xs := #[.tmp 97, .tmp 99]) rfl ?_); at_builtin; refine Kd.S_append (Kd.slice 3 (Kd.int .i64)) (w0 := w) w.heap.size rfl (.tmp 97) (.tmp 99) 37 24 (.slice none 0 0) 24 rfl Try.underlying37 info24 rfl (by decide) (by omega) u10 x10_1 x12_3 [.slice Ao42 x12_3.length co42] (fun k_ => some k_ ≠ (.slice (some ad232) t215.length co11 : Value).ownBlock ∧ some k_ ≠ (.slice Ao31 t218.length co31 : Value).ownBlock) (fun k_ => some k_ = (.slice Ao42 x12_3.length co42 : Value).ownBlock) rfl rfl ?aP (fun k_ hk_ => ((Kd.R_mono (ok' := fun k_ => ((fun k_ => some k_ ≠ (.slice (some ad232) t215.length co11 : Value).ownBlock ∧ some k_ ≠ (.slice Ao31 t218.length co31 : Value).ownBlock)) k_ ∧ some k_ ≠ (u10 : Value).ownBlock) (Kd.R_apart' (HO_12.out) (Kd.S_typed HO_10.out) (by decide)) (fun k_ hk => ⟨⟨hk.1.1, hk.1.2⟩, hk.2⟩))).1 k_ hk_.symm) ?aF ?aO ?aB ?aS ?aL ?_; (case aP => exact Kd.M_row (Kd.R_mono (Kd.R_tight rfl (Kd.R_mono (ok' := fun k_ => ((fun k_ => some k_ ≠ (.slice (some ad232) t215.length co11 : Value).ownBlock ∧ some k_ ≠ (.slice Ao31 t218.length co31 : Value).ownBlock)) k_ ∧ some k_ ≠ (u10 : Value).ownBlock) (Kd.R_apart' (HO_12.out) (Kd.S_typed HO_10.out) (by decide)) (fun k_ hk => ⟨⟨hk.1.1, hk.1.2⟩, hk.2⟩))) (fun _ h_ => h_))); (case aB => exact (by repeat (first | (with_reducible first | exact HB.out | apply below_alloc | apply pw_below_drewN | apply below_drew1 | refine below_set ?_ GE214.out) | exact HB.out))); (case aF => exact (fun k_ hk => ⟨Kd.fresh' (Kd.R_lt (by (with_reducible repeat (first | apply Kd.R_alloc | apply Kd.R_drewN | apply Kd.R_drew)); exact HO_8.out)) k_ hk, Kd.fresh' (Kd.R_lt (by (with_reducible repeat (first | apply Kd.R_alloc | apply Kd.R_drewN | apply Kd.R_drew)); exact HO_9.out)) k_ hk⟩)); (case aO => exact (by (with_reducible repeat (first | apply Kd.S_alloc | apply Kd.S_drewN | apply Kd.S_drew)); exact Kd.S_mono HO_10.out (fun k_ hk => ⟨⟨hk.1, hk.2.1⟩, fun e_ => hk.2.2 e_⟩))); (case aS => exact (below_size (by repeat (first | (with_reducible first | exact HB.out | apply below_alloc | apply pw_below_drewN | apply below_drew1 | refine below_set ?_ GE214.out) | exact HB.out)))); (case aL => have := LMc40.out; omega); intro v242 w41 ho hb hg hat; rw [← Ny241.out] at ho; have n0_ := Aside0.mk (Kd.R_over' (by (with_reducible repeat (first | apply Kd.R_alloc | apply Kd.R_drewN | apply Kd.R_drew)); exact HO_8.out) (Kd.S_typed (by (with_reducible repeat (first | apply Kd.S_alloc | apply Kd.S_drewN | apply Kd.S_drew)); exact HO_10.out)) (by decide) hg); have n1_ := Aside0.mk (Kd.R_over' (by (with_reducible repeat (first | apply Kd.R_alloc | apply Kd.R_drewN | apply Kd.R_drew)); exact HO_9.out) (Kd.S_typed (by (with_reducible repeat (first | apply Kd.S_alloc | apply Kd.S_drewN | apply Kd.S_drew)); exact HO_10.out)) (by decide) hg); have n2_ := Aside0.mk (blk_grown (g := gb214) (o := .cells #[.slice A0_0 l0_0.length c0_0, .int .i64 a0_1] 33 (0, 0)) (by (with_reducible repeat (first | refine blk_drewN ?_ _ | refine blk_drew ?_ | refine blk_alloc ?_ _)); exact BK214.out) hg (Kd.S_ne HO_10.out BK214.out (by decide))); have n3_ := Aside0.mk (hb); have n4_ := Aside0.mk (ho); clear HO_8; clear HO_9; clear BK214; clear HB; clear HO_10; clear HO_12; have HO_8 := n0_; have HO_9 := n1_; have BK214 := n2_; have HB := n3_; have HO243 := n4_; clear n0_ n1_ n2_ n3_ n4_; clear ho hb hg hat))
         go_roundg k3
         case measure => have := HK1.out; have := HK2.out; have := HK3.out; omega
         case rel => exact ⟨(y241), (wrap64 (x11_1 + 1)), (by first | rfl | (simp; done) | (simp [*]; done)), H', ⟨by have := HK1.out; have := HK2.out; have := HK3.out; omega⟩, ⟨by (with_reducible repeat (first | apply Kd.R_alloc | apply Kd.R_drewN | apply Kd.R_drew)); exact Kd.R_mono HO_8.out (fun _ hk => hk.1)⟩, ⟨by (with_reducible repeat (first | apply Kd.R_alloc | apply Kd.R_drewN | apply Kd.R_drew)); exact Kd.R_mono HO_9.out (fun _ hk => hk.1)⟩, ⟨by (with_reducible repeat (first | apply Kd.S_alloc | apply Kd.S_drewN | apply Kd.S_drew)); exact HO243.out⟩, ⟨by (with_reducible repeat (first | refine blk_drewN ?_ _ | refine blk_drew ?_ | refine blk_alloc ?_ _)); exact BK214.out⟩, ⟨by repeat (first | (with_reducible first | exact HB.out | apply below_alloc | apply pw_below_drewN | apply below_drew1 | refine below_set ?_ GE214.out) | exact HB.out)⟩⟩
        rw [if_pos c34] at H
        have c34b0 : decide (x17_3 < (t215.length : Int)) = true := decide_eq_true c34
        clear c34
        by_cases c35 : x17_3 = x11_1
        ·rw [if_pos c35] at H
         have c35b0 : (x17_3 == x11_1) = true := beq_iff_eq.mpr c35
         have c35b1 : (x17_3 != x11_1) = false := bne_eq_false_iff_eq.mpr c35
         clear c35
         by_cases c36 : x12_3.length < 17592186044416
         rotate_left
         ·rw [if_neg c36] at H
          exact absurd H (by simp)
         rw [if_pos c36] at H
         have LMc36 := Aside0.mk c36
         clear c36
         obtain ⟨y235, hy235⟩ : ∃ y_ : List Int, y_ = (x12_3 ++ [t234]) := ⟨_, rfl⟩
         replace H : (hypercuberef10_below.l2 k3 a1 t215 t218 x10_1 x11_1 y235 t234 (wrap64 (x17_3 + 1)) l0_0 a0_1) = some r := by first | (rw [hy235]; with_reducible exact H) | (have H2_ := (Option.bind_some _ _).symm.trans H; rw [hy235]; with_reducible exact H2_) | (have H2_ := (Option.bind_some _ _).symm.trans H; with_reducible exact H2_) | with_reducible exact H | (rw [hy235]; exact H) | exact H
         have Ny235 := Aside0.mk hy235
         clear hy235
         have H' := Aside0.mk H
         clear H
         go_wp2_with (first | ((with_reducible refine gate_builtin (b := .append) (xs := #[.tmp 93, .tmp 95]) rfl ?_); at_builtin; refine Kd.R_append (Kd.int .i64) (w0 := w) w.heap.size rfl (.tmp 93) (.tmp 95) 24 3 (.int .i64 0) 8 rfl Try.underlying24 info3 rfl (by decide) (by omega) u12 x12_3 t234 [.int .i64 t234] (fun k_ => some k_ ≠ (.slice (some ad232) t215.length co11 : Value).ownBlock ∧ some k_ ≠ (.slice Ao31 t218.length co31 : Value).ownBlock) (fun _ => False) rfl rfl ?aP (fun _ hk => hk.elim) ?aF ?aO ?aB ?aS ?aL ?_; (case aP => exact rfl); (case aB => exact (by repeat (first | (with_reducible first | exact HB.out | apply below_alloc | apply pw_below_drewN | apply below_drew1 | refine below_set ?_ GE214.out) | exact HB.out))); (case aF => exact (fun k_ hk => ⟨Kd.fresh' (Kd.R_lt (by (with_reducible repeat (first | apply Kd.R_alloc | apply Kd.R_drewN | apply Kd.R_drew)); exact HO_8.out)) k_ hk, Kd.fresh' (Kd.R_lt (by (with_reducible repeat (first | apply Kd.R_alloc | apply Kd.R_drewN | apply Kd.R_drew)); exact HO_9.out)) k_ hk⟩)); (case aO => exact (by (with_reducible repeat (first | apply Kd.R_alloc | apply Kd.R_drewN | apply Kd.R_drew)); exact HO_12.out)); (case aS => exact (below_size (by repeat (first | (with_reducible first | exact HB.out | apply below_alloc | apply pw_below_drewN | apply below_drew1 | refine below_set ?_ GE214.out) | exact HB.out)))); (case aL => have := LMc36.out; omega); intro v236 w37 ho hb hg hat; rw [← Ny235.out] at ho; have n0_ := Aside0.mk (Kd.R_after (ok := (fun k_ => some k_ ≠ (.slice Ao31 t218.length co31 : Value).ownBlock)) (by (with_reducible repeat (first | apply Kd.R_alloc | apply Kd.R_drewN | apply Kd.R_drew)); exact HO_8.out) hg hat); have n1_ := Aside0.mk (Kd.R_after (ok := (fun k_ => some k_ ≠ (.slice (some ad232) t215.length co11 : Value).ownBlock)) (by (with_reducible repeat (first | apply Kd.R_alloc | apply Kd.R_drewN | apply Kd.R_drew)); exact HO_9.out) hg hat); have n2_ := Aside0.mk (Kd.S_after (ok := (fun k_ => some k_ ≠ (.slice (some ad232) t215.length co11 : Value).ownBlock ∧ some k_ ≠ (.slice Ao31 t218.length co31 : Value).ownBlock)) (by (with_reducible repeat (first | apply Kd.S_alloc | apply Kd.S_drewN | apply Kd.S_drew)); exact Kd.S_mono HO_10.out (fun _ hk => ⟨⟨hk.1, hk.2.1⟩, hk.2.2⟩)) hg hat); have n3_ := Aside0.mk (blk_grown (g := gb214) (o := .cells #[.slice A0_0 l0_0.length c0_0, .int .i64 a0_1] 33 (0, 0)) (by (with_reducible repeat (first | refine blk_drewN ?_ _ | refine blk_drew ?_ | refine blk_alloc ?_ _)); exact BK214.out) hg (Kd.R_ne HO_12.out BK214.out (by decide))); have n4_ := Aside0.mk (hb); have n5_ := Aside0.mk (ho); clear HO_8; clear HO_9; clear HO_10; clear BK214; clear HB; clear HO_12; have HO_8 := n0_; have HO_9 := n1_; have HO_10 := n2_; have BK214 := n3_; have HB := n4_; have HO237 := n5_; clear n0_ n1_ n2_ n3_ n4_ n5_; clear ho hb hg hat))
         go_roundg k3
         case measure => have := HK1.out; have := HK2.out; have := HK3.out; omega
         case rel => exact ⟨(y235), (wrap64 (x17_3 + 1)), (by first | rfl | (simp; done) | (simp [*]; done)), H', ⟨by have := HK1.out; have := HK2.out; have := HK3.out; omega⟩, ⟨by (with_reducible repeat (first | apply Kd.R_alloc | apply Kd.R_drewN | apply Kd.R_drew)); exact HO_8.out⟩, ⟨by (with_reducible repeat (first | apply Kd.R_alloc | apply Kd.R_drewN | apply Kd.R_drew)); exact HO_9.out⟩, ⟨by (with_reducible repeat (first | apply Kd.S_alloc | apply Kd.S_drewN | apply Kd.S_drew)); exact Kd.S_mono HO_10.out (fun _ hk => ⟨hk.1.1, ⟨hk.1.2, hk.2⟩⟩)⟩, ⟨by (with_reducible repeat (first | apply Kd.R_alloc | apply Kd.R_drewN | apply Kd.R_drew)); exact HO237.out⟩, ⟨by (with_reducible repeat (first | refine blk_drewN ?_ _ | refine blk_drew ?_ | refine blk_alloc ?_ _)); exact BK214.out⟩, ⟨by repeat (first | (with_reducible first | exact HB.out | apply below_alloc | apply pw_below_drewN | apply below_drew1 | refine below_set ?_ GE214.out) | exact HB.out)⟩⟩
        rw [if_neg c35] at H
        have c35b0 : (x17_3 == x11_1) = false := beq_eq_false_iff_ne.mpr c35
        have c35b1 : (x17_3 != x11_1) = true := bne_iff_ne.mpr c35
        by_cases c38 : x12_3.length < 17592186044416
        rotate_left
        ·rw [if_neg c38] at H
         exact absurd H (by simp)
        rw [if_pos c38] at H
        have LMc38 := Aside0.mk c38
        clear c38
        obtain ⟨y238, hy238⟩ : ∃ y_ : List Int, y_ = (x12_3 ++ [1000000]) := ⟨_, rfl⟩
        replace H : (hypercuberef10_below.l2 k3 a1 t215 t218 x10_1 x11_1 y238 t234 (wrap64 (x17_3 + 1)) l0_0 a0_1) = some r := by first | (rw [hy238]; with_reducible exact H) | (have H2_ := (Option.bind_some _ _).symm.trans H; rw [hy238]; with_reducible exact H2_) | (have H2_ := (Option.bind_some _ _).symm.trans H; with_reducible exact H2_) | with_reducible exact H | (rw [hy238]; exact H) | exact H
        have Ny238 := Aside0.mk hy238
        clear hy238
        have H' := Aside0.mk H
        clear H
        go_wp2_with (first | ((with_reducible refine gate_builtin (b := .append) (xs := #[.tmp 93, .tmp 95]) rfl ?_); at_builtin; refine Kd.R_append (Kd.int .i64) (w0 := w) w.heap.size rfl (.tmp 93) (.tmp 95) 24 3 (.int .i64 0) 8 rfl Try.underlying24 info3 rfl (by decide) (by omega) u12 x12_3 1000000 [.int .i64 1000000] (fun k_ => some k_ ≠ (.slice (some ad232) t215.length co11 : Value).ownBlock ∧ some k_ ≠ (.slice Ao31 t218.length co31 : Value).ownBlock) (fun _ => False) rfl rfl ?aP (fun _ hk => hk.elim) ?aF ?aO ?aB ?aS ?aL ?_; (case aP => exact rfl); (case aB => exact (by repeat (first | (with_reducible first | exact HB.out | apply below_alloc | apply pw_below_drewN | apply below_drew1 | refine below_set ?_ GE214.out) | exact HB.out))); (case aF => exact (fun k_ hk => ⟨Kd.fresh' (Kd.R_lt (by (with_reducible repeat (first | apply Kd.R_alloc | apply Kd.R_drewN | apply Kd.R_drew)); exact HO_8.out)) k_ hk, Kd.fresh' (Kd.R_lt (by (with_reducible repeat (first | apply Kd.R_alloc | apply Kd.R_drewN | apply Kd.R_drew)); exact HO_9.out)) k_ hk⟩)); (case aO => exact (by (with_reducible repeat (first | apply Kd.R_alloc | apply Kd.R_drewN | apply Kd.R_drew)); exact HO_12.out)); (case aS => exact (below_size (by repeat (first | (with_reducible first | exact HB.out | apply below_alloc | apply pw_below_drewN | apply below_drew1 | refine below_set ?_ GE214.out) | exact HB.out)))); (case aL => have := LMc38.out; omega); intro v239 w39 ho hb hg hat; rw [← Ny238.out] at ho; have n0_ := Aside0.mk (Kd.R_after (ok := (fun k_ => some k_ ≠ (.slice Ao31 t218.length co31 : Value).ownBlock)) (by (with_reducible repeat (first | apply Kd.R_alloc | apply Kd.R_drewN | apply Kd.R_drew)); exact HO_8.out) hg hat); have n1_ := Aside0.mk (Kd.R_after (ok := (fun k_ => some k_ ≠ (.slice (some ad232) t215.length co11 : Value).ownBlock)) (by (with_reducible repeat (first | apply Kd.R_alloc | apply Kd.R_drewN | apply Kd.R_drew)); exact HO_9.out) hg hat); have n2_ := Aside0.mk (Kd.S_after (ok := (fun k_ => some k_ ≠ (.slice (some ad232) t215.length co11 : Value).ownBlock ∧ some k_ ≠ (.slice Ao31 t218.length co31 : Value).ownBlock)) (by (with_reducible repeat (first | apply Kd.S_alloc | apply Kd.S_drewN | apply Kd.S_drew)); exact Kd.S_mono HO_10.out (fun _ hk => ⟨⟨hk.1, hk.2.1⟩, hk.2.2⟩)) hg hat); have n3_ := Aside0.mk (blk_grown (g := gb214) (o := .cells #[.slice A0_0 l0_0.length c0_0, .int .i64 a0_1] 33 (0, 0)) (by (with_reducible repeat (first | refine blk_drewN ?_ _ | refine blk_drew ?_ | refine blk_alloc ?_ _)); exact BK214.out) hg (Kd.R_ne HO_12.out BK214.out (by decide))); have n4_ := Aside0.mk (hb); have n5_ := Aside0.mk (ho); clear HO_8; clear HO_9; clear HO_10; clear BK214; clear HB; clear HO_12; have HO_8 := n0_; have HO_9 := n1_; have HO_10 := n2_; have BK214 := n3_; have HB := n4_; have HO240 := n5_; clear n0_ n1_ n2_ n3_ n4_ n5_; clear ho hb hg hat))
        go_roundg k3
        case measure => have := HK1.out; have := HK2.out; have := HK3.out; omega
        case rel => exact ⟨(y238), (wrap64 (x17_3 + 1)), (by first | rfl | (simp; done) | (simp [*]; done)), H', ⟨by have := HK1.out; have := HK2.out; have := HK3.out; omega⟩, ⟨by (with_reducible repeat (first | apply Kd.R_alloc | apply Kd.R_drewN | apply Kd.R_drew)); exact HO_8.out⟩, ⟨by (with_reducible repeat (first | apply Kd.R_alloc | apply Kd.R_drewN | apply Kd.R_drew)); exact HO_9.out⟩, ⟨by (with_reducible repeat (first | apply Kd.S_alloc | apply Kd.S_drewN | apply Kd.S_drew)); exact Kd.S_mono HO_10.out (fun _ hk => ⟨hk.1.1, ⟨hk.1.2, hk.2⟩⟩)⟩, ⟨by (with_reducible repeat (first | apply Kd.R_alloc | apply Kd.R_drewN | apply Kd.R_drew)); exact HO240.out⟩, ⟨by (with_reducible repeat (first | refine blk_drewN ?_ _ | refine blk_drew ?_ | refine blk_alloc ?_ _)); exact BK214.out⟩, ⟨by repeat (first | (with_reducible first | exact HB.out | apply below_alloc | apply pw_below_drewN | apply below_drew1 | refine below_set ?_ GE214.out) | exact HB.out)⟩⟩
     rw [if_pos c12] at H
     have c12b0 : decide (x13_2 < (t218.length : Int)) = true := decide_eq_true c12
     clear c12
     by_cases c13 : 0 ≤ x13_2
     rotate_left
     ·rw [if_neg c13] at H
      exact absurd H (by simp)
     rw [if_pos c13] at H
     have c13b0 : decide (0 ≤ x13_2) = true := decide_eq_true c13
     clear c13
     by_cases c14 : 0 ≤ x11_1
     rotate_left
     ·rw [if_neg c14] at H
      exact absurd H (by simp)
     rw [if_pos c14] at H
     have c14b0 : decide (0 ≤ x11_1) = true := decide_eq_true c14
     clear c14
     by_cases c15 : x11_1 < (t215.length : Int)
     rotate_left
     ·rw [if_neg c15] at H
      exact absurd H (by simp)
     rw [if_pos c15] at H
     have c15b0 : decide (x11_1 < (t215.length : Int)) = true := decide_eq_true c15
     clear c15
     by_cases c16 : (Go.bits .and .i64 (rd t218 x13_2) (rd t215 x11_1)) = (rd t215 x11_1)
     rotate_left
     ·rw [if_neg c16] at H
      have c16b0 : ((Go.bits .and .i64 (rd t218 x13_2) (rd t215 x11_1)) == (rd t215 x11_1)) = false := beq_eq_false_iff_ne.mpr c16
      have c16b1 : ((Go.bits .and .i64 (rd t218 x13_2) (rd t215 x11_1)) != (rd t215 x11_1)) = true := bne_iff_ne.mpr c16
      by_cases c24 : x12_2.length < 17592186044416
      rotate_left
      ·rw [if_neg c24] at H
       exact absurd H (by simp)
      rw [if_pos c24] at H
      have LMc24 := Aside0.mk c24
      clear c24
      obtain ⟨y229, hy229⟩ : ∃ y_ : List Int, y_ = (x12_2 ++ [1000000]) := ⟨_, rfl⟩
      replace H : (hypercuberef10_below.l1 k2 a1 t215 t218 x10_1 x11_1 y229 (wrap64 (x13_2 + 1)) l0_0 a0_1) = some r := by first | (rw [hy229]; with_reducible exact H) | (have H2_ := (Option.bind_some _ _).symm.trans H; rw [hy229]; with_reducible exact H2_) | (have H2_ := (Option.bind_some _ _).symm.trans H; with_reducible exact H2_) | with_reducible exact H | (rw [hy229]; exact H) | exact H
      have Ny229 := Aside0.mk hy229
      clear hy229
      have H' := Aside0.mk H
      clear H
      obtain ⟨Ao25, co25, eo25⟩ := Kd.R_slice HO_9.out
      subst eo25
      try go_wp2
      have n0_ := Aside0.mk (Kd.R_drew HO_8.out)
      have n1_ := Aside0.mk (Kd.R_drew HO_9.out)
      have n2_ := Aside0.mk (Kd.S_drew HO_10.out)
      have n3_ := Aside0.mk (Kd.R_drew HO_12.out)
      have n4_ := Aside0.mk (blk_drew BK214.out)
      have n5_ := Aside0.mk (below_drew1 HB.out)
      clear HO_8 HO_9 HO_10 HO_12 BK214 HB
      have HO_8 := n0_
      have HO_9 := n1_
      have HO_10 := n2_
      have HO_12 := n3_
      have BK214 := n4_
      have HB := n5_
      clear n0_ n1_ n2_ n3_ n4_ n5_
      have p221 : 0 ≤ (x13_2 : Int) := od_
      have q221 : x13_2 < (t218.length : Int) := od_
      obtain ⟨ad221, e221, hx221_0⟩ := Kd.at_int (Kd.R_reads' HO_9.out).2.2 x13_2 p221 q221
      cases e221
      replace p221 := eq_true p221
      replace q221 := eq_true q221
      have p222 : 0 ≤ (x11_1 : Int) := od_
      have q222 : x11_1 < (t215.length : Int) := od_
      obtain ⟨ad222, e222, hx222_0⟩ := Kd.at_int (Kd.R_reads' HO_8.out).2.2 x11_1 p222 q222
      cases e222
      replace p222 := eq_true p222
      replace q222 := eq_true q222
      have p223 : 0 ≤ (x11_1 : Int) := od_
      have q223 : x11_1 < (t215.length : Int) := od_
      obtain ⟨ad223, e223, hx223_0⟩ := Kd.at_int (Kd.R_reads' HO_8.out).2.2 x11_1 p223 q223
      obtain rfl : ad222 = ad223 := (by injection e223)
      replace p223 := eq_true p223
      replace q223 := eq_true q223
      refine start_ (n := 14) (S := fun w' => w'.cell? (ad221.add (x13_2).toNat) = some (.int .i64 (rd t218 x13_2)) ∧ w'.cell? (ad222.add (x11_1).toNat) = some (.int .i64 (rd t215 x11_1)) ∧ w'.cell? (ad222.add (x11_1).toNat) = some (.int .i64 (rd t215 x11_1))) (ds := []) (fl_ 0 14) (by kernel_rfl) rfl rfl ⟨hx221_0, hx222_0, hx223_0⟩ (fun hHeld => ?_); refine with_tabW hypercuberef10_below.tab12 hypercuberef10_below.bits12 (fun HT_ HW_ => ?_)
      generalize wr.drew = w26 at HO_8 HO_9 HO_10 HO_12 BK214 HB hx221_0 hx222_0 hx223_0 hHeld ⊢
      refine pure_ (i := 0) (N := some 48) (v := ?_) (a' := ?_) (fl_ 1 13) rfl rfl (any_of HT_.out (by kernel_rfl)) (fun _ _ _ h => h) (Or.inl ⟨by rfl, ?_⟩) ?_ ?_
      rotate_left
      ·intro w'
       go_simp
       with_reducible rfl
      rotate_left
      ·simp only [Act.put, sl0, sl1, sl2, i64_w, i32_w]
       rfl
      refine pure_ (i := 1) (N := some 49) (v := ?_) (a' := ?_) (fl_ 2 12) rfl rfl (any_of HT_.out (by kernel_rfl)) (fun _ _ _ h => h) (Or.inl ⟨by rfl, ?_⟩) ?_ ?_
      rotate_left
      ·intro w'
       go_simp
       with_reducible rfl
      rotate_left
      ·simp only [Act.put, sl0, sl1, sl2, i64_w, i32_w]
       rfl
      refine pure_ (i := 2) (N := some 50) (v := ?_) (a' := ?_) (fl_ 3 11) rfl rfl (any_of HT_.out (by kernel_rfl)) (fun _ _ _ h => h) (Or.inl ⟨by rfl, ?_⟩) ?_ ?_
      rotate_left
      ·intro w'
       go_simp
       with_reducible rfl
      rotate_left
      ·simp only [Act.put, sl0, sl1, sl2, i64_w, i32_w]
       rfl
      refine pure_ (i := 4) (N := some 52) (v := ?_) (a' := ?_) #[Y,Y,Y,Z,Y,Z,Z,Z,Z,Z,Z,Z,Z,Z] rfl rfl (any_of HT_.out (by kernel_rfl)) (fun _ _ _ h => h) (Or.inl ⟨by rfl, ?_⟩) ?_ ?_
      rotate_left
      ·intro w'
       go_simp
       with_reducible rfl
      rotate_left
      ·simp only [Act.put, sl0, sl1, sl2, i64_w, i32_w]
       rfl
      refine pure_ (i := 5) (N := some 53) (v := ?_) (a' := ?_) #[Y,Y,Y,Z,Y,Y,Z,Z,Z,Z,Z,Z,Z,Z] rfl rfl (any_of HT_.out (by kernel_rfl)) (fun _ _ _ h => h) (Or.inl ⟨by rfl, ?_⟩) ?_ ?_
      rotate_left
      ·intro w'
       go_simp
       with_reducible rfl
      rotate_left
      ·simp only [Act.put, sl0, sl1, sl2, i64_w, i32_w]
       rfl
      refine pure_ (i := 6) (N := some 54) (v := ?_) (a' := ?_) #[Y,Y,Y,Z,Y,Y,Y,Z,Z,Z,Z,Z,Z,Z] rfl rfl (any_of HT_.out (by kernel_rfl)) (fun _ _ _ h => h) (Or.inl ⟨by rfl, ?_⟩) ?_ ?_
      rotate_left
      ·intro w'
       go_simp
       with_reducible rfl
      rotate_left
      ·simp only [Act.put, sl0, sl1, sl2, i64_w, i32_w]
       rfl
      refine pure_ (i := 9) (N := some 57) (v := ?_) (a' := ?_) #[Y,Y,Y,Z,Y,Y,Y,Z,Z,Y,Z,Z,Z,Z] rfl rfl (any_of HT_.out (by kernel_rfl)) (fun _ _ _ h => h) (Or.inl ⟨by rfl, ?_⟩) ?_ ?_
      rotate_left
      ·intro w'
       go_simp
       with_reducible rfl
      rotate_left
      ·simp only [Act.put, sl0, sl1, sl2, i64_w, i32_w]
       rfl
      refine pure_ (i := 10) (N := some 58) (v := ?_) (a' := ?_) #[Y,Y,Y,Z,Y,Y,Y,Z,Z,Y,Y,Z,Z,Z] rfl rfl (any_of HT_.out (by kernel_rfl)) (fun _ _ _ h => h) (Or.inl ⟨by rfl, ?_⟩) ?_ ?_
      rotate_left
      ·intro w'
       go_simp
       with_reducible rfl
      rotate_left
      ·simp only [Act.put, sl0, sl1, sl2, i64_w, i32_w]
       rfl
      refine pure_ (i := 11) (N := some 59) (v := ?_) (a' := ?_) #[Y,Y,Y,Z,Y,Y,Y,Z,Z,Y,Y,Y,Z,Z] rfl rfl (any_of HT_.out (by kernel_rfl)) (fun _ _ _ h => h) (Or.inl ⟨by rfl, ?_⟩) ?_ ?_
      rotate_left
      ·intro w'
       go_simp
       with_reducible rfl
      rotate_left
      ·simp only [Act.put, sl0, sl1, sl2, i64_w, i32_w]
       rfl
      refine take_ (i := 3) (N := some 51) (v := ?_) (a' := ?_) #[Y,Y,Y,Y,Y,Y,Y,Z,Z,Y,Y,Y,Z,Z] rfl rfl (take_ofW HT_.out HW_.out (by kernel_rfl)) (fun _ _ _ h => h) (Or.inl ⟨by rfl, ?_⟩) hHeld ?_ ?_
      rotate_left
      ·rintro w' ⟨s0, s1, s2⟩
       go_simp
       with_reducible rfl
      rotate_left
      ·simp only [Act.put, sl0, sl1, sl2, i64_w, i32_w]
       rfl
      refine take_ (i := 7) (N := some 55) (v := ?_) (a' := ?_) #[Y,Y,Y,Y,Y,Y,Y,Y,Z,Y,Y,Y,Z,Z] rfl rfl (take_ofW HT_.out HW_.out (by kernel_rfl)) (fun _ _ _ h => h) (Or.inl ⟨by rfl, ?_⟩) hHeld ?_ ?_
      rotate_left
      ·rintro w' ⟨s0, s1, s2⟩
       go_simp
       with_reducible rfl
      rotate_left
      ·simp only [Act.put, sl0, sl1, sl2, i64_w, i32_w]
       rfl
      refine pure_ (i := 8) (N := some 56) (v := ?_) (a' := ?_) (fl_ 12 2) rfl rfl (any_of HT_.out (by kernel_rfl)) (fun _ _ _ h => h) (Or.inl ⟨by rfl, ?_⟩) ?_ ?_
      rotate_left
      ·intro w'
       go_simp
       with_reducible rfl
      rotate_left
      ·simp only [Act.put, sl0, sl1, sl2, i64_w, i32_w]
       rfl
      refine take_ (i := 12) (N := some 60) (v := ?_) (a' := ?_) (fl_ 13 1) rfl rfl (take_ofW HT_.out HW_.out (by kernel_rfl)) (fun _ _ _ h => h) (Or.inl ⟨by rfl, ?_⟩) hHeld ?_ ?_
      rotate_left
      ·rintro w' ⟨s0, s1, s2⟩
       go_simp
       with_reducible rfl
      rotate_left
      ·simp only [Act.put, sl0, sl1, sl2, i64_w, i32_w]
       rfl
      refine pure_ (i := 13) (N := some 61) (v := ?_) (a' := ?_) (fl_ 14 0) rfl rfl (any_of HT_.out (by kernel_rfl)) (fun _ _ _ h => h) (Or.inl ⟨by rfl, ?_⟩) ?_ ?_
      rotate_left
      ·intro w'
       go_simp
       with_reducible rfl
      rotate_left
      ·simp only [Act.put, sl0, sl1, sl2, i64_w, i32_w]
       rfl
      refine done_ (done_of HT_.out (by kernel_rfl)) ?_
      try go_wp2_with (first | ((with_reducible refine gate_builtin (b := .append) (xs := #[.tmp 69, .tmp 71]) rfl ?_); at_builtin; refine Kd.R_append (Kd.int .i64) (w0 := w) w.heap.size rfl (.tmp 69) (.tmp 71) 24 3 (.int .i64 0) 8 rfl Try.underlying24 info3 rfl (by decide) (by omega) u12 x12_2 1000000 [.int .i64 1000000] (fun k_ => some k_ ≠ (.slice (some ad222) t215.length co11 : Value).ownBlock ∧ some k_ ≠ (.slice (some ad221) t218.length co25 : Value).ownBlock) (fun _ => False) rfl rfl ?aP (fun _ hk => hk.elim) ?aF ?aO ?aB ?aS ?aL ?_; (case aP => exact rfl); (case aB => exact (by repeat (first | (with_reducible first | exact HB.out | apply below_alloc | apply pw_below_drewN | apply below_drew1 | refine below_set ?_ GE214.out) | exact HB.out))); (case aF => exact (fun k_ hk => ⟨Kd.fresh' (Kd.R_lt (by (with_reducible repeat (first | apply Kd.R_alloc | apply Kd.R_drewN | apply Kd.R_drew)); exact HO_8.out)) k_ hk, Kd.fresh' (Kd.R_lt (by (with_reducible repeat (first | apply Kd.R_alloc | apply Kd.R_drewN | apply Kd.R_drew)); exact HO_9.out)) k_ hk⟩)); (case aO => exact (by (with_reducible repeat (first | apply Kd.R_alloc | apply Kd.R_drewN | apply Kd.R_drew)); exact HO_12.out)); (case aS => exact (below_size (by repeat (first | (with_reducible first | exact HB.out | apply below_alloc | apply pw_below_drewN | apply below_drew1 | refine below_set ?_ GE214.out) | exact HB.out)))); (case aL => have := LMc24.out; omega); intro v230 w27 ho hb hg hat; rw [← Ny229.out] at ho; have n0_ := Aside0.mk (Kd.R_after (ok := (fun k_ => some k_ ≠ (.slice (some ad221) t218.length co25 : Value).ownBlock)) (by (with_reducible repeat (first | apply Kd.R_alloc | apply Kd.R_drewN | apply Kd.R_drew)); exact HO_8.out) hg hat); have n1_ := Aside0.mk (Kd.R_after (ok := (fun k_ => some k_ ≠ (.slice (some ad222) t215.length co11 : Value).ownBlock)) (by (with_reducible repeat (first | apply Kd.R_alloc | apply Kd.R_drewN | apply Kd.R_drew)); exact HO_9.out) hg hat); have n2_ := Aside0.mk (Kd.S_after (ok := (fun k_ => some k_ ≠ (.slice (some ad222) t215.length co11 : Value).ownBlock ∧ some k_ ≠ (.slice (some ad221) t218.length co25 : Value).ownBlock)) (by (with_reducible repeat (first | apply Kd.S_alloc | apply Kd.S_drewN | apply Kd.S_drew)); exact Kd.S_mono HO_10.out (fun _ hk => ⟨⟨hk.1, hk.2.1⟩, hk.2.2⟩)) hg hat); have n3_ := Aside0.mk (blk_grown (g := gb214) (o := .cells #[.slice A0_0 l0_0.length c0_0, .int .i64 a0_1] 33 (0, 0)) (by (with_reducible repeat (first | refine blk_drewN ?_ _ | refine blk_drew ?_ | refine blk_alloc ?_ _)); exact BK214.out) hg (Kd.R_ne HO_12.out BK214.out (by decide))); have n4_ := Aside0.mk (hb); have n5_ := Aside0.mk (ho); clear HO_8; clear HO_9; clear HO_10; clear BK214; clear HB; clear HO_12; have HO_8 := n0_; have HO_9 := n1_; have HO_10 := n2_; have BK214 := n3_; have HB := n4_; have HO231 := n5_; clear n0_ n1_ n2_ n3_ n4_ n5_; clear ho hb hg hat))
      go_roundg k2
      case measure => have := HK1.out; have := HK2.out; omega
      case rel => exact ⟨(y229), (wrap64 (x13_2 + 1)), (by first | rfl | (simp; done) | (simp [*]; done)), H', ⟨by have := HK1.out; have := HK2.out; omega⟩, ⟨by (with_reducible repeat (first | apply Kd.R_alloc | apply Kd.R_drewN | apply Kd.R_drew)); exact HO_8.out⟩, ⟨by (with_reducible repeat (first | apply Kd.R_alloc | apply Kd.R_drewN | apply Kd.R_drew)); exact HO_9.out⟩, ⟨by (with_reducible repeat (first | apply Kd.S_alloc | apply Kd.S_drewN | apply Kd.S_drew)); exact Kd.S_mono HO_10.out (fun _ hk => ⟨hk.1.1, ⟨hk.1.2, hk.2⟩⟩)⟩, ⟨by (with_reducible repeat (first | apply Kd.R_alloc | apply Kd.R_drewN | apply Kd.R_drew)); exact HO231.out⟩, ⟨by (with_reducible repeat (first | refine blk_drewN ?_ _ | refine blk_drew ?_ | refine blk_alloc ?_ _)); exact BK214.out⟩, ⟨by repeat (first | (with_reducible first | exact HB.out | apply below_alloc | apply pw_below_drewN | apply below_drew1 | refine below_set ?_ GE214.out) | exact HB.out)⟩⟩
     rw [if_pos c16] at H
     have c16b0 : ((Go.bits .and .i64 (rd t218 x13_2) (rd t215 x11_1)) == (rd t215 x11_1)) = true := beq_iff_eq.mpr c16
     have c16b1 : ((Go.bits .and .i64 (rd t218 x13_2) (rd t215 x11_1)) != (rd t215 x11_1)) = false := bne_eq_false_iff_eq.mpr c16
     clear c16
     replace H := Option.bind_eq_some_iff.mp H
     obtain ⟨t225, A170, H⟩ := H
     replace H : (if x12_2.length < 17592186044416 then (hypercuberef10_below.l1 k2 a1 t215 t218 x10_1 x11_1 (x12_2 ++ [t225]) (wrap64 (x13_2 + 1)) l0_0 a0_1) else (none)) = some r := H
     have A17 := Aside0.mk A170
     clear A170
     by_cases c18 : x12_2.length < 17592186044416
     rotate_left
     ·rw [if_neg c18] at H
      exact absurd H (by simp)
     rw [if_pos c18] at H
     have LMc18 := Aside0.mk c18
     clear c18
     obtain ⟨y226, hy226⟩ : ∃ y_ : List Int, y_ = (x12_2 ++ [t225]) := ⟨_, rfl⟩
     replace H : (hypercuberef10_below.l1 k2 a1 t215 t218 x10_1 x11_1 y226 (wrap64 (x13_2 + 1)) l0_0 a0_1) = some r := by first | (rw [hy226]; with_reducible exact H) | (have H2_ := (Option.bind_some _ _).symm.trans H; rw [hy226]; with_reducible exact H2_) | (have H2_ := (Option.bind_some _ _).symm.trans H; with_reducible exact H2_) | with_reducible exact H | (rw [hy226]; exact H) | exact H
     have Ny226 := Aside0.mk hy226
     clear hy226
     have H' := Aside0.mk H
     clear H
     obtain ⟨Ao19, co19, eo19⟩ := Kd.R_slice HO_9.out
     subst eo19
     try go_wp2
     have n0_ := Aside0.mk (Kd.R_drew HO_8.out)
     have n1_ := Aside0.mk (Kd.R_drew HO_9.out)
     have n2_ := Aside0.mk (Kd.S_drew HO_10.out)
     have n3_ := Aside0.mk (Kd.R_drew HO_12.out)
     have n4_ := Aside0.mk (blk_drew BK214.out)
     have n5_ := Aside0.mk (below_drew1 HB.out)
     clear HO_8 HO_9 HO_10 HO_12 BK214 HB
     have HO_8 := n0_
     have HO_9 := n1_
     have HO_10 := n2_
     have HO_12 := n3_
     have BK214 := n4_
     have HB := n5_
     clear n0_ n1_ n2_ n3_ n4_ n5_
     have p221 : 0 ≤ (x13_2 : Int) := od_
     have q221 : x13_2 < (t218.length : Int) := od_
     obtain ⟨ad221, e221, hx221_0⟩ := Kd.at_int (Kd.R_reads' HO_9.out).2.2 x13_2 p221 q221
     cases e221
     replace p221 := eq_true p221
     replace q221 := eq_true q221
     have p222 : 0 ≤ (x11_1 : Int) := od_
     have q222 : x11_1 < (t215.length : Int) := od_
     obtain ⟨ad222, e222, hx222_0⟩ := Kd.at_int (Kd.R_reads' HO_8.out).2.2 x11_1 p222 q222
     cases e222
     replace p222 := eq_true p222
     replace q222 := eq_true q222
     have p223 : 0 ≤ (x11_1 : Int) := od_
     have q223 : x11_1 < (t215.length : Int) := od_
     obtain ⟨ad223, e223, hx223_0⟩ := Kd.at_int (Kd.R_reads' HO_8.out).2.2 x11_1 p223 q223
     obtain rfl : ad222 = ad223 := (by injection e223)
     replace p223 := eq_true p223
     replace q223 := eq_true q223
     refine start_ (n := 14) (S := fun w' => w'.cell? (ad221.add (x13_2).toNat) = some (.int .i64 (rd t218 x13_2)) ∧ w'.cell? (ad222.add (x11_1).toNat) = some (.int .i64 (rd t215 x11_1)) ∧ w'.cell? (ad222.add (x11_1).toNat) = some (.int .i64 (rd t215 x11_1))) (ds := []) (fl_ 0 14) (by kernel_rfl) rfl rfl ⟨hx221_0, hx222_0, hx223_0⟩ (fun hHeld => ?_); refine with_tabW hypercuberef10_below.tab12 hypercuberef10_below.bits12 (fun HT_ HW_ => ?_)
     generalize wr.drew = w20 at HO_8 HO_9 HO_10 HO_12 BK214 HB hx221_0 hx222_0 hx223_0 hHeld ⊢
     refine pure_ (i := 0) (N := some 48) (v := ?_) (a' := ?_) (fl_ 1 13) rfl rfl (any_of HT_.out (by kernel_rfl)) (fun _ _ _ h => h) (Or.inl ⟨by rfl, ?_⟩) ?_ ?_
     rotate_left
     ·intro w'
      go_simp
      with_reducible rfl
     rotate_left
     ·simp only [Act.put, sl0, sl1, sl2, i64_w, i32_w]
      rfl
     refine pure_ (i := 1) (N := some 49) (v := ?_) (a' := ?_) (fl_ 2 12) rfl rfl (any_of HT_.out (by kernel_rfl)) (fun _ _ _ h => h) (Or.inl ⟨by rfl, ?_⟩) ?_ ?_
     rotate_left
     ·intro w'
      go_simp
      with_reducible rfl
     rotate_left
     ·simp only [Act.put, sl0, sl1, sl2, i64_w, i32_w]
      rfl
     refine pure_ (i := 2) (N := some 50) (v := ?_) (a' := ?_) (fl_ 3 11) rfl rfl (any_of HT_.out (by kernel_rfl)) (fun _ _ _ h => h) (Or.inl ⟨by rfl, ?_⟩) ?_ ?_
     rotate_left
     ·intro w'
      go_simp
      with_reducible rfl
     rotate_left
     ·simp only [Act.put, sl0, sl1, sl2, i64_w, i32_w]
      rfl
     refine pure_ (i := 4) (N := some 52) (v := ?_) (a' := ?_) #[Y,Y,Y,Z,Y,Z,Z,Z,Z,Z,Z,Z,Z,Z] rfl rfl (any_of HT_.out (by kernel_rfl)) (fun _ _ _ h => h) (Or.inl ⟨by rfl, ?_⟩) ?_ ?_
     rotate_left
     ·intro w'
      go_simp
      with_reducible rfl
     rotate_left
     ·simp only [Act.put, sl0, sl1, sl2, i64_w, i32_w]
      rfl
     refine pure_ (i := 5) (N := some 53) (v := ?_) (a' := ?_) #[Y,Y,Y,Z,Y,Y,Z,Z,Z,Z,Z,Z,Z,Z] rfl rfl (any_of HT_.out (by kernel_rfl)) (fun _ _ _ h => h) (Or.inl ⟨by rfl, ?_⟩) ?_ ?_
     rotate_left
     ·intro w'
      go_simp
      with_reducible rfl
     rotate_left
     ·simp only [Act.put, sl0, sl1, sl2, i64_w, i32_w]
      rfl
     refine pure_ (i := 6) (N := some 54) (v := ?_) (a' := ?_) #[Y,Y,Y,Z,Y,Y,Y,Z,Z,Z,Z,Z,Z,Z] rfl rfl (any_of HT_.out (by kernel_rfl)) (fun _ _ _ h => h) (Or.inl ⟨by rfl, ?_⟩) ?_ ?_
     rotate_left
     ·intro w'
      go_simp
      with_reducible rfl
     rotate_left
     ·simp only [Act.put, sl0, sl1, sl2, i64_w, i32_w]
      rfl
     refine pure_ (i := 9) (N := some 57) (v := ?_) (a' := ?_) #[Y,Y,Y,Z,Y,Y,Y,Z,Z,Y,Z,Z,Z,Z] rfl rfl (any_of HT_.out (by kernel_rfl)) (fun _ _ _ h => h) (Or.inl ⟨by rfl, ?_⟩) ?_ ?_
     rotate_left
     ·intro w'
      go_simp
      with_reducible rfl
     rotate_left
     ·simp only [Act.put, sl0, sl1, sl2, i64_w, i32_w]
      rfl
     refine pure_ (i := 10) (N := some 58) (v := ?_) (a' := ?_) #[Y,Y,Y,Z,Y,Y,Y,Z,Z,Y,Y,Z,Z,Z] rfl rfl (any_of HT_.out (by kernel_rfl)) (fun _ _ _ h => h) (Or.inl ⟨by rfl, ?_⟩) ?_ ?_
     rotate_left
     ·intro w'
      go_simp
      with_reducible rfl
     rotate_left
     ·simp only [Act.put, sl0, sl1, sl2, i64_w, i32_w]
      rfl
     refine pure_ (i := 11) (N := some 59) (v := ?_) (a' := ?_) #[Y,Y,Y,Z,Y,Y,Y,Z,Z,Y,Y,Y,Z,Z] rfl rfl (any_of HT_.out (by kernel_rfl)) (fun _ _ _ h => h) (Or.inl ⟨by rfl, ?_⟩) ?_ ?_
     rotate_left
     ·intro w'
      go_simp
      with_reducible rfl
     rotate_left
     ·simp only [Act.put, sl0, sl1, sl2, i64_w, i32_w]
      rfl
     refine take_ (i := 3) (N := some 51) (v := ?_) (a' := ?_) #[Y,Y,Y,Y,Y,Y,Y,Z,Z,Y,Y,Y,Z,Z] rfl rfl (take_ofW HT_.out HW_.out (by kernel_rfl)) (fun _ _ _ h => h) (Or.inl ⟨by rfl, ?_⟩) hHeld ?_ ?_
     rotate_left
     ·rintro w' ⟨s0, s1, s2⟩
      go_simp
      with_reducible rfl
     rotate_left
     ·simp only [Act.put, sl0, sl1, sl2, i64_w, i32_w]
      rfl
     refine take_ (i := 7) (N := some 55) (v := ?_) (a' := ?_) #[Y,Y,Y,Y,Y,Y,Y,Y,Z,Y,Y,Y,Z,Z] rfl rfl (take_ofW HT_.out HW_.out (by kernel_rfl)) (fun _ _ _ h => h) (Or.inl ⟨by rfl, ?_⟩) hHeld ?_ ?_
     rotate_left
     ·rintro w' ⟨s0, s1, s2⟩
      go_simp
      with_reducible rfl
     rotate_left
     ·simp only [Act.put, sl0, sl1, sl2, i64_w, i32_w]
      rfl
     refine pure_ (i := 8) (N := some 56) (v := ?_) (a' := ?_) (fl_ 12 2) rfl rfl (any_of HT_.out (by kernel_rfl)) (fun _ _ _ h => h) (Or.inl ⟨by rfl, ?_⟩) ?_ ?_
     rotate_left
     ·intro w'
      go_simp
      with_reducible rfl
     rotate_left
     ·simp only [Act.put, sl0, sl1, sl2, i64_w, i32_w]
      rfl
     refine take_ (i := 12) (N := some 60) (v := ?_) (a' := ?_) (fl_ 13 1) rfl rfl (take_ofW HT_.out HW_.out (by kernel_rfl)) (fun _ _ _ h => h) (Or.inl ⟨by rfl, ?_⟩) hHeld ?_ ?_
     rotate_left
     ·rintro w' ⟨s0, s1, s2⟩
      go_simp
      with_reducible rfl
     rotate_left
     ·simp only [Act.put, sl0, sl1, sl2, i64_w, i32_w]
      rfl
     refine pure_ (i := 13) (N := some 61) (v := ?_) (a' := ?_) (fl_ 14 0) rfl rfl (any_of HT_.out (by kernel_rfl)) (fun _ _ _ h => h) (Or.inl ⟨by rfl, ?_⟩) ?_ ?_
     rotate_left
     ·intro w'
      go_simp
      with_reducible rfl
     rotate_left
     ·simp only [Act.put, sl0, sl1, sl2, i64_w, i32_w]
      rfl
     refine done_ (done_of HT_.out (by kernel_rfl)) ?_
     try go_wp2
     have n0_ := Aside0.mk (Kd.R_drew HO_8.out)
     have n1_ := Aside0.mk (Kd.R_drew HO_9.out)
     have n2_ := Aside0.mk (Kd.S_drew HO_10.out)
     have n3_ := Aside0.mk (Kd.R_drew HO_12.out)
     have n4_ := Aside0.mk (blk_drew BK214.out)
     have n5_ := Aside0.mk (below_drew1 HB.out)
     clear HO_8 HO_9 HO_10 HO_12 BK214 HB
     have HO_8 := n0_
     have HO_9 := n1_
     have HO_10 := n2_
     have HO_12 := n3_
     have BK214 := n4_
     have HB := n5_
     clear n0_ n1_ n2_ n3_ n4_ n5_
     have p224 : 0 ≤ (x13_2 : Int) := od_
     have q224 : x13_2 < (t218.length : Int) := od_
     obtain ⟨ad224, e224, hx224_0⟩ := Kd.at_int (Kd.R_reads' HO_9.out).2.2 x13_2 p224 q224
     obtain rfl : ad221 = ad224 := (by injection e224)
     replace p224 := eq_true p224
     replace q224 := eq_true q224
     refine start_ (n := 8) (S := fun w' => w'.cell? ⟨gb214, 0, none⟩ = some (.slice A0_0 l0_0.length c0_0) ∧ w'.cell? ⟨gb214, 1, none⟩ = some (.int .i64 a0_1) ∧ w'.cell? (ad221.add (x13_2).toNat) = some (.int .i64 (rd t218 x13_2))) (ds := []) (fl_ 0 8) (by kernel_rfl) rfl rfl ⟨(blk_cell BK214.out 0).trans rfl, (blk_cell BK214.out 1).trans rfl, hx224_0⟩ (fun hHeld => ?_); refine with_tabW hypercuberef10_below.tab13 hypercuberef10_below.bits13 (fun HT_ HW_ => ?_)
     generalize w20.drew = w21 at HO_8 HO_9 HO_10 HO_12 BK214 HB hx224_0 hHeld ⊢
     refine pure_ (i := 1) (N := some 63) (v := ?_) (a' := ?_) #[Z,Y,Z,Z,Z,Z,Z,Z] rfl rfl (any_of HT_.out (by kernel_rfl)) (fun _ _ _ h => h) (Or.inl ⟨by rfl, ?_⟩) ?_ ?_
     rotate_left
     ·intro w'
      go_simp
      with_reducible rfl
     rotate_left
     ·simp only [Act.put, sl0, sl1, sl2, i64_w, i32_w]
      rfl
     refine pure_ (i := 2) (N := some 64) (v := ?_) (a' := ?_) #[Z,Y,Y,Z,Z,Z,Z,Z] rfl rfl (any_of HT_.out (by kernel_rfl)) (fun _ _ _ h => h) (Or.inl ⟨by rfl, ?_⟩) ?_ ?_
     rotate_left
     ·intro w'
      go_simp
      with_reducible rfl
     rotate_left
     ·simp only [Act.put, sl0, sl1, sl2, i64_w, i32_w]
      rfl
     refine pure_ (i := 3) (N := some 65) (v := ?_) (a' := ?_) #[Z,Y,Y,Y,Z,Z,Z,Z] rfl rfl (any_of HT_.out (by kernel_rfl)) (fun _ _ _ h => h) (Or.inl ⟨by rfl, ?_⟩) ?_ ?_
     rotate_left
     ·intro w'
      go_simp
      with_reducible rfl
     rotate_left
     ·simp only [Act.put, sl0, sl1, sl2, i64_w, i32_w]
      rfl
     refine pure_ (i := 4) (N := some 66) (v := ?_) (a' := ?_) #[Z,Y,Y,Y,Y,Z,Z,Z] rfl rfl (any_of HT_.out (by kernel_rfl)) (fun _ _ _ h => h) (Or.inl ⟨by rfl, ?_⟩) ?_ ?_
     rotate_left
     ·intro w'
      go_simp
      with_reducible rfl
     rotate_left
     ·simp only [Act.put, sl0, sl1, sl2, i64_w, i32_w]
      rfl
     refine take_ (i := 0) (N := some 62) (v := ?_) (a' := ?_) (fl_ 5 3) rfl rfl (take_ofW HT_.out HW_.out (by kernel_rfl)) (fun _ _ _ h => h) (Or.inl ⟨by rfl, ?_⟩) hHeld ?_ ?_
     rotate_left
     ·rintro w' ⟨s0, s1, s2⟩
      go_simp
      with_reducible rfl
     rotate_left
     ·simp only [Act.put, sl0, sl1, sl2, i64_w, i32_w]
      rfl
     refine take_ (i := 5) (N := some 67) (v := ?_) (a' := ?_) (fl_ 6 2) rfl rfl (take_ofW HT_.out HW_.out (by kernel_rfl)) (fun _ _ _ h => h) (Or.inl ⟨by rfl, ?_⟩) hHeld ?_ ?_
     rotate_left
     ·rintro w' ⟨s0, s1, s2⟩
      go_simp
      with_reducible rfl
     rotate_left
     ·simp only [Act.put, sl0, sl1, sl2, i64_w, i32_w]
      rfl
     refine one_ (i := 6) (N := some 68) (fl_ 7 1) rfl rfl (one_of HT_.out (by kernel_rfl)) (by decide) (fun K hK => ?_)
     refine goes_ Try.func48 (by kernel_rfl) rfl #[.agg #[.slice A0_0 l0_0.length c0_0, .int .i64 a0_1], .int .i64 a1, .int .i64 (rd t218 x13_2)] (by rfl) rfl rfl (by (try simp only [List.map_toArray, List.map_cons, List.map_nil]); first | done | rfl | (simp only [List.length_drop, List.length_take]; rfl)) ?_
     with_reducible refine (hypercuberef8_Scan.calls k2 _ _ l0_0 a0_1 a1 (rd t218 x13_2) t225 _ ?side1 ?side2 A17.out).mono ?_
     (case side1 => repeat (first | exact (Kd.C_below HR0_0.out HB.out) | (with_reducible refine Kd.C_alloc ?_ _) | (with_reducible refine Kd.C_drewN ?_ _) | (with_reducible refine Kd.C_drew ?_)))
     (case side2 => exact HC0_0.out)
     rintro e w22 ⟨rfl, hb⟩
     have HS2_ := (hb.cell (World.block_lt_of_cell? _ _ (hHeld.2.2))).trans (hHeld.2.2)
     refine ⟨_, rfl, ?_⟩
     have n0_ := Aside0.mk (Kd.R_below (by (with_reducible repeat (first | apply Kd.R_alloc | apply Kd.R_drewN | apply Kd.R_drew)); exact HO_8.out) hb)
     have n1_ := Aside0.mk (Kd.R_below (by (with_reducible repeat (first | apply Kd.R_alloc | apply Kd.R_drewN | apply Kd.R_drew)); exact HO_9.out) hb)
     have n2_ := Aside0.mk (Kd.S_below (by (with_reducible repeat (first | apply Kd.S_alloc | apply Kd.S_drewN | apply Kd.S_drew)); exact HO_10.out) hb)
     have n3_ := Aside0.mk (Kd.R_below (by (with_reducible repeat (first | apply Kd.R_alloc | apply Kd.R_drewN | apply Kd.R_drew)); exact HO_12.out) hb)
     have n4_ := Aside0.mk (blk_below (g := gb214) (o := .cells #[.slice A0_0 l0_0.length c0_0, .int .i64 a0_1] 33 (0, 0)) (by (with_reducible repeat (first | refine blk_drewN ?_ _ | refine blk_drew ?_ | refine blk_alloc ?_ _)); exact BK214.out) hb)
     have n5_ := Aside0.mk (below_step (by repeat (first | (with_reducible first | exact HB.out | apply below_alloc | apply pw_below_drewN | apply below_drew1 | refine below_set ?_ GE214.out) | exact HB.out)) hb)
     clear HO_8 HO_9 HO_10 HO_12 BK214 HB
     have HO_8 := n0_
     have HO_9 := n1_
     have HO_10 := n2_
     have HO_12 := n3_
     have BK214 := n4_
     have HB := n5_
     clear n0_ n1_ n2_ n3_ n4_ n5_
     refine hK.out _ _ ⟨(blk_cell BK214.out 0).trans rfl, (blk_cell BK214.out 1).trans rfl, HS2_⟩ (fun hHeld => ?_)
     clear hK K
     refine norm_ (a' := ?_) ?_ ?_
     rotate_left
     ·show Act.put _ (some 68) _ = _
      simp only [Act.put, sl0, sl1, sl2, i64_w, i32_w]
      rfl
     refine pure_ (i := 7) (N := some 14) (v := ?_) (a' := ?_) (fl_ 8 0) rfl rfl (any_of HT_.out (by kernel_rfl)) (fun _ _ _ h => h) (Or.inl ⟨by rfl, ?_⟩) ?_ ?_
     rotate_left
     ·intro w'
      go_simp
      with_reducible rfl
     rotate_left
     ·simp only [Act.put, sl0, sl1, sl2, i64_w, i32_w]
      rfl
     refine done_ (done_of HT_.out (by kernel_rfl)) ?_
     try go_wp2_with (first | ((with_reducible refine gate_builtin (b := .append) (xs := #[.tmp 69, .tmp 71]) rfl ?_); at_builtin; refine Kd.R_append (Kd.int .i64) (w0 := w) w.heap.size rfl (.tmp 69) (.tmp 71) 24 3 (.int .i64 0) 8 rfl Try.underlying24 info3 rfl (by decide) (by omega) u12 x12_2 t225 [.int .i64 t225] (fun k_ => some k_ ≠ (.slice (some ad222) t215.length co11 : Value).ownBlock ∧ some k_ ≠ (.slice (some ad221) t218.length co19 : Value).ownBlock) (fun _ => False) rfl rfl ?aP (fun _ hk => hk.elim) ?aF ?aO ?aB ?aS ?aL ?_; (case aP => exact rfl); (case aB => exact (by repeat (first | (with_reducible first | exact HB.out | apply below_alloc | apply pw_below_drewN | apply below_drew1 | refine below_set ?_ GE214.out) | exact HB.out))); (case aF => exact (fun k_ hk => ⟨Kd.fresh' (Kd.R_lt (by (with_reducible repeat (first | apply Kd.R_alloc | apply Kd.R_drewN | apply Kd.R_drew)); exact HO_8.out)) k_ hk, Kd.fresh' (Kd.R_lt (by (with_reducible repeat (first | apply Kd.R_alloc | apply Kd.R_drewN | apply Kd.R_drew)); exact HO_9.out)) k_ hk⟩)); (case aO => exact (by (with_reducible repeat (first | apply Kd.R_alloc | apply Kd.R_drewN | apply Kd.R_drew)); exact HO_12.out)); (case aS => exact (below_size (by repeat (first | (with_reducible first | exact HB.out | apply below_alloc | apply pw_below_drewN | apply below_drew1 | refine below_set ?_ GE214.out) | exact HB.out)))); (case aL => have := LMc18.out; omega); intro v227 w23 ho hb hg hat; rw [← Ny226.out] at ho; have n0_ := Aside0.mk (Kd.R_after (ok := (fun k_ => some k_ ≠ (.slice (some ad221) t218.length co19 : Value).ownBlock)) (by (with_reducible repeat (first | apply Kd.R_alloc | apply Kd.R_drewN | apply Kd.R_drew)); exact HO_8.out) hg hat); have n1_ := Aside0.mk (Kd.R_after (ok := (fun k_ => some k_ ≠ (.slice (some ad222) t215.length co11 : Value).ownBlock)) (by (with_reducible repeat (first | apply Kd.R_alloc | apply Kd.R_drewN | apply Kd.R_drew)); exact HO_9.out) hg hat); have n2_ := Aside0.mk (Kd.S_after (ok := (fun k_ => some k_ ≠ (.slice (some ad222) t215.length co11 : Value).ownBlock ∧ some k_ ≠ (.slice (some ad221) t218.length co19 : Value).ownBlock)) (by (with_reducible repeat (first | apply Kd.S_alloc | apply Kd.S_drewN | apply Kd.S_drew)); exact Kd.S_mono HO_10.out (fun _ hk => ⟨⟨hk.1, hk.2.1⟩, hk.2.2⟩)) hg hat); have n3_ := Aside0.mk (blk_grown (g := gb214) (o := .cells #[.slice A0_0 l0_0.length c0_0, .int .i64 a0_1] 33 (0, 0)) (by (with_reducible repeat (first | refine blk_drewN ?_ _ | refine blk_drew ?_ | refine blk_alloc ?_ _)); exact BK214.out) hg (Kd.R_ne HO_12.out BK214.out (by decide))); have n4_ := Aside0.mk (hb); have n5_ := Aside0.mk (ho); clear HO_8; clear HO_9; clear HO_10; clear BK214; clear HB; clear HO_12; have HO_8 := n0_; have HO_9 := n1_; have HO_10 := n2_; have BK214 := n3_; have HB := n4_; have HO228 := n5_; clear n0_ n1_ n2_ n3_ n4_ n5_; clear ho hb hg hat))
     go_roundg k2
     case measure => have := HK1.out; have := HK2.out; omega
     case rel => exact ⟨(y226), (wrap64 (x13_2 + 1)), (by first | rfl | (simp; done) | (simp [*]; done)), H', ⟨by have := HK1.out; have := HK2.out; omega⟩, ⟨by (with_reducible repeat (first | apply Kd.R_alloc | apply Kd.R_drewN | apply Kd.R_drew)); exact HO_8.out⟩, ⟨by (with_reducible repeat (first | apply Kd.R_alloc | apply Kd.R_drewN | apply Kd.R_drew)); exact HO_9.out⟩, ⟨by (with_reducible repeat (first | apply Kd.S_alloc | apply Kd.S_drewN | apply Kd.S_drew)); exact Kd.S_mono HO_10.out (fun _ hk => ⟨hk.1.1, ⟨hk.1.2, hk.2⟩⟩)⟩, ⟨by (with_reducible repeat (first | apply Kd.R_alloc | apply Kd.R_drewN | apply Kd.R_drew)); exact HO228.out⟩, ⟨by (with_reducible repeat (first | refine blk_drewN ?_ _ | refine blk_drew ?_ | refine blk_alloc ?_ _)); exact BK214.out⟩, ⟨by repeat (first | (with_reducible first | exact HB.out | apply below_alloc | apply pw_below_drewN | apply below_drew1 | refine below_set ?_ GE214.out) | exact HB.out)⟩⟩
end Go.Proofs.Ytlplaidcdocbmaa.PSortsAll
