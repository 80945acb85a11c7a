-- Cut by pack.py, a program of this session; not trusted: Lean checks it.
import Derived.Test.YtlplaidcdocbmaaZPSortsRightx0
import Derived.Test.YtlplaidcdocbmaaZPSortsRightx1
namespace Go.Proofs.Ytlplaidcdocbmaa.PSortsRight
open Go.RowKit Go.Proofs.YtlplaidcdocbmaaW.PrintWords Go.Proofs.YtlplaidcdocbmaaW.PrintLast Go.Proofs.YtlplaidcdocbmaaW.PrintMore
private abbrev fl_ (a b : Nat) : Array Bool := (List.replicate a true ++ List.replicate b false).toArray
private abbrev Y : Bool := true
private abbrev Z : Bool := false
open List renaming setIfInBounds_toArray → sl0, set_cons_zero → sl1, set_cons_succ → sl2
private theorem od_ {p : Prop} [Decidable p] (h : decide p = true := by first | (with_reducible assumption) | assumption) : p := of_decide_eq_true h
attribute [local go_sem] max2_int min2_int max_two min_two max_three min_three max_four min_four   -- for this text's walks alone
set_option linter.unusedVariables false
set_option linter.unusedSimpArgs false

/-! ### hypercuberef10_Right: function 40 -/
mutual
def hypercuberef10_Right.l0 : Nat → List (S49) → Int → List Int → List Int → Int → Option (Bool)
 | 0, _, _, _, _, _ => none
 | k + 1, x0, x1, x5, x6, x7 => if x7 < (x0.length : Int) then (if 0 ≤ x7 then (if x7 < (x5.length : Int) then (if ((rd_T49 x0 x7).f0) = (rd x5 x7) then (if x7 = 0 then (if ((rd_T49 x0 x7).f1) = (-1) then (if (rd_T49 x0 x7).f2 = true then (some false) else (hypercuberef10_Right.l0 k x0 x1 x5 x6 (wrap64 (x7 + 1)))) else (some false)) else ((hypercuberef8_Parents.f k ((rd_T49 x0 x7).f0) x1).bind fun t118 => ((hypercuberef10_in.f k t118 ((rd_T49 x0 x7).f1)).bind fun t121 => (if t121 = true then (if (rd_T49 x0 x7).f2 = true then ((hypercuberef10_in.f k x6 ((rd_T49 x0 x7).f1)).bind fun t122 => (hypercuberef10_Right.j1 k x0 x1 x5 x6 x7 t122 ((rd_T49 x0 x7).f0) ((rd_T49 x0 x7).f1) ((rd_T49 x0 x7).f2))) else (hypercuberef10_Right.j1 k x0 x1 x5 x6 x7 false ((rd_T49 x0 x7).f0) ((rd_T49 x0 x7).f1) ((rd_T49 x0 x7).f2))) else (hypercuberef10_Right.j1 k x0 x1 x5 x6 x7 true ((rd_T49 x0 x7).f0) ((rd_T49 x0 x7).f1) ((rd_T49 x0 x7).f2)))))) else (some false)) else (none)) else (none)) else (some true)
def hypercuberef10_Right.j1 : Nat → List (S49) → Int → List Int → List Int → Int → Bool → Int → Int → Bool → Option (Bool)
 | 0, _, _, _, _, _, _, _, _, _ => none
 | k + 1, x0, x1, x5, x6, x7, x59, x117000, x117001, x117002 => if x59 = true then (some false) else (if x117002 = true then (if x6.length < 17592186044416 then (hypercuberef10_Right.l0 k x0 x1 x5 (x6 ++ [x117001]) (wrap64 (x7 + 1))) else (none)) else (hypercuberef10_Right.l0 k x0 x1 x5 x6 (wrap64 (x7 + 1))))
end
def hypercuberef10_Right.f (k : Nat) (l0 : List (S49)) (a1 : Int) : Option (Bool) := (hypercuberef8_Sets.f k a1).bind fun t112 => (if (l0.length : Int) = (t112.length : Int) then (hypercuberef10_Right.l0 k l0 a1 t112 ([] : List Int) 0) else (some false))
def hypercuberef10_Right.T14 : Bool × List (List Nat × List Nat) := (true, [([], []), ([0], [0]), ([], []), ([1, 2], [1, 2]), ([], []), ([4], [4]), ([3, 5, 3], [3, 5]), ([6], [6]), ([7, 6], [7]), ([8], [8]), ([9, 8], [8, 9]), ([10, 8, 8], [8, 10]), ([11], [11]), ([11], [11]), ([13, 11], [11, 13]), ([12, 14, 11, 11], [11, 12, 14]), ([11, 15, 8], [8, 11, 15]), ([8, 16], [8, 16])])
def hypercuberef10_Right.B14 : List Nat := [0, 1, 0, 7, 0, 16, 63, 127, 255, 511, 1023, 2047, 4095, 4095, 12287, 32767, 65535, 131071]
theorem hypercuberef10_Right.tab14 : rtab .any (opsOf Try.f40 14) = hypercuberef10_Right.T14 := by kernel_rfl
theorem hypercuberef10_Right.bits14 : waitsOk hypercuberef10_Right.T14.2 hypercuberef10_Right.B14 = true := by kernel_rfl
set_option maxHeartbeats 8000000 in
set_option maxRecDepth 100000 in
theorem hypercuberef10_Right.calls (k : Nat) (A0 : Option Addr) (c0 : Nat) (l0 : List (S49)) (a1 : Int) (r : Bool) (w : World) (hr0 : Kd.C k49 w A0 l0.length l0) (hc0 : l0.length ≤ c0) (h : hypercuberef10_Right.f k l0 a1 = some r) :
 Calls Try.prog 40 #[.slice A0 l0.length c0, .int .i64 a1] w fun e w' => e = .returned (.bool r) ∧ Below w.heap.size w w' := by
 have hu49 := Try.underlying49
 have HR0 := Aside0.mk hr0
 have HC0 := Aside0.mk hc0
 clear hr0 hc0
 have HB := Aside0.mk (Below.refl w.heap.size w)
 have H : ((hypercuberef8_Sets.f k a1).bind fun t112 => (if (l0.length : Int) = (t112.length : Int) then (hypercuberef10_Right.l0 k l0 a1 t112 ([] : List Int) 0) else (some false))) = some r := h
 clear h
 replace H := Option.bind_eq_some_iff.mp H
 obtain ⟨t112, A30, H⟩ := H
 replace H : (if (l0.length : Int) = (t112.length : Int) then (hypercuberef10_Right.l0 k l0 a1 t112 ([] : List Int) 0) else (some false)) = some r := H
 have A3 := Aside0.mk A30
 clear A30
 by_cases c4 : (l0.length : Int) = (t112.length : Int)
 rotate_left
 ·rw [if_neg c4] at H
  have c4b0 : ((l0.length : Int) == (t112.length : Int)) = false := beq_eq_false_iff_ne.mpr c4
  have c4b1 : ((l0.length : Int) != (t112.length : Int)) = true := bne_iff_ne.mpr c4
  have c4b2 : (l0.length == t112.length) = false := by first | simpa using c4 | (simp at c4 ⊢; omega)
  obtain rfl := Option.some.inj H
  go_enter Try.func40, Try.ntmps40
  go_wp2_with (first | ((with_reducible refine gate_callee (f := 45) rfl ?_); refine goesL_ (some 10) rfl rfl Try.func45 (by kernel_rfl) rfl #[.int .i64 a1] rfl (by (try simp only [List.map_toArray, List.map_cons, List.map_nil]); first | done | rfl | (simp only [List.length_drop, List.length_take]; rfl)) ?_; (with_reducible refine (hypercuberef8_Sets.calls k a1 t112 _ A3.out).mono ?_); rintro e w61 ⟨v113, rfl, ho0, hb⟩; refine ⟨_, rfl, ?_⟩; have n0_ := Aside0.mk (Kd.R_lower ho0 (below_size (by repeat (first | (with_reducible first | exact HB.out | apply below_alloc | apply pw_below_drewN | apply below_drew1) | exact HB.out)))); have n1_ := Aside0.mk (below_step (by repeat (first | (with_reducible first | exact HB.out | apply below_alloc | apply pw_below_drewN | apply below_drew1) | exact HB.out)) hb); clear HB; have HO114 := n0_; have HB := n1_; clear n0_ n1_; (try clear hb); (try clear hb2); (try clear hk); (try clear hi); (try clear ho0); obtain ⟨Ao62, co62, eo62⟩ := Kd.R_slice HO114.out; subst eo62))
  go_ret
  exact ⟨by first | rfl | (simp [errW_none, errW_some] <;> rfl) | (simp [*, errW_none, errW_some] <;> rfl), by repeat (first | (with_reducible first | exact HB.out | apply below_alloc | apply pw_below_drewN | apply below_drew1) | exact HB.out)⟩
 rw [if_pos c4] at H
 have c4b0 : ((l0.length : Int) == (t112.length : Int)) = true := beq_iff_eq.mpr c4
 have c4b1 : ((l0.length : Int) != (t112.length : Int)) = false := bne_eq_false_iff_eq.mpr c4
 have c4b2 : (l0.length == t112.length) = true := by first | simpa using c4 | (simp at c4 ⊢; omega)
 clear c4
 have H' := Aside0.mk H
 clear H
 go_enter Try.func40, Try.ntmps40
 go_wp2_with (first | ((with_reducible refine gate_callee (f := 45) rfl ?_); refine goesL_ (some 10) rfl rfl Try.func45 (by kernel_rfl) rfl #[.int .i64 a1] rfl (by (try simp only [List.map_toArray, List.map_cons, List.map_nil]); first | done | rfl | (simp only [List.length_drop, List.length_take]; rfl)) ?_; (with_reducible refine (hypercuberef8_Sets.calls k a1 t112 _ A3.out).mono ?_); rintro e w5 ⟨v113, rfl, ho0, hb⟩; refine ⟨_, rfl, ?_⟩; have n0_ := Aside0.mk (Kd.R_lower ho0 (below_size (by repeat (first | (with_reducible first | exact HB.out | apply below_alloc | apply pw_below_drewN | apply below_drew1) | exact HB.out)))); have n1_ := Aside0.mk (below_step (by repeat (first | (with_reducible first | exact HB.out | apply below_alloc | apply pw_below_drewN | apply below_drew1) | exact HB.out)) hb); clear HB; have HO114 := n0_; have HB := n1_; clear n0_ n1_; (try clear hb); (try clear hb2); (try clear hk); (try clear hi); (try clear ho0); obtain ⟨Ao6, co6, eo6⟩ := Kd.R_slice HO114.out; subst eo6))
 go_loopg [6, 7] k (fun kq v6 v7 w' => ∃ (x6_1 : List Int) (x7_1 : Int), v7 = .int .i64 x7_1 ∧ Aside0 (hypercuberef10_Right.l0 kq l0 a1 t112 x6_1 x7_1 = some r) ∧ Aside0 (kq ≤ k) ∧ Aside0 (Kd.R (Kd.int .i64) 3 w' w.heap.size (fun k_ => some k_ ≠ (v6 : Value).ownBlock) (.slice Ao6 t112.length co6) t112) ∧ Aside0 (Kd.R (Kd.int .i64) 3 w' w.heap.size (fun k_ => some k_ ≠ ((.slice Ao6 t112.length co6) : Value).ownBlock) v6 x6_1) ∧ Aside0 (Below w.heap.size w w'))
 case atStart => exact ⟨(([] : List Int)), (0), (by first | rfl | (simp; done) | (simp [*]; done)), H', ⟨Nat.le_refl _⟩, ⟨by (with_reducible repeat (first | apply Kd.R_alloc | apply Kd.R_drewN | apply Kd.R_drew)); exact Kd.R_mono HO114.out (fun _ hk => (by simp [Value.ownBlock]))⟩, ⟨by first | exact Kd.R_nil _ _ _ _ _ | exact Kd.N_nil _ _ _ _ _ | exact Kd.V_nil _ _ _ _ _ | exact Kd.Q_nil _ _ _ _ _ | exact Kd.S_nil _ _ _ _ _⟩, ⟨by repeat (first | (with_reducible first | exact HB.out | apply below_alloc | apply pw_below_drewN | apply below_drew1) | exact HB.out)⟩⟩
 case round =>
  clear H'
  try clear p2
  try clear c4
  try clear c4b0
  try clear c4b1
  try clear c4b2
  obtain ⟨x6_1, x7_1, rfl, HA, HK1, HO_5, HO_6, HB⟩ := hrel
  cases gk with
  | zero => exact absurd HA.out (by simp [hypercuberef10_Right.l0])
  | succ k1 =>
   have H := HA.out
   clear HA
   simp only [hypercuberef10_Right.l0] at H
   by_cases c7 : x7_1 < (l0.length : Int)
   rotate_left
   ·rw [if_neg c7] at H
    have c7b0 : decide (x7_1 < (l0.length : Int)) = false := decide_eq_false c7
    clear c7
    obtain rfl := Option.some.inj H
    go_wp2
    go_ret
    exact ⟨by first | rfl | (simp [errW_none, errW_some] <;> rfl) | (simp [*, errW_none, errW_some] <;> rfl), by repeat (first | (with_reducible first | exact HB.out | apply below_alloc | apply pw_below_drewN | apply below_drew1) | exact HB.out)⟩
   rw [if_pos c7] at H
   have c7b0 : decide (x7_1 < (l0.length : Int)) = true := decide_eq_true c7
   clear c7
   by_cases c8 : 0 ≤ x7_1
   rotate_left
   ·rw [if_neg c8] at H
    exact absurd H (by simp)
   rw [if_pos c8] at H
   have c8b0 : decide (0 ≤ x7_1) = true := decide_eq_true c8
   clear c8
   by_cases c9 : x7_1 < (t112.length : Int)
   rotate_left
   ·rw [if_neg c9] at H
    exact absurd H (by simp)
   rw [if_pos c9] at H
   have c9b0 : decide (x7_1 < (t112.length : Int)) = true := decide_eq_true c9
   clear c9
   by_cases c10 : ((rd_T49 l0 x7_1).f0) = (rd t112 x7_1)
   rotate_left
   ·rw [if_neg c10] at H
    have c10b0 : (((rd_T49 l0 x7_1).f0) == (rd t112 x7_1)) = false := beq_eq_false_iff_ne.mpr c10
    have c10b1 : (((rd_T49 l0 x7_1).f0) != (rd t112 x7_1)) = true := bne_iff_ne.mpr c10
    obtain rfl := Option.some.inj H
    have p115 : 0 ≤ (x7_1 : Int) := od_
    have q115 : x7_1 < (l0.length : Int) := od_
    obtain ⟨ad115, e115, hx115_0, hx115_1, hx115_2⟩ := at_T49 HR0.out x7_1 p115 q115
    cases e115
    replace hx115_0 := (HB.out.cell (World.block_lt_of_cell? w _ hx115_0)).trans hx115_0
    replace hx115_1 := (HB.out.cell (World.block_lt_of_cell? w _ hx115_1)).trans hx115_1
    replace hx115_2 := (HB.out.cell (World.block_lt_of_cell? w _ hx115_2)).trans hx115_2
    replace p115 := eq_true p115
    replace q115 := eq_true q115
    try go_wp2_with (first | ((with_reducible refine gate_dst (N := 8) rfl ?_); refine box_event ?hg (N := 8) ?hd (cs := #[.int .i64 0, .int .i64 0, .bool false]) (t := 49) ?hr ?_; (case hd => rfl); (case hg => rfl); (case hr => first | (go_simp; done) | (go_simp; rfl)); intro gb116 hg w57 hbox hb; have n0_ := Aside0.mk (Kd.R_below (by (with_reducible repeat (first | apply Kd.R_alloc | apply Kd.R_drewN | apply Kd.R_drew)); exact HO_5.out) hb); have n1_ := Aside0.mk (Kd.R_below (by (with_reducible repeat (first | apply Kd.R_alloc | apply Kd.R_drewN | apply Kd.R_drew)); exact HO_6.out) hb); have n2_ := Aside0.mk (below_step (by repeat (first | (with_reducible first | exact HB.out | apply below_alloc | apply pw_below_drewN | apply below_drew1) | exact HB.out)) hb); have n3_ := Aside0.mk (hbox); have n4_ := Aside0.mk ((by rw [hg]; exact (below_size (by repeat (first | (with_reducible first | exact HB.out | apply below_alloc | apply pw_below_drewN | apply below_drew1) | exact HB.out))) : w.heap.size ≤ gb116)); have n5_ := Aside0.mk ((by rw [hg]; exact (below_size (by repeat (first | (with_reducible first | exact HB.out | apply below_alloc | apply pw_below_drewN | apply below_drew1) | exact HB.out))) : w.heap.size ≤ gb116)); clear HO_5; clear HO_6; clear HB; have HO_5 := n0_; have HO_6 := n1_; have HB := n2_; have BK116 := n3_; have GW116 := n4_; have GE116 := n5_; clear n0_ n1_ n2_ n3_ n4_ n5_; clear hb hbox hg; have hcz58_0 : w57.cell? ⟨gb116, 0, none⟩ = some (.int .i64 0) := (blk_cell BK116.out 0).trans rfl; have hcz58_1 : w57.cell? ⟨gb116, 1, none⟩ = some (.int .i64 0) := (blk_cell BK116.out 1).trans rfl; have hcz58_2 : w57.cell? ⟨gb116, 2, none⟩ = some (.bool false) := (blk_cell BK116.out 2).trans (by first | exact rfl | (rw [← Nbq38.out]; exact rfl)); have hfz58_0 := blk_frozen BK116.out 0; have hfz58_1 := blk_frozen BK116.out 1; have hfz58_2 := blk_frozen BK116.out 2))
    have n0_ : Aside0 (Kd.R (Kd.int .i64) 3 (((w57.setCell ⟨gb116, 0, none⟩ (.int .i64 ((rd_T49 l0 x7_1).f0))).setCell ⟨gb116, 1, none⟩ (.int .i64 ((rd_T49 l0 x7_1).f1))).setCell ⟨gb116, 2, none⟩ (.bool ((rd_T49 l0 x7_1).f2))) w.heap.size (fun k_ => some k_ ≠ (u6 : Value).ownBlock) (.slice Ao6 t112.length co6) t112) := ⟨by (with_reducible repeat (first | apply Kd.R_alloc | apply Kd.R_drewN | apply Kd.R_drew)); exact Kd.R_mono (Kd.R_far (p := ⟨gb116, 2, none⟩) (Kd.R_far (p := ⟨gb116, 1, none⟩) (Kd.R_far (p := ⟨gb116, 0, none⟩) (Kd.R_types HO_5.out BK116.out (by decide)) (fun _ hk => hk.2) (.int .i64 ((rd_T49 l0 x7_1).f0))) (fun _ hk => hk.2) (.int .i64 ((rd_T49 l0 x7_1).f1))) (fun _ hk => hk.2) (.bool ((rd_T49 l0 x7_1).f2))) (fun _ hk => hk.1)⟩
    have n1_ : Aside0 (Kd.R (Kd.int .i64) 3 (((w57.setCell ⟨gb116, 0, none⟩ (.int .i64 ((rd_T49 l0 x7_1).f0))).setCell ⟨gb116, 1, none⟩ (.int .i64 ((rd_T49 l0 x7_1).f1))).setCell ⟨gb116, 2, none⟩ (.bool ((rd_T49 l0 x7_1).f2))) w.heap.size (fun k_ => some k_ ≠ (.slice Ao6 t112.length co6 : Value).ownBlock) u6 x6_1) := ⟨by (with_reducible repeat (first | apply Kd.R_alloc | apply Kd.R_drewN | apply Kd.R_drew)); exact Kd.R_mono (Kd.R_far (p := ⟨gb116, 2, none⟩) (Kd.R_far (p := ⟨gb116, 1, none⟩) (Kd.R_far (p := ⟨gb116, 0, none⟩) (Kd.R_types HO_6.out BK116.out (by decide)) (fun _ hk => hk.2) (.int .i64 ((rd_T49 l0 x7_1).f0))) (fun _ hk => hk.2) (.int .i64 ((rd_T49 l0 x7_1).f1))) (fun _ hk => hk.2) (.bool ((rd_T49 l0 x7_1).f2))) (fun _ hk => hk.1)⟩
    have n2_ : Aside0 ((((w57.setCell ⟨gb116, 0, none⟩ (.int .i64 ((rd_T49 l0 x7_1).f0))).setCell ⟨gb116, 1, none⟩ (.int .i64 ((rd_T49 l0 x7_1).f1))).setCell ⟨gb116, 2, none⟩ (.bool ((rd_T49 l0 x7_1).f2))).heap[gb116]? = some (.cells #[.int .i64 ((rd_T49 l0 x7_1).f0), .int .i64 ((rd_T49 l0 x7_1).f1), .bool ((rd_T49 l0 x7_1).f2)] 49 (0, 0))) := ⟨by (with_reducible repeat (first | refine blk_drewN ?_ _ | refine blk_drew ?_ | refine blk_alloc ?_ _)); refine blk_put (cs := #[.int .i64 ((rd_T49 l0 x7_1).f0), .int .i64 ((rd_T49 l0 x7_1).f1), .bool false]) ?_ 2 _ rfl; (with_reducible repeat (first | refine blk_drewN ?_ _ | refine blk_drew ?_ | refine blk_alloc ?_ _)); refine blk_put (cs := #[.int .i64 ((rd_T49 l0 x7_1).f0), .int .i64 0, .bool false]) ?_ 1 _ rfl; (with_reducible repeat (first | refine blk_drewN ?_ _ | refine blk_drew ?_ | refine blk_alloc ?_ _)); refine blk_put (cs := #[.int .i64 0, .int .i64 0, .bool false]) ?_ 0 _ rfl; (with_reducible repeat (first | refine blk_drewN ?_ _ | refine blk_drew ?_ | refine blk_alloc ?_ _)); exact BK116.out⟩
    have n3_ : Aside0 (Below w.heap.size w (((w57.setCell ⟨gb116, 0, none⟩ (.int .i64 ((rd_T49 l0 x7_1).f0))).setCell ⟨gb116, 1, none⟩ (.int .i64 ((rd_T49 l0 x7_1).f1))).setCell ⟨gb116, 2, none⟩ (.bool ((rd_T49 l0 x7_1).f2)))) := ⟨by repeat (first | (with_reducible first | exact HB.out | apply below_alloc | apply pw_below_drewN | apply below_drew1 | refine below_set ?_ GE116.out) | exact HB.out)⟩
    (try clear HO_5)
    (try clear HO_6)
    (try clear BK116)
    (try clear HB)
    generalize (((w57.setCell ⟨gb116, 0, none⟩ (.int .i64 ((rd_T49 l0 x7_1).f0))).setCell ⟨gb116, 1, none⟩ (.int .i64 ((rd_T49 l0 x7_1).f1))).setCell ⟨gb116, 2, none⟩ (.bool ((rd_T49 l0 x7_1).f2))) = w59 at n0_ n1_ n2_ n3_ ⊢
    have HO_5 := n0_
    have HO_6 := n1_
    have BK116 := n2_
    have HB := n3_
    clear n0_ n1_ n2_ n3_
    have n0_ := Aside0.mk (Kd.R_drew HO_5.out)
    have n1_ := Aside0.mk (Kd.R_drew HO_6.out)
    have n2_ := Aside0.mk (blk_drew BK116.out)
    have n3_ := Aside0.mk (below_drew1 HB.out)
    clear HO_5
    clear HO_6
    clear BK116
    clear HB
    have HO_5 := n0_
    have HO_6 := n1_
    have BK116 := n2_
    have HB := n3_
    clear n0_ n1_ n2_ n3_
    have p117 : 0 ≤ (x7_1 : Int) := od_
    have q117 : x7_1 < (t112.length : Int) := od_
    obtain ⟨ad117, e117, hx117_0⟩ := Kd.at_int (Kd.R_reads' HO_5.out).2.2 x7_1 p117 q117
    cases e117
    replace p117 := eq_true p117
    replace q117 := eq_true q117
    refine start_ (n := 7) (S := fun w' => w'.cell? ⟨gb116, 0, none⟩ = some (.int .i64 ((rd_T49 l0 x7_1).f0)) ∧ w'.cell? ⟨gb116, 1, none⟩ = some (.int .i64 ((rd_T49 l0 x7_1).f1)) ∧ w'.cell? ⟨gb116, 2, none⟩ = some (.bool ((rd_T49 l0 x7_1).f2)) ∧ w'.cell? (ad117.add (x7_1).toNat) = some (.int .i64 (rd t112 x7_1))) (ds := []) (fl_ 0 7) (by kernel_rfl) rfl rfl ⟨(blk_cell BK116.out 0).trans rfl, (blk_cell BK116.out 1).trans rfl, (blk_cell BK116.out 2).trans (by first | exact rfl | (rw [← Nbq38.out]; exact rfl)), hx117_0⟩ (fun hHeld => ?_)
    generalize w59.drew = w60 at HO_5 HO_6 BK116 HB hx117_0 hHeld ⊢
    refine pure_ (i := 0) (N := some 26) (v := ?_) (a' := ?_) (fl_ 1 6) rfl rfl (by kernel_rfl) (fun _ _ _ h => h) (Or.inl ⟨by rfl, ?_⟩) ?_ ?_
    rotate_left
    ·intro w'
     go_simp
     with_reducible rfl
    rotate_left
    ·simp only [Act.put, sl0, sl1, sl2, i64_w, i32_w]
     rfl
    refine pure_ (i := 2) (N := some 28) (v := ?_) (a' := ?_) #[Y,Z,Y,Z,Z,Z,Z] rfl rfl (by kernel_rfl) (fun _ _ _ h => h) (Or.inl ⟨by rfl, ?_⟩) ?_ ?_
    rotate_left
    ·intro w'
     go_simp
     with_reducible rfl
    rotate_left
    ·simp only [Act.put, sl0, sl1, sl2, i64_w, i32_w]
     rfl
    refine pure_ (i := 3) (N := some 29) (v := ?_) (a' := ?_) #[Y,Z,Y,Y,Z,Z,Z] rfl rfl (by kernel_rfl) (fun _ _ _ h => h) (Or.inl ⟨by rfl, ?_⟩) ?_ ?_
    rotate_left
    ·intro w'
     go_simp
     with_reducible rfl
    rotate_left
    ·simp only [Act.put, sl0, sl1, sl2, i64_w, i32_w]
     rfl
    refine pure_ (i := 4) (N := some 30) (v := ?_) (a' := ?_) #[Y,Z,Y,Y,Y,Z,Z] rfl rfl (by kernel_rfl) (fun _ _ _ h => h) (Or.inl ⟨by rfl, ?_⟩) ?_ ?_
    rotate_left
    ·intro w'
     go_simp
     with_reducible rfl
    rotate_left
    ·simp only [Act.put, sl0, sl1, sl2, i64_w, i32_w]
     rfl
    refine take_ (i := 1) (N := some 27) (v := ?_) (a' := ?_) (fl_ 5 2) rfl rfl (by kernel_rfl) (fun _ _ _ h => h) (Or.inl ⟨by rfl, ?_⟩) hHeld ?_ ?_
    rotate_left
    ·rintro w' ⟨s0, s1, s2, s3⟩
     go_simp
     with_reducible rfl
    rotate_left
    ·simp only [Act.put, sl0, sl1, sl2, i64_w, i32_w]
     rfl
    refine take_ (i := 5) (N := some 31) (v := ?_) (a' := ?_) (fl_ 6 1) rfl rfl (by kernel_rfl) (fun _ _ _ h => h) (Or.inl ⟨by rfl, ?_⟩) hHeld ?_ ?_
    rotate_left
    ·rintro w' ⟨s0, s1, s2, s3⟩
     go_simp
     with_reducible rfl
    rotate_left
    ·simp only [Act.put, sl0, sl1, sl2, i64_w, i32_w]
     rfl
    refine pure_ (i := 6) (N := some 32) (v := ?_) (a' := ?_) (fl_ 7 0) rfl rfl (by kernel_rfl) (fun _ _ _ h => h) (Or.inl ⟨by rfl, ?_⟩) ?_ ?_
    rotate_left
    ·intro w'
     go_simp
     with_reducible rfl
    rotate_left
    ·simp only [Act.put, sl0, sl1, sl2, i64_w, i32_w]
     rfl
    refine done_ (by kernel_rfl) ?_
    try go_wp2
    go_ret
    exact ⟨by first | rfl | (simp [errW_none, errW_some] <;> rfl) | (simp [*, errW_none, errW_some] <;> rfl), by repeat (first | (with_reducible first | exact HB.out | apply below_alloc | apply pw_below_drewN | apply below_drew1 | refine below_set ?_ GE116.out) | exact HB.out)⟩
   rw [if_pos c10] at H
   have c10b0 : (((rd_T49 l0 x7_1).f0) == (rd t112 x7_1)) = true := beq_iff_eq.mpr c10
   have c10b1 : (((rd_T49 l0 x7_1).f0) != (rd t112 x7_1)) = false := bne_eq_false_iff_eq.mpr c10
   clear c10
   by_cases c11 : x7_1 = 0
   ·rw [if_pos c11] at H
    have c11b0 : (x7_1 == 0) = true := beq_iff_eq.mpr c11
    have c11b1 : (x7_1 != 0) = false := bne_eq_false_iff_eq.mpr c11
    clear c11
    by_cases c12 : ((rd_T49 l0 x7_1).f1) = (-1)
    rotate_left
    ·rw [if_neg c12] at H
     have c12b0 : (((rd_T49 l0 x7_1).f1) == (-1)) = false := beq_eq_false_iff_ne.mpr c12
     have c12b1 : (((rd_T49 l0 x7_1).f1) != (-1)) = true := bne_iff_ne.mpr c12
     obtain rfl := Option.some.inj H
     have p115 : 0 ≤ (x7_1 : Int) := od_
     have q115 : x7_1 < (l0.length : Int) := od_
     obtain ⟨ad115, e115, hx115_0, hx115_1, hx115_2⟩ := at_T49 HR0.out x7_1 p115 q115
     cases e115
     replace hx115_0 := (HB.out.cell (World.block_lt_of_cell? w _ hx115_0)).trans hx115_0
     replace hx115_1 := (HB.out.cell (World.block_lt_of_cell? w _ hx115_1)).trans hx115_1
     replace hx115_2 := (HB.out.cell (World.block_lt_of_cell? w _ hx115_2)).trans hx115_2
     replace p115 := eq_true p115
     replace q115 := eq_true q115
     try go_wp2_with (first | ((with_reducible refine gate_dst (N := 8) rfl ?_); refine box_event ?hg (N := 8) ?hd (cs := #[.int .i64 0, .int .i64 0, .bool false]) (t := 49) ?hr ?_; (case hd => rfl); (case hg => rfl); (case hr => first | (go_simp; done) | (go_simp; rfl)); intro gb116 hg w25 hbox hb; have n0_ := Aside0.mk (Kd.R_below (by (with_reducible repeat (first | apply Kd.R_alloc | apply Kd.R_drewN | apply Kd.R_drew)); exact HO_5.out) hb); have n1_ := Aside0.mk (Kd.R_below (by (with_reducible repeat (first | apply Kd.R_alloc | apply Kd.R_drewN | apply Kd.R_drew)); exact HO_6.out) hb); have n2_ := Aside0.mk (below_step (by repeat (first | (with_reducible first | exact HB.out | apply below_alloc | apply pw_below_drewN | apply below_drew1) | exact HB.out)) hb); have n3_ := Aside0.mk (hbox); have n4_ := Aside0.mk ((by rw [hg]; exact (below_size (by repeat (first | (with_reducible first | exact HB.out | apply below_alloc | apply pw_below_drewN | apply below_drew1) | exact HB.out))) : w.heap.size ≤ gb116)); have n5_ := Aside0.mk ((by rw [hg]; exact (below_size (by repeat (first | (with_reducible first | exact HB.out | apply below_alloc | apply pw_below_drewN | apply below_drew1) | exact HB.out))) : w.heap.size ≤ gb116)); clear HO_5; clear HO_6; clear HB; have HO_5 := n0_; have HO_6 := n1_; have HB := n2_; have BK116 := n3_; have GW116 := n4_; have GE116 := n5_; clear n0_ n1_ n2_ n3_ n4_ n5_; clear hb hbox hg; have hcz26_0 : w25.cell? ⟨gb116, 0, none⟩ = some (.int .i64 0) := (blk_cell BK116.out 0).trans rfl; have hcz26_1 : w25.cell? ⟨gb116, 1, none⟩ = some (.int .i64 0) := (blk_cell BK116.out 1).trans rfl; have hcz26_2 : w25.cell? ⟨gb116, 2, none⟩ = some (.bool false) := (blk_cell BK116.out 2).trans (by first | exact rfl | (rw [← Nbq38.out]; exact rfl)); have hfz26_0 := blk_frozen BK116.out 0; have hfz26_1 := blk_frozen BK116.out 1; have hfz26_2 := blk_frozen BK116.out 2))
     have n0_ : Aside0 (Kd.R (Kd.int .i64) 3 (((w25.setCell ⟨gb116, 0, none⟩ (.int .i64 ((rd_T49 l0 x7_1).f0))).setCell ⟨gb116, 1, none⟩ (.int .i64 ((rd_T49 l0 x7_1).f1))).setCell ⟨gb116, 2, none⟩ (.bool ((rd_T49 l0 x7_1).f2))) w.heap.size (fun k_ => some k_ ≠ (u6 : Value).ownBlock) (.slice Ao6 t112.length co6) t112) := ⟨by (with_reducible repeat (first | apply Kd.R_alloc | apply Kd.R_drewN | apply Kd.R_drew)); exact Kd.R_mono (Kd.R_far (p := ⟨gb116, 2, none⟩) (Kd.R_far (p := ⟨gb116, 1, none⟩) (Kd.R_far (p := ⟨gb116, 0, none⟩) (Kd.R_types HO_5.out BK116.out (by decide)) (fun _ hk => hk.2) (.int .i64 ((rd_T49 l0 x7_1).f0))) (fun _ hk => hk.2) (.int .i64 ((rd_T49 l0 x7_1).f1))) (fun _ hk => hk.2) (.bool ((rd_T49 l0 x7_1).f2))) (fun _ hk => hk.1)⟩
     have n1_ : Aside0 (Kd.R (Kd.int .i64) 3 (((w25.setCell ⟨gb116, 0, none⟩ (.int .i64 ((rd_T49 l0 x7_1).f0))).setCell ⟨gb116, 1, none⟩ (.int .i64 ((rd_T49 l0 x7_1).f1))).setCell ⟨gb116, 2, none⟩ (.bool ((rd_T49 l0 x7_1).f2))) w.heap.size (fun k_ => some k_ ≠ (.slice Ao6 t112.length co6 : Value).ownBlock) u6 x6_1) := ⟨by (with_reducible repeat (first | apply Kd.R_alloc | apply Kd.R_drewN | apply Kd.R_drew)); exact Kd.R_mono (Kd.R_far (p := ⟨gb116, 2, none⟩) (Kd.R_far (p := ⟨gb116, 1, none⟩) (Kd.R_far (p := ⟨gb116, 0, none⟩) (Kd.R_types HO_6.out BK116.out (by decide)) (fun _ hk => hk.2) (.int .i64 ((rd_T49 l0 x7_1).f0))) (fun _ hk => hk.2) (.int .i64 ((rd_T49 l0 x7_1).f1))) (fun _ hk => hk.2) (.bool ((rd_T49 l0 x7_1).f2))) (fun _ hk => hk.1)⟩
     have n2_ : Aside0 ((((w25.setCell ⟨gb116, 0, none⟩ (.int .i64 ((rd_T49 l0 x7_1).f0))).setCell ⟨gb116, 1, none⟩ (.int .i64 ((rd_T49 l0 x7_1).f1))).setCell ⟨gb116, 2, none⟩ (.bool ((rd_T49 l0 x7_1).f2))).heap[gb116]? = some (.cells #[.int .i64 ((rd_T49 l0 x7_1).f0), .int .i64 ((rd_T49 l0 x7_1).f1), .bool ((rd_T49 l0 x7_1).f2)] 49 (0, 0))) := ⟨by (with_reducible repeat (first | refine blk_drewN ?_ _ | refine blk_drew ?_ | refine blk_alloc ?_ _)); refine blk_put (cs := #[.int .i64 ((rd_T49 l0 x7_1).f0), .int .i64 ((rd_T49 l0 x7_1).f1), .bool false]) ?_ 2 _ rfl; (with_reducible repeat (first | refine blk_drewN ?_ _ | refine blk_drew ?_ | refine blk_alloc ?_ _)); refine blk_put (cs := #[.int .i64 ((rd_T49 l0 x7_1).f0), .int .i64 0, .bool false]) ?_ 1 _ rfl; (with_reducible repeat (first | refine blk_drewN ?_ _ | refine blk_drew ?_ | refine blk_alloc ?_ _)); refine blk_put (cs := #[.int .i64 0, .int .i64 0, .bool false]) ?_ 0 _ rfl; (with_reducible repeat (first | refine blk_drewN ?_ _ | refine blk_drew ?_ | refine blk_alloc ?_ _)); exact BK116.out⟩
     have n3_ : Aside0 (Below w.heap.size w (((w25.setCell ⟨gb116, 0, none⟩ (.int .i64 ((rd_T49 l0 x7_1).f0))).setCell ⟨gb116, 1, none⟩ (.int .i64 ((rd_T49 l0 x7_1).f1))).setCell ⟨gb116, 2, none⟩ (.bool ((rd_T49 l0 x7_1).f2)))) := ⟨by repeat (first | (with_reducible first | exact HB.out | apply below_alloc | apply pw_below_drewN | apply below_drew1 | refine below_set ?_ GE116.out) | exact HB.out)⟩
     (try clear HO_5)
     (try clear HO_6)
     (try clear BK116)
     (try clear HB)
     generalize (((w25.setCell ⟨gb116, 0, none⟩ (.int .i64 ((rd_T49 l0 x7_1).f0))).setCell ⟨gb116, 1, none⟩ (.int .i64 ((rd_T49 l0 x7_1).f1))).setCell ⟨gb116, 2, none⟩ (.bool ((rd_T49 l0 x7_1).f2))) = w27 at n0_ n1_ n2_ n3_ ⊢
     have HO_5 := n0_
     have HO_6 := n1_
     have BK116 := n2_
     have HB := n3_
     clear n0_ n1_ n2_ n3_
     have n0_ := Aside0.mk (Kd.R_drew HO_5.out)
     have n1_ := Aside0.mk (Kd.R_drew HO_6.out)
     have n2_ := Aside0.mk (blk_drew BK116.out)
     have n3_ := Aside0.mk (below_drew1 HB.out)
     clear HO_5
     clear HO_6
     clear BK116
     clear HB
     have HO_5 := n0_
     have HO_6 := n1_
     have BK116 := n2_
     have HB := n3_
     clear n0_ n1_ n2_ n3_
     have p117 : 0 ≤ (x7_1 : Int) := od_
     have q117 : x7_1 < (t112.length : Int) := od_
     obtain ⟨ad117, e117, hx117_0⟩ := Kd.at_int (Kd.R_reads' HO_5.out).2.2 x7_1 p117 q117
     cases e117
     replace p117 := eq_true p117
     replace q117 := eq_true q117
     refine start_ (n := 7) (S := fun w' => w'.cell? ⟨gb116, 0, none⟩ = some (.int .i64 ((rd_T49 l0 x7_1).f0)) ∧ w'.cell? ⟨gb116, 1, none⟩ = some (.int .i64 ((rd_T49 l0 x7_1).f1)) ∧ w'.cell? ⟨gb116, 2, none⟩ = some (.bool ((rd_T49 l0 x7_1).f2)) ∧ w'.cell? (ad117.add (x7_1).toNat) = some (.int .i64 (rd t112 x7_1))) (ds := []) (fl_ 0 7) (by kernel_rfl) rfl rfl ⟨(blk_cell BK116.out 0).trans rfl, (blk_cell BK116.out 1).trans rfl, (blk_cell BK116.out 2).trans (by first | exact rfl | (rw [← Nbq38.out]; exact rfl)), hx117_0⟩ (fun hHeld => ?_)
     generalize w27.drew = w28 at HO_5 HO_6 BK116 HB hx117_0 hHeld ⊢
     refine pure_ (i := 0) (N := some 26) (v := ?_) (a' := ?_) (fl_ 1 6) rfl rfl (by kernel_rfl) (fun _ _ _ h => h) (Or.inl ⟨by rfl, ?_⟩) ?_ ?_
     rotate_left
     ·intro w'
      go_simp
      with_reducible rfl
     rotate_left
     ·simp only [Act.put, sl0, sl1, sl2, i64_w, i32_w]
      rfl
     refine pure_ (i := 2) (N := some 28) (v := ?_) (a' := ?_) #[Y,Z,Y,Z,Z,Z,Z] rfl rfl (by kernel_rfl) (fun _ _ _ h => h) (Or.inl ⟨by rfl, ?_⟩) ?_ ?_
     rotate_left
     ·intro w'
      go_simp
      with_reducible rfl
     rotate_left
     ·simp only [Act.put, sl0, sl1, sl2, i64_w, i32_w]
      rfl
     refine pure_ (i := 3) (N := some 29) (v := ?_) (a' := ?_) #[Y,Z,Y,Y,Z,Z,Z] rfl rfl (by kernel_rfl) (fun _ _ _ h => h) (Or.inl ⟨by rfl, ?_⟩) ?_ ?_
     rotate_left
     ·intro w'
      go_simp
      with_reducible rfl
     rotate_left
     ·simp only [Act.put, sl0, sl1, sl2, i64_w, i32_w]
      rfl
     refine pure_ (i := 4) (N := some 30) (v := ?_) (a' := ?_) #[Y,Z,Y,Y,Y,Z,Z] rfl rfl (by kernel_rfl) (fun _ _ _ h => h) (Or.inl ⟨by rfl, ?_⟩) ?_ ?_
     rotate_left
     ·intro w'
      go_simp
      with_reducible rfl
     rotate_left
     ·simp only [Act.put, sl0, sl1, sl2, i64_w, i32_w]
      rfl
     refine take_ (i := 1) (N := some 27) (v := ?_) (a' := ?_) (fl_ 5 2) rfl rfl (by kernel_rfl) (fun _ _ _ h => h) (Or.inl ⟨by rfl, ?_⟩) hHeld ?_ ?_
     rotate_left
     ·rintro w' ⟨s0, s1, s2, s3⟩
      go_simp
      with_reducible rfl
     rotate_left
     ·simp only [Act.put, sl0, sl1, sl2, i64_w, i32_w]
      rfl
     refine take_ (i := 5) (N := some 31) (v := ?_) (a' := ?_) (fl_ 6 1) rfl rfl (by kernel_rfl) (fun _ _ _ h => h) (Or.inl ⟨by rfl, ?_⟩) hHeld ?_ ?_
     rotate_left
     ·rintro w' ⟨s0, s1, s2, s3⟩
      go_simp
      with_reducible rfl
     rotate_left
     ·simp only [Act.put, sl0, sl1, sl2, i64_w, i32_w]
      rfl
     refine pure_ (i := 6) (N := some 32) (v := ?_) (a' := ?_) (fl_ 7 0) rfl rfl (by kernel_rfl) (fun _ _ _ h => h) (Or.inl ⟨by rfl, ?_⟩) ?_ ?_
     rotate_left
     ·intro w'
      go_simp
      with_reducible rfl
     rotate_left
     ·simp only [Act.put, sl0, sl1, sl2, i64_w, i32_w]
      rfl
     refine done_ (by kernel_rfl) ?_
     have hcz29_0 : w28.cell? ⟨gb116, 0, none⟩ = some (.int .i64 ((rd_T49 l0 x7_1).f0)) := (blk_cell BK116.out 0).trans rfl
     have hcz29_1 : w28.cell? ⟨gb116, 1, none⟩ = some (.int .i64 ((rd_T49 l0 x7_1).f1)) := (blk_cell BK116.out 1).trans rfl
     have hcz29_2 : w28.cell? ⟨gb116, 2, none⟩ = some (.bool ((rd_T49 l0 x7_1).f2)) := (blk_cell BK116.out 2).trans (by first | exact rfl | (rw [← Nbq38.out]; exact rfl))
     have hfz29_0 := blk_frozen BK116.out 0
     have hfz29_1 := blk_frozen BK116.out 1
     have hfz29_2 := blk_frozen BK116.out 2
     try go_wp2
     go_ret
     exact ⟨by first | rfl | (simp [errW_none, errW_some] <;> rfl) | (simp [*, errW_none, errW_some] <;> rfl), by repeat (first | (with_reducible first | exact HB.out | apply below_alloc | apply pw_below_drewN | apply below_drew1 | refine below_set ?_ GE116.out) | exact HB.out)⟩
    rw [if_pos c12] at H
    have c12b0 : (((rd_T49 l0 x7_1).f1) == (-1)) = true := beq_iff_eq.mpr c12
    have c12b1 : (((rd_T49 l0 x7_1).f1) != (-1)) = false := bne_eq_false_iff_eq.mpr c12
    clear c12
    obtain ⟨bq13, hbq13⟩ : ∃ b_ : Bool, b_ = ((rd_T49 l0 x7_1).f2) := ⟨_, rfl⟩
    replace H : (if bq13 = true then (some false) else (hypercuberef10_Right.l0 k1 l0 a1 t112 x6_1 (wrap64 (x7_1 + 1)))) = some r := by rw [← hbq13] at H; exact H
    have Nbq13 := Aside0.mk hbq13
    clear hbq13
    by_cases c14 : bq13 = true
    ·subst c14
     have H1 : (some false) = some r := by rw [if_pos rfl] at H; exact H
     clear H
     have H := H1
     clear H1
     obtain rfl := Option.some.inj H
     have p115 : 0 ≤ (x7_1 : Int) := od_
     have q115 : x7_1 < (l0.length : Int) := od_
     obtain ⟨ad115, e115, hx115_0, hx115_1, hx115_2⟩ := at_T49 HR0.out x7_1 p115 q115
     (try rw [← Nbq13.out] at hx115_2)
     cases e115
     replace hx115_0 := (HB.out.cell (World.block_lt_of_cell? w _ hx115_0)).trans hx115_0
     replace hx115_1 := (HB.out.cell (World.block_lt_of_cell? w _ hx115_1)).trans hx115_1
     replace hx115_2 := (HB.out.cell (World.block_lt_of_cell? w _ hx115_2)).trans hx115_2
     replace p115 := eq_true p115
     replace q115 := eq_true q115
     try go_wp2_with (first | ((with_reducible refine gate_dst (N := 8) rfl ?_); refine box_event ?hg (N := 8) ?hd (cs := #[.int .i64 0, .int .i64 0, .bool false]) (t := 49) ?hr ?_; (case hd => rfl); (case hg => rfl); (case hr => first | (go_simp; done) | (go_simp; rfl)); intro gb116 hg w15 hbox hb; have n0_ := Aside0.mk (Kd.R_below (by (with_reducible repeat (first | apply Kd.R_alloc | apply Kd.R_drewN | apply Kd.R_drew)); exact HO_5.out) hb); have n1_ := Aside0.mk (Kd.R_below (by (with_reducible repeat (first | apply Kd.R_alloc | apply Kd.R_drewN | apply Kd.R_drew)); exact HO_6.out) hb); have n2_ := Aside0.mk (below_step (by repeat (first | (with_reducible first | exact HB.out | apply below_alloc | apply pw_below_drewN | apply below_drew1) | exact HB.out)) hb); have n3_ := Aside0.mk (hbox); have n4_ := Aside0.mk ((by rw [hg]; exact (below_size (by repeat (first | (with_reducible first | exact HB.out | apply below_alloc | apply pw_below_drewN | apply below_drew1) | exact HB.out))) : w.heap.size ≤ gb116)); have n5_ := Aside0.mk ((by rw [hg]; exact (below_size (by repeat (first | (with_reducible first | exact HB.out | apply below_alloc | apply pw_below_drewN | apply below_drew1) | exact HB.out))) : w.heap.size ≤ gb116)); clear HO_5; clear HO_6; clear HB; have HO_5 := n0_; have HO_6 := n1_; have HB := n2_; have BK116 := n3_; have GW116 := n4_; have GE116 := n5_; clear n0_ n1_ n2_ n3_ n4_ n5_; clear hb hbox hg; have hcz16_0 : w15.cell? ⟨gb116, 0, none⟩ = some (.int .i64 0) := (blk_cell BK116.out 0).trans rfl; have hcz16_1 : w15.cell? ⟨gb116, 1, none⟩ = some (.int .i64 0) := (blk_cell BK116.out 1).trans rfl; have hcz16_2 : w15.cell? ⟨gb116, 2, none⟩ = some (.bool false) := (blk_cell BK116.out 2).trans (by first | exact rfl | (rw [← Nbq38.out]; exact rfl)); have hfz16_0 := blk_frozen BK116.out 0; have hfz16_1 := blk_frozen BK116.out 1; have hfz16_2 := blk_frozen BK116.out 2))
     have n0_ : Aside0 (Kd.R (Kd.int .i64) 3 (((w15.setCell ⟨gb116, 0, none⟩ (.int .i64 ((rd_T49 l0 x7_1).f0))).setCell ⟨gb116, 1, none⟩ (.int .i64 ((rd_T49 l0 x7_1).f1))).setCell ⟨gb116, 2, none⟩ (.bool true)) w.heap.size (fun k_ => some k_ ≠ (u6 : Value).ownBlock) (.slice Ao6 t112.length co6) t112) := ⟨by (with_reducible repeat (first | apply Kd.R_alloc | apply Kd.R_drewN | apply Kd.R_drew)); exact Kd.R_mono (Kd.R_far (p := ⟨gb116, 2, none⟩) (Kd.R_far (p := ⟨gb116, 1, none⟩) (Kd.R_far (p := ⟨gb116, 0, none⟩) (Kd.R_types HO_5.out BK116.out (by decide)) (fun _ hk => hk.2) (.int .i64 ((rd_T49 l0 x7_1).f0))) (fun _ hk => hk.2) (.int .i64 ((rd_T49 l0 x7_1).f1))) (fun _ hk => hk.2) (.bool true)) (fun _ hk => hk.1)⟩
     have n1_ : Aside0 (Kd.R (Kd.int .i64) 3 (((w15.setCell ⟨gb116, 0, none⟩ (.int .i64 ((rd_T49 l0 x7_1).f0))).setCell ⟨gb116, 1, none⟩ (.int .i64 ((rd_T49 l0 x7_1).f1))).setCell ⟨gb116, 2, none⟩ (.bool true)) w.heap.size (fun k_ => some k_ ≠ (.slice Ao6 t112.length co6 : Value).ownBlock) u6 x6_1) := ⟨by (with_reducible repeat (first | apply Kd.R_alloc | apply Kd.R_drewN | apply Kd.R_drew)); exact Kd.R_mono (Kd.R_far (p := ⟨gb116, 2, none⟩) (Kd.R_far (p := ⟨gb116, 1, none⟩) (Kd.R_far (p := ⟨gb116, 0, none⟩) (Kd.R_types HO_6.out BK116.out (by decide)) (fun _ hk => hk.2) (.int .i64 ((rd_T49 l0 x7_1).f0))) (fun _ hk => hk.2) (.int .i64 ((rd_T49 l0 x7_1).f1))) (fun _ hk => hk.2) (.bool true)) (fun _ hk => hk.1)⟩
     have n2_ : Aside0 ((((w15.setCell ⟨gb116, 0, none⟩ (.int .i64 ((rd_T49 l0 x7_1).f0))).setCell ⟨gb116, 1, none⟩ (.int .i64 ((rd_T49 l0 x7_1).f1))).setCell ⟨gb116, 2, none⟩ (.bool true)).heap[gb116]? = some (.cells #[.int .i64 ((rd_T49 l0 x7_1).f0), .int .i64 ((rd_T49 l0 x7_1).f1), .bool true] 49 (0, 0))) := ⟨by (with_reducible repeat (first | refine blk_drewN ?_ _ | refine blk_drew ?_ | refine blk_alloc ?_ _)); refine blk_put (cs := #[.int .i64 ((rd_T49 l0 x7_1).f0), .int .i64 ((rd_T49 l0 x7_1).f1), .bool false]) ?_ 2 _ rfl; (with_reducible repeat (first | refine blk_drewN ?_ _ | refine blk_drew ?_ | refine blk_alloc ?_ _)); refine blk_put (cs := #[.int .i64 ((rd_T49 l0 x7_1).f0), .int .i64 0, .bool false]) ?_ 1 _ rfl; (with_reducible repeat (first | refine blk_drewN ?_ _ | refine blk_drew ?_ | refine blk_alloc ?_ _)); refine blk_put (cs := #[.int .i64 0, .int .i64 0, .bool false]) ?_ 0 _ rfl; (with_reducible repeat (first | refine blk_drewN ?_ _ | refine blk_drew ?_ | refine blk_alloc ?_ _)); exact BK116.out⟩
     have n3_ : Aside0 (Below w.heap.size w (((w15.setCell ⟨gb116, 0, none⟩ (.int .i64 ((rd_T49 l0 x7_1).f0))).setCell ⟨gb116, 1, none⟩ (.int .i64 ((rd_T49 l0 x7_1).f1))).setCell ⟨gb116, 2, none⟩ (.bool true))) := ⟨by repeat (first | (with_reducible first | exact HB.out | apply below_alloc | apply pw_below_drewN | apply below_drew1 | refine below_set ?_ GE116.out) | exact HB.out)⟩
     (try clear HO_5)
     (try clear HO_6)
     (try clear BK116)
     (try clear HB)
     generalize (((w15.setCell ⟨gb116, 0, none⟩ (.int .i64 ((rd_T49 l0 x7_1).f0))).setCell ⟨gb116, 1, none⟩ (.int .i64 ((rd_T49 l0 x7_1).f1))).setCell ⟨gb116, 2, none⟩ (.bool true)) = w17 at n0_ n1_ n2_ n3_ ⊢
     have HO_5 := n0_
     have HO_6 := n1_
     have BK116 := n2_
     have HB := n3_
     clear n0_ n1_ n2_ n3_
     have n0_ := Aside0.mk (Kd.R_drew HO_5.out)
     have n1_ := Aside0.mk (Kd.R_drew HO_6.out)
     have n2_ := Aside0.mk (blk_drew BK116.out)
     have n3_ := Aside0.mk (below_drew1 HB.out)
     clear HO_5
     clear HO_6
     clear BK116
     clear HB
     have HO_5 := n0_
     have HO_6 := n1_
     have BK116 := n2_
     have HB := n3_
     clear n0_ n1_ n2_ n3_
     have p117 : 0 ≤ (x7_1 : Int) := od_
     have q117 : x7_1 < (t112.length : Int) := od_
     obtain ⟨ad117, e117, hx117_0⟩ := Kd.at_int (Kd.R_reads' HO_5.out).2.2 x7_1 p117 q117
     cases e117
     replace p117 := eq_true p117
     replace q117 := eq_true q117
     refine start_ (n := 7) (S := fun w' => w'.cell? ⟨gb116, 0, none⟩ = some (.int .i64 ((rd_T49 l0 x7_1).f0)) ∧ w'.cell? ⟨gb116, 1, none⟩ = some (.int .i64 ((rd_T49 l0 x7_1).f1)) ∧ w'.cell? ⟨gb116, 2, none⟩ = some (.bool true) ∧ w'.cell? (ad117.add (x7_1).toNat) = some (.int .i64 (rd t112 x7_1))) (ds := []) (fl_ 0 7) (by kernel_rfl) rfl rfl ⟨(blk_cell BK116.out 0).trans rfl, (blk_cell BK116.out 1).trans rfl, (blk_cell BK116.out 2).trans (by first | exact rfl | (rw [← Nbq38.out]; exact rfl)), hx117_0⟩ (fun hHeld => ?_)
     generalize w17.drew = w18 at HO_5 HO_6 BK116 HB hx117_0 hHeld ⊢
     refine pure_ (i := 0) (N := some 26) (v := ?_) (a' := ?_) (fl_ 1 6) rfl rfl (by kernel_rfl) (fun _ _ _ h => h) (Or.inl ⟨by rfl, ?_⟩) ?_ ?_
     rotate_left
     ·intro w'
      go_simp
      with_reducible rfl
     rotate_left
     ·simp only [Act.put, sl0, sl1, sl2, i64_w, i32_w]
      rfl
     refine pure_ (i := 2) (N := some 28) (v := ?_) (a' := ?_) #[Y,Z,Y,Z,Z,Z,Z] rfl rfl (by kernel_rfl) (fun _ _ _ h => h) (Or.inl ⟨by rfl, ?_⟩) ?_ ?_
     rotate_left
     ·intro w'
      go_simp
      with_reducible rfl
     rotate_left
     ·simp only [Act.put, sl0, sl1, sl2, i64_w, i32_w]
      rfl
     refine pure_ (i := 3) (N := some 29) (v := ?_) (a' := ?_) #[Y,Z,Y,Y,Z,Z,Z] rfl rfl (by kernel_rfl) (fun _ _ _ h => h) (Or.inl ⟨by rfl, ?_⟩) ?_ ?_
     rotate_left
     ·intro w'
      go_simp
      with_reducible rfl
     rotate_left
     ·simp only [Act.put, sl0, sl1, sl2, i64_w, i32_w]
      rfl
     refine pure_ (i := 4) (N := some 30) (v := ?_) (a' := ?_) #[Y,Z,Y,Y,Y,Z,Z] rfl rfl (by kernel_rfl) (fun _ _ _ h => h) (Or.inl ⟨by rfl, ?_⟩) ?_ ?_
     rotate_left
     ·intro w'
      go_simp
      with_reducible rfl
     rotate_left
     ·simp only [Act.put, sl0, sl1, sl2, i64_w, i32_w]
      rfl
     refine take_ (i := 1) (N := some 27) (v := ?_) (a' := ?_) (fl_ 5 2) rfl rfl (by kernel_rfl) (fun _ _ _ h => h) (Or.inl ⟨by rfl, ?_⟩) hHeld ?_ ?_
     rotate_left
     ·rintro w' ⟨s0, s1, s2, s3⟩
      go_simp
      with_reducible rfl
     rotate_left
     ·simp only [Act.put, sl0, sl1, sl2, i64_w, i32_w]
      rfl
     refine take_ (i := 5) (N := some 31) (v := ?_) (a' := ?_) (fl_ 6 1) rfl rfl (by kernel_rfl) (fun _ _ _ h => h) (Or.inl ⟨by rfl, ?_⟩) hHeld ?_ ?_
     rotate_left
     ·rintro w' ⟨s0, s1, s2, s3⟩
      go_simp
      with_reducible rfl
     rotate_left
     ·simp only [Act.put, sl0, sl1, sl2, i64_w, i32_w]
      rfl
     refine pure_ (i := 6) (N := some 32) (v := ?_) (a' := ?_) (fl_ 7 0) rfl rfl (by kernel_rfl) (fun _ _ _ h => h) (Or.inl ⟨by rfl, ?_⟩) ?_ ?_
     rotate_left
     ·intro w'
      go_simp
      with_reducible rfl
     rotate_left
     ·simp only [Act.put, sl0, sl1, sl2, i64_w, i32_w]
      rfl
     refine done_ (by kernel_rfl) ?_
     have hcz19_0 : w18.cell? ⟨gb116, 0, none⟩ = some (.int .i64 ((rd_T49 l0 x7_1).f0)) := (blk_cell BK116.out 0).trans rfl
     have hcz19_1 : w18.cell? ⟨gb116, 1, none⟩ = some (.int .i64 ((rd_T49 l0 x7_1).f1)) := (blk_cell BK116.out 1).trans rfl
     have hcz19_2 : w18.cell? ⟨gb116, 2, none⟩ = some (.bool true) := (blk_cell BK116.out 2).trans (by first | exact rfl | (rw [← Nbq38.out]; exact rfl))
     have hfz19_0 := blk_frozen BK116.out 0
     have hfz19_1 := blk_frozen BK116.out 1
     have hfz19_2 := blk_frozen BK116.out 2
     try go_wp2
     go_ret
     exact ⟨by first | rfl | (simp [errW_none, errW_some] <;> rfl) | (simp [*, errW_none, errW_some] <;> rfl), by repeat (first | (with_reducible first | exact HB.out | apply below_alloc | apply pw_below_drewN | apply below_drew1 | refine below_set ?_ GE116.out) | exact HB.out)⟩
    replace c14 := Bool.eq_false_iff.mpr c14
    subst c14
    have H1 : (hypercuberef10_Right.l0 k1 l0 a1 t112 x6_1 (wrap64 (x7_1 + 1))) = some r := by rw [if_neg (show ¬ (false = true) by decide)] at H; exact H
    clear H
    have H := H1
    clear H1
    have H' := Aside0.mk H
    clear H
    have p115 : 0 ≤ (x7_1 : Int) := od_
    have q115 : x7_1 < (l0.length : Int) := od_
    obtain ⟨ad115, e115, hx115_0, hx115_1, hx115_2⟩ := at_T49 HR0.out x7_1 p115 q115
    (try rw [← Nbq13.out] at hx115_2)
    cases e115
    replace hx115_0 := (HB.out.cell (World.block_lt_of_cell? w _ hx115_0)).trans hx115_0
    replace hx115_1 := (HB.out.cell (World.block_lt_of_cell? w _ hx115_1)).trans hx115_1
    replace hx115_2 := (HB.out.cell (World.block_lt_of_cell? w _ hx115_2)).trans hx115_2
    replace p115 := eq_true p115
    replace q115 := eq_true q115
    try go_wp2_with (first | ((with_reducible refine gate_dst (N := 8) rfl ?_); refine box_event ?hg (N := 8) ?hd (cs := #[.int .i64 0, .int .i64 0, .bool false]) (t := 49) ?hr ?_; (case hd => rfl); (case hg => rfl); (case hr => first | (go_simp; done) | (go_simp; rfl)); intro gb116 hg w20 hbox hb; have n0_ := Aside0.mk (Kd.R_below (by (with_reducible repeat (first | apply Kd.R_alloc | apply Kd.R_drewN | apply Kd.R_drew)); exact HO_5.out) hb); have n1_ := Aside0.mk (Kd.R_below (by (with_reducible repeat (first | apply Kd.R_alloc | apply Kd.R_drewN | apply Kd.R_drew)); exact HO_6.out) hb); have n2_ := Aside0.mk (below_step (by repeat (first | (with_reducible first | exact HB.out | apply below_alloc | apply pw_below_drewN | apply below_drew1) | exact HB.out)) hb); have n3_ := Aside0.mk (hbox); have n4_ := Aside0.mk ((by rw [hg]; exact (below_size (by repeat (first | (with_reducible first | exact HB.out | apply below_alloc | apply pw_below_drewN | apply below_drew1) | exact HB.out))) : w.heap.size ≤ gb116)); have n5_ := Aside0.mk ((by rw [hg]; exact (below_size (by repeat (first | (with_reducible first | exact HB.out | apply below_alloc | apply pw_below_drewN | apply below_drew1) | exact HB.out))) : w.heap.size ≤ gb116)); clear HO_5; clear HO_6; clear HB; have HO_5 := n0_; have HO_6 := n1_; have HB := n2_; have BK116 := n3_; have GW116 := n4_; have GE116 := n5_; clear n0_ n1_ n2_ n3_ n4_ n5_; clear hb hbox hg; have hcz21_0 : w20.cell? ⟨gb116, 0, none⟩ = some (.int .i64 0) := (blk_cell BK116.out 0).trans rfl; have hcz21_1 : w20.cell? ⟨gb116, 1, none⟩ = some (.int .i64 0) := (blk_cell BK116.out 1).trans rfl; have hcz21_2 : w20.cell? ⟨gb116, 2, none⟩ = some (.bool false) := (blk_cell BK116.out 2).trans (by first | exact rfl | (rw [← Nbq38.out]; exact rfl)); have hfz21_0 := blk_frozen BK116.out 0; have hfz21_1 := blk_frozen BK116.out 1; have hfz21_2 := blk_frozen BK116.out 2))
    have n0_ : Aside0 (Kd.R (Kd.int .i64) 3 (((w20.setCell ⟨gb116, 0, none⟩ (.int .i64 ((rd_T49 l0 x7_1).f0))).setCell ⟨gb116, 1, none⟩ (.int .i64 ((rd_T49 l0 x7_1).f1))).setCell ⟨gb116, 2, none⟩ (.bool false)) w.heap.size (fun k_ => some k_ ≠ (u6 : Value).ownBlock) (.slice Ao6 t112.length co6) t112) := ⟨by (with_reducible repeat (first | apply Kd.R_alloc | apply Kd.R_drewN | apply Kd.R_drew)); exact Kd.R_mono (Kd.R_far (p := ⟨gb116, 2, none⟩) (Kd.R_far (p := ⟨gb116, 1, none⟩) (Kd.R_far (p := ⟨gb116, 0, none⟩) (Kd.R_types HO_5.out BK116.out (by decide)) (fun _ hk => hk.2) (.int .i64 ((rd_T49 l0 x7_1).f0))) (fun _ hk => hk.2) (.int .i64 ((rd_T49 l0 x7_1).f1))) (fun _ hk => hk.2) (.bool false)) (fun _ hk => hk.1)⟩
    have n1_ : Aside0 (Kd.R (Kd.int .i64) 3 (((w20.setCell ⟨gb116, 0, none⟩ (.int .i64 ((rd_T49 l0 x7_1).f0))).setCell ⟨gb116, 1, none⟩ (.int .i64 ((rd_T49 l0 x7_1).f1))).setCell ⟨gb116, 2, none⟩ (.bool false)) w.heap.size (fun k_ => some k_ ≠ (.slice Ao6 t112.length co6 : Value).ownBlock) u6 x6_1) := ⟨by (with_reducible repeat (first | apply Kd.R_alloc | apply Kd.R_drewN | apply Kd.R_drew)); exact Kd.R_mono (Kd.R_far (p := ⟨gb116, 2, none⟩) (Kd.R_far (p := ⟨gb116, 1, none⟩) (Kd.R_far (p := ⟨gb116, 0, none⟩) (Kd.R_types HO_6.out BK116.out (by decide)) (fun _ hk => hk.2) (.int .i64 ((rd_T49 l0 x7_1).f0))) (fun _ hk => hk.2) (.int .i64 ((rd_T49 l0 x7_1).f1))) (fun _ hk => hk.2) (.bool false)) (fun _ hk => hk.1)⟩
    have n2_ : Aside0 ((((w20.setCell ⟨gb116, 0, none⟩ (.int .i64 ((rd_T49 l0 x7_1).f0))).setCell ⟨gb116, 1, none⟩ (.int .i64 ((rd_T49 l0 x7_1).f1))).setCell ⟨gb116, 2, none⟩ (.bool false)).heap[gb116]? = some (.cells #[.int .i64 ((rd_T49 l0 x7_1).f0), .int .i64 ((rd_T49 l0 x7_1).f1), .bool false] 49 (0, 0))) := ⟨by (with_reducible repeat (first | refine blk_drewN ?_ _ | refine blk_drew ?_ | refine blk_alloc ?_ _)); refine blk_put (cs := #[.int .i64 ((rd_T49 l0 x7_1).f0), .int .i64 ((rd_T49 l0 x7_1).f1), .bool false]) ?_ 2 _ rfl; (with_reducible repeat (first | refine blk_drewN ?_ _ | refine blk_drew ?_ | refine blk_alloc ?_ _)); refine blk_put (cs := #[.int .i64 ((rd_T49 l0 x7_1).f0), .int .i64 0, .bool false]) ?_ 1 _ rfl; (with_reducible repeat (first | refine blk_drewN ?_ _ | refine blk_drew ?_ | refine blk_alloc ?_ _)); refine blk_put (cs := #[.int .i64 0, .int .i64 0, .bool false]) ?_ 0 _ rfl; (with_reducible repeat (first | refine blk_drewN ?_ _ | refine blk_drew ?_ | refine blk_alloc ?_ _)); exact BK116.out⟩
    have n3_ : Aside0 (Below w.heap.size w (((w20.setCell ⟨gb116, 0, none⟩ (.int .i64 ((rd_T49 l0 x7_1).f0))).setCell ⟨gb116, 1, none⟩ (.int .i64 ((rd_T49 l0 x7_1).f1))).setCell ⟨gb116, 2, none⟩ (.bool false))) := ⟨by repeat (first | (with_reducible first | exact HB.out | apply below_alloc | apply pw_below_drewN | apply below_drew1 | refine below_set ?_ GE116.out) | exact HB.out)⟩
    (try clear HO_5)
    (try clear HO_6)
    (try clear BK116)
    (try clear HB)
    generalize (((w20.setCell ⟨gb116, 0, none⟩ (.int .i64 ((rd_T49 l0 x7_1).f0))).setCell ⟨gb116, 1, none⟩ (.int .i64 ((rd_T49 l0 x7_1).f1))).setCell ⟨gb116, 2, none⟩ (.bool false)) = w22 at n0_ n1_ n2_ n3_ ⊢
    have HO_5 := n0_
    have HO_6 := n1_
    have BK116 := n2_
    have HB := n3_
    clear n0_ n1_ n2_ n3_
    have n0_ := Aside0.mk (Kd.R_drew HO_5.out)
    have n1_ := Aside0.mk (Kd.R_drew HO_6.out)
    have n2_ := Aside0.mk (blk_drew BK116.out)
    have n3_ := Aside0.mk (below_drew1 HB.out)
    clear HO_5
    clear HO_6
    clear BK116
    clear HB
    have HO_5 := n0_
    have HO_6 := n1_
    have BK116 := n2_
    have HB := n3_
    clear n0_ n1_ n2_ n3_
    have p117 : 0 ≤ (x7_1 : Int) := od_
    have q117 : x7_1 < (t112.length : Int) := od_
    obtain ⟨ad117, e117, hx117_0⟩ := Kd.at_int (Kd.R_reads' HO_5.out).2.2 x7_1 p117 q117
    cases e117
    replace p117 := eq_true p117
    replace q117 := eq_true q117
    refine start_ (n := 7) (S := fun w' => w'.cell? ⟨gb116, 0, none⟩ = some (.int .i64 ((rd_T49 l0 x7_1).f0)) ∧ w'.cell? ⟨gb116, 1, none⟩ = some (.int .i64 ((rd_T49 l0 x7_1).f1)) ∧ w'.cell? ⟨gb116, 2, none⟩ = some (.bool false) ∧ w'.cell? (ad117.add (x7_1).toNat) = some (.int .i64 (rd t112 x7_1))) (ds := []) (fl_ 0 7) (by kernel_rfl) rfl rfl ⟨(blk_cell BK116.out 0).trans rfl, (blk_cell BK116.out 1).trans rfl, (blk_cell BK116.out 2).trans (by first | exact rfl | (rw [← Nbq38.out]; exact rfl)), hx117_0⟩ (fun hHeld => ?_)
    generalize w22.drew = w23 at HO_5 HO_6 BK116 HB hx117_0 hHeld ⊢
    refine pure_ (i := 0) (N := some 26) (v := ?_) (a' := ?_) (fl_ 1 6) rfl rfl (by kernel_rfl) (fun _ _ _ h => h) (Or.inl ⟨by rfl, ?_⟩) ?_ ?_
    rotate_left
    ·intro w'
     go_simp
     with_reducible rfl
    rotate_left
    ·simp only [Act.put, sl0, sl1, sl2, i64_w, i32_w]
     rfl
    refine pure_ (i := 2) (N := some 28) (v := ?_) (a' := ?_) #[Y,Z,Y,Z,Z,Z,Z] rfl rfl (by kernel_rfl) (fun _ _ _ h => h) (Or.inl ⟨by rfl, ?_⟩) ?_ ?_
    rotate_left
    ·intro w'
     go_simp
     with_reducible rfl
    rotate_left
    ·simp only [Act.put, sl0, sl1, sl2, i64_w, i32_w]
     rfl
    refine pure_ (i := 3) (N := some 29) (v := ?_) (a' := ?_) #[Y,Z,Y,Y,Z,Z,Z] rfl rfl (by kernel_rfl) (fun _ _ _ h => h) (Or.inl ⟨by rfl, ?_⟩) ?_ ?_
    rotate_left
    ·intro w'
     go_simp
     with_reducible rfl
    rotate_left
    ·simp only [Act.put, sl0, sl1, sl2, i64_w, i32_w]
     rfl
    refine pure_ (i := 4) (N := some 30) (v := ?_) (a' := ?_) #[Y,Z,Y,Y,Y,Z,Z] rfl rfl (by kernel_rfl) (fun _ _ _ h => h) (Or.inl ⟨by rfl, ?_⟩) ?_ ?_
    rotate_left
    ·intro w'
     go_simp
     with_reducible rfl
    rotate_left
    ·simp only [Act.put, sl0, sl1, sl2, i64_w, i32_w]
     rfl
    refine take_ (i := 1) (N := some 27) (v := ?_) (a' := ?_) (fl_ 5 2) rfl rfl (by kernel_rfl) (fun _ _ _ h => h) (Or.inl ⟨by rfl, ?_⟩) hHeld ?_ ?_
    rotate_left
    ·rintro w' ⟨s0, s1, s2, s3⟩
     go_simp
     with_reducible rfl
    rotate_left
    ·simp only [Act.put, sl0, sl1, sl2, i64_w, i32_w]
     rfl
    refine take_ (i := 5) (N := some 31) (v := ?_) (a' := ?_) (fl_ 6 1) rfl rfl (by kernel_rfl) (fun _ _ _ h => h) (Or.inl ⟨by rfl, ?_⟩) hHeld ?_ ?_
    rotate_left
    ·rintro w' ⟨s0, s1, s2, s3⟩
     go_simp
     with_reducible rfl
    rotate_left
    ·simp only [Act.put, sl0, sl1, sl2, i64_w, i32_w]
     rfl
    refine pure_ (i := 6) (N := some 32) (v := ?_) (a' := ?_) (fl_ 7 0) rfl rfl (by kernel_rfl) (fun _ _ _ h => h) (Or.inl ⟨by rfl, ?_⟩) ?_ ?_
    rotate_left
    ·intro w'
     go_simp
     with_reducible rfl
    rotate_left
    ·simp only [Act.put, sl0, sl1, sl2, i64_w, i32_w]
     rfl
    refine done_ (by kernel_rfl) ?_
    have hcz24_0 : w23.cell? ⟨gb116, 0, none⟩ = some (.int .i64 ((rd_T49 l0 x7_1).f0)) := (blk_cell BK116.out 0).trans rfl
    have hcz24_1 : w23.cell? ⟨gb116, 1, none⟩ = some (.int .i64 ((rd_T49 l0 x7_1).f1)) := (blk_cell BK116.out 1).trans rfl
    have hcz24_2 : w23.cell? ⟨gb116, 2, none⟩ = some (.bool false) := (blk_cell BK116.out 2).trans (by first | exact rfl | (rw [← Nbq38.out]; exact rfl))
    have hfz24_0 := blk_frozen BK116.out 0
    have hfz24_1 := blk_frozen BK116.out 1
    have hfz24_2 := blk_frozen BK116.out 2
    try go_wp2
    go_roundg k1
    case measure => have := HK1.out; omega
    case rel => exact ⟨(x6_1), (wrap64 (x7_1 + 1)), (by first | rfl | (simp; done) | (simp [*]; done)), H', ⟨by have := HK1.out; omega⟩, ⟨by (with_reducible repeat (first | apply Kd.R_alloc | apply Kd.R_drewN | apply Kd.R_drew)); exact HO_5.out⟩, ⟨by (with_reducible repeat (first | apply Kd.R_alloc | apply Kd.R_drewN | apply Kd.R_drew)); exact HO_6.out⟩, ⟨by repeat (first | (with_reducible first | exact HB.out | apply below_alloc | apply pw_below_drewN | apply below_drew1 | refine below_set ?_ GE116.out) | exact HB.out)⟩⟩
   rw [if_neg c11] at H
   have c11b0 : (x7_1 == 0) = false := beq_eq_false_iff_ne.mpr c11
   have c11b1 : (x7_1 != 0) = true := bne_iff_ne.mpr c11
   have HC30 := Aside0.mk H
   clear H
   have p115 : 0 ≤ (x7_1 : Int) := od_
   have q115 : x7_1 < (l0.length : Int) := od_
   obtain ⟨ad115, e115, hx115_0, hx115_1, hx115_2⟩ := at_T49 HR0.out x7_1 p115 q115
   cases e115
   replace hx115_0 := (HB.out.cell (World.block_lt_of_cell? w _ hx115_0)).trans hx115_0
   replace hx115_1 := (HB.out.cell (World.block_lt_of_cell? w _ hx115_1)).trans hx115_1
   replace hx115_2 := (HB.out.cell (World.block_lt_of_cell? w _ hx115_2)).trans hx115_2
   replace p115 := eq_true p115
   replace q115 := eq_true q115
   try go_wp2_with (first | ((with_reducible refine gate_dst (N := 8) rfl ?_); refine box_event ?hg (N := 8) ?hd (cs := #[.int .i64 0, .int .i64 0, .bool false]) (t := 49) ?hr ?_; (case hd => rfl); (case hg => rfl); (case hr => first | (go_simp; done) | (go_simp; rfl)); intro gb116 hg w31 hbox hb; have n0_ := Aside0.mk (Kd.R_below (by (with_reducible repeat (first | apply Kd.R_alloc | apply Kd.R_drewN | apply Kd.R_drew)); exact HO_5.out) hb); have n1_ := Aside0.mk (Kd.R_below (by (with_reducible repeat (first | apply Kd.R_alloc | apply Kd.R_drewN | apply Kd.R_drew)); exact HO_6.out) hb); have n2_ := Aside0.mk (below_step (by repeat (first | (with_reducible first | exact HB.out | apply below_alloc | apply pw_below_drewN | apply below_drew1) | exact HB.out)) hb); have n3_ := Aside0.mk (hbox); have n4_ := Aside0.mk ((by rw [hg]; exact (below_size (by repeat (first | (with_reducible first | exact HB.out | apply below_alloc | apply pw_below_drewN | apply below_drew1) | exact HB.out))) : w.heap.size ≤ gb116)); have n5_ := Aside0.mk ((by rw [hg]; exact (below_size (by repeat (first | (with_reducible first | exact HB.out | apply below_alloc | apply pw_below_drewN | apply below_drew1) | exact HB.out))) : w.heap.size ≤ gb116)); clear HO_5; clear HO_6; clear HB; have HO_5 := n0_; have HO_6 := n1_; have HB := n2_; have BK116 := n3_; have GW116 := n4_; have GE116 := n5_; clear n0_ n1_ n2_ n3_ n4_ n5_; clear hb hbox hg; have hcz32_0 : w31.cell? ⟨gb116, 0, none⟩ = some (.int .i64 0) := (blk_cell BK116.out 0).trans rfl; have hcz32_1 : w31.cell? ⟨gb116, 1, none⟩ = some (.int .i64 0) := (blk_cell BK116.out 1).trans rfl; have hcz32_2 : w31.cell? ⟨gb116, 2, none⟩ = some (.bool false) := (blk_cell BK116.out 2).trans (by first | exact rfl | (rw [← Nbq38.out]; exact rfl)); have hfz32_0 := blk_frozen BK116.out 0; have hfz32_1 := blk_frozen BK116.out 1; have hfz32_2 := blk_frozen BK116.out 2))
   have n0_ : Aside0 (Kd.R (Kd.int .i64) 3 (((w31.setCell ⟨gb116, 0, none⟩ (.int .i64 ((rd_T49 l0 x7_1).f0))).setCell ⟨gb116, 1, none⟩ (.int .i64 ((rd_T49 l0 x7_1).f1))).setCell ⟨gb116, 2, none⟩ (.bool ((rd_T49 l0 x7_1).f2))) w.heap.size (fun k_ => some k_ ≠ (u6 : Value).ownBlock) (.slice Ao6 t112.length co6) t112) := ⟨by (with_reducible repeat (first | apply Kd.R_alloc | apply Kd.R_drewN | apply Kd.R_drew)); exact Kd.R_mono (Kd.R_far (p := ⟨gb116, 2, none⟩) (Kd.R_far (p := ⟨gb116, 1, none⟩) (Kd.R_far (p := ⟨gb116, 0, none⟩) (Kd.R_types HO_5.out BK116.out (by decide)) (fun _ hk => hk.2) (.int .i64 ((rd_T49 l0 x7_1).f0))) (fun _ hk => hk.2) (.int .i64 ((rd_T49 l0 x7_1).f1))) (fun _ hk => hk.2) (.bool ((rd_T49 l0 x7_1).f2))) (fun _ hk => hk.1)⟩
   have n1_ : Aside0 (Kd.R (Kd.int .i64) 3 (((w31.setCell ⟨gb116, 0, none⟩ (.int .i64 ((rd_T49 l0 x7_1).f0))).setCell ⟨gb116, 1, none⟩ (.int .i64 ((rd_T49 l0 x7_1).f1))).setCell ⟨gb116, 2, none⟩ (.bool ((rd_T49 l0 x7_1).f2))) w.heap.size (fun k_ => some k_ ≠ (.slice Ao6 t112.length co6 : Value).ownBlock) u6 x6_1) := ⟨by (with_reducible repeat (first | apply Kd.R_alloc | apply Kd.R_drewN | apply Kd.R_drew)); exact Kd.R_mono (Kd.R_far (p := ⟨gb116, 2, none⟩) (Kd.R_far (p := ⟨gb116, 1, none⟩) (Kd.R_far (p := ⟨gb116, 0, none⟩) (Kd.R_types HO_6.out BK116.out (by decide)) (fun _ hk => hk.2) (.int .i64 ((rd_T49 l0 x7_1).f0))) (fun _ hk => hk.2) (.int .i64 ((rd_T49 l0 x7_1).f1))) (fun _ hk => hk.2) (.bool ((rd_T49 l0 x7_1).f2))) (fun _ hk => hk.1)⟩
   have n2_ : Aside0 ((((w31.setCell ⟨gb116, 0, none⟩ (.int .i64 ((rd_T49 l0 x7_1).f0))).setCell ⟨gb116, 1, none⟩ (.int .i64 ((rd_T49 l0 x7_1).f1))).setCell ⟨gb116, 2, none⟩ (.bool ((rd_T49 l0 x7_1).f2))).heap[gb116]? = some (.cells #[.int .i64 ((rd_T49 l0 x7_1).f0), .int .i64 ((rd_T49 l0 x7_1).f1), .bool ((rd_T49 l0 x7_1).f2)] 49 (0, 0))) := ⟨by (with_reducible repeat (first | refine blk_drewN ?_ _ | refine blk_drew ?_ | refine blk_alloc ?_ _)); refine blk_put (cs := #[.int .i64 ((rd_T49 l0 x7_1).f0), .int .i64 ((rd_T49 l0 x7_1).f1), .bool false]) ?_ 2 _ rfl; (with_reducible repeat (first | refine blk_drewN ?_ _ | refine blk_drew ?_ | refine blk_alloc ?_ _)); refine blk_put (cs := #[.int .i64 ((rd_T49 l0 x7_1).f0), .int .i64 0, .bool false]) ?_ 1 _ rfl; (with_reducible repeat (first | refine blk_drewN ?_ _ | refine blk_drew ?_ | refine blk_alloc ?_ _)); refine blk_put (cs := #[.int .i64 0, .int .i64 0, .bool false]) ?_ 0 _ rfl; (with_reducible repeat (first | refine blk_drewN ?_ _ | refine blk_drew ?_ | refine blk_alloc ?_ _)); exact BK116.out⟩
   have n3_ : Aside0 (Below w.heap.size w (((w31.setCell ⟨gb116, 0, none⟩ (.int .i64 ((rd_T49 l0 x7_1).f0))).setCell ⟨gb116, 1, none⟩ (.int .i64 ((rd_T49 l0 x7_1).f1))).setCell ⟨gb116, 2, none⟩ (.bool ((rd_T49 l0 x7_1).f2)))) := ⟨by repeat (first | (with_reducible first | exact HB.out | apply below_alloc | apply pw_below_drewN | apply below_drew1 | refine below_set ?_ GE116.out) | exact HB.out)⟩
   (try clear HO_5)
   (try clear HO_6)
   (try clear BK116)
   (try clear HB)
   generalize (((w31.setCell ⟨gb116, 0, none⟩ (.int .i64 ((rd_T49 l0 x7_1).f0))).setCell ⟨gb116, 1, none⟩ (.int .i64 ((rd_T49 l0 x7_1).f1))).setCell ⟨gb116, 2, none⟩ (.bool ((rd_T49 l0 x7_1).f2))) = w33 at n0_ n1_ n2_ n3_ ⊢
   have HO_5 := n0_
   have HO_6 := n1_
   have BK116 := n2_
   have HB := n3_
   clear n0_ n1_ n2_ n3_
   have n0_ := Aside0.mk (Kd.R_drew HO_5.out)
   have n1_ := Aside0.mk (Kd.R_drew HO_6.out)
   have n2_ := Aside0.mk (blk_drew BK116.out)
   have n3_ := Aside0.mk (below_drew1 HB.out)
   clear HO_5
   clear HO_6
   clear BK116
   clear HB
   have HO_5 := n0_
   have HO_6 := n1_
   have BK116 := n2_
   have HB := n3_
   clear n0_ n1_ n2_ n3_
   have p117 : 0 ≤ (x7_1 : Int) := od_
   have q117 : x7_1 < (t112.length : Int) := od_
   obtain ⟨ad117, e117, hx117_0⟩ := Kd.at_int (Kd.R_reads' HO_5.out).2.2 x7_1 p117 q117
   cases e117
   replace p117 := eq_true p117
   replace q117 := eq_true q117
   refine start_ (n := 7) (S := fun w' => w'.cell? ⟨gb116, 0, none⟩ = some (.int .i64 ((rd_T49 l0 x7_1).f0)) ∧ w'.cell? ⟨gb116, 1, none⟩ = some (.int .i64 ((rd_T49 l0 x7_1).f1)) ∧ w'.cell? ⟨gb116, 2, none⟩ = some (.bool ((rd_T49 l0 x7_1).f2)) ∧ w'.cell? (ad117.add (x7_1).toNat) = some (.int .i64 (rd t112 x7_1))) (ds := []) (fl_ 0 7) (by kernel_rfl) rfl rfl ⟨(blk_cell BK116.out 0).trans rfl, (blk_cell BK116.out 1).trans rfl, (blk_cell BK116.out 2).trans (by first | exact rfl | (rw [← Nbq38.out]; exact rfl)), hx117_0⟩ (fun hHeld => ?_)
   generalize w33.drew = w34 at HO_5 HO_6 BK116 HB hx117_0 hHeld ⊢
   refine pure_ (i := 0) (N := some 26) (v := ?_) (a' := ?_) (fl_ 1 6) rfl rfl (by kernel_rfl) (fun _ _ _ h => h) (Or.inl ⟨by rfl, ?_⟩) ?_ ?_
   rotate_left
   ·intro w'
    go_simp
    with_reducible rfl
   rotate_left
   ·simp only [Act.put, sl0, sl1, sl2, i64_w, i32_w]
    rfl
   refine pure_ (i := 2) (N := some 28) (v := ?_) (a' := ?_) #[Y,Z,Y,Z,Z,Z,Z] rfl rfl (by kernel_rfl) (fun _ _ _ h => h) (Or.inl ⟨by rfl, ?_⟩) ?_ ?_
   rotate_left
   ·intro w'
    go_simp
    with_reducible rfl
   rotate_left
   ·simp only [Act.put, sl0, sl1, sl2, i64_w, i32_w]
    rfl
   refine pure_ (i := 3) (N := some 29) (v := ?_) (a' := ?_) #[Y,Z,Y,Y,Z,Z,Z] rfl rfl (by kernel_rfl) (fun _ _ _ h => h) (Or.inl ⟨by rfl, ?_⟩) ?_ ?_
   rotate_left
   ·intro w'
    go_simp
    with_reducible rfl
   rotate_left
   ·simp only [Act.put, sl0, sl1, sl2, i64_w, i32_w]
    rfl
   refine pure_ (i := 4) (N := some 30) (v := ?_) (a' := ?_) #[Y,Z,Y,Y,Y,Z,Z] rfl rfl (by kernel_rfl) (fun _ _ _ h => h) (Or.inl ⟨by rfl, ?_⟩) ?_ ?_
   rotate_left
   ·intro w'
    go_simp
    with_reducible rfl
   rotate_left
   ·simp only [Act.put, sl0, sl1, sl2, i64_w, i32_w]
    rfl
   refine take_ (i := 1) (N := some 27) (v := ?_) (a' := ?_) (fl_ 5 2) rfl rfl (by kernel_rfl) (fun _ _ _ h => h) (Or.inl ⟨by rfl, ?_⟩) hHeld ?_ ?_
   rotate_left
   ·rintro w' ⟨s0, s1, s2, s3⟩
    go_simp
    with_reducible rfl
   rotate_left
   ·simp only [Act.put, sl0, sl1, sl2, i64_w, i32_w]
    rfl
   refine take_ (i := 5) (N := some 31) (v := ?_) (a' := ?_) (fl_ 6 1) rfl rfl (by kernel_rfl) (fun _ _ _ h => h) (Or.inl ⟨by rfl, ?_⟩) hHeld ?_ ?_
   rotate_left
   ·rintro w' ⟨s0, s1, s2, s3⟩
    go_simp
    with_reducible rfl
   rotate_left
   ·simp only [Act.put, sl0, sl1, sl2, i64_w, i32_w]
    rfl
   refine pure_ (i := 6) (N := some 32) (v := ?_) (a' := ?_) (fl_ 7 0) rfl rfl (by kernel_rfl) (fun _ _ _ h => h) (Or.inl ⟨by rfl, ?_⟩) ?_ ?_
   rotate_left
   ·intro w'
    go_simp
    with_reducible rfl
   rotate_left
   ·simp only [Act.put, sl0, sl1, sl2, i64_w, i32_w]
    rfl
   refine done_ (by kernel_rfl) ?_
   go_upto_region 14 with (fail)
   go_cut [59] (fun v59 wc => ∃ (kq : Nat) (x59_29 : Bool), v59 = .bool x59_29 ∧ Aside0 (hypercuberef10_Right.j1 kq l0 a1 t112 x6_1 x7_1 x59_29 ((rd_T49 l0 x7_1).f0) ((rd_T49 l0 x7_1).f1) ((rd_T49 l0 x7_1).f2) = some r) ∧ Aside0 (kq ≤ k1) ∧ Aside0 (Kd.R (Kd.int .i64) 3 wc w.heap.size (fun k_ => some k_ ≠ (u6 : Value).ownBlock) (.slice (some ad117) t112.length co6) t112) ∧ Aside0 (Kd.R (Kd.int .i64) 3 wc w.heap.size (fun k_ => some k_ ≠ ((.slice (some ad117) t112.length co6) : Value).ownBlock) u6 x6_1) ∧ Aside0 (wc.heap[gb116]? = some (.cells #[.int .i64 ((rd_T49 l0 x7_1).f0), .int .i64 ((rd_T49 l0 x7_1).f1), .bool ((rd_T49 l0 x7_1).f2)] 49 (0, 0))) ∧ Aside0 (Below w.heap.size w wc))
   case first =>
    have H := HC30.out
    clear HC30
    replace H := Option.bind_eq_some_iff.mp H
    obtain ⟨t118, A350, H⟩ := H
    replace H : ((hypercuberef10_in.f k1 t118 ((rd_T49 l0 x7_1).f1)).bind fun t121 => (if t121 = true then (if (rd_T49 l0 x7_1).f2 = true then ((hypercuberef10_in.f k1 x6_1 ((rd_T49 l0 x7_1).f1)).bind fun t122 => (hypercuberef10_Right.j1 k1 l0 a1 t112 x6_1 x7_1 t122 ((rd_T49 l0 x7_1).f0) ((rd_T49 l0 x7_1).f1) ((rd_T49 l0 x7_1).f2))) else (hypercuberef10_Right.j1 k1 l0 a1 t112 x6_1 x7_1 false ((rd_T49 l0 x7_1).f0) ((rd_T49 l0 x7_1).f1) ((rd_T49 l0 x7_1).f2))) else (hypercuberef10_Right.j1 k1 l0 a1 t112 x6_1 x7_1 true ((rd_T49 l0 x7_1).f0) ((rd_T49 l0 x7_1).f1) ((rd_T49 l0 x7_1).f2)))) = some r := H
    have A35 := Aside0.mk A350
    clear A350
    replace H := Option.bind_eq_some_iff.mp H
    obtain ⟨t121, A360, H⟩ := H
    replace H : (if t121 = true then (if (rd_T49 l0 x7_1).f2 = true then ((hypercuberef10_in.f k1 x6_1 ((rd_T49 l0 x7_1).f1)).bind fun t122 => (hypercuberef10_Right.j1 k1 l0 a1 t112 x6_1 x7_1 t122 ((rd_T49 l0 x7_1).f0) ((rd_T49 l0 x7_1).f1) ((rd_T49 l0 x7_1).f2))) else (hypercuberef10_Right.j1 k1 l0 a1 t112 x6_1 x7_1 false ((rd_T49 l0 x7_1).f0) ((rd_T49 l0 x7_1).f1) ((rd_T49 l0 x7_1).f2))) else (hypercuberef10_Right.j1 k1 l0 a1 t112 x6_1 x7_1 true ((rd_T49 l0 x7_1).f0) ((rd_T49 l0 x7_1).f1) ((rd_T49 l0 x7_1).f2))) = some r := H
    have A36 := Aside0.mk A360
    clear A360
    by_cases c37 : t121 = true
    rotate_left
    ·replace c37 := Bool.eq_false_iff.mpr c37
     subst c37
     have H1 : (hypercuberef10_Right.j1 k1 l0 a1 t112 x6_1 x7_1 true ((rd_T49 l0 x7_1).f0) ((rd_T49 l0 x7_1).f1) ((rd_T49 l0 x7_1).f2)) = some r := by rw [if_neg (show ¬ (false = true) by decide)] at H; exact H
     clear H
     have H := H1
     clear H1
     have H' := Aside0.mk H
     clear H
     try go_wp2
     have n0_ := Aside0.mk (Kd.R_drew HO_5.out)
     have n1_ := Aside0.mk (Kd.R_drew HO_6.out)
     have n2_ := Aside0.mk (blk_drew BK116.out)
     have n3_ := Aside0.mk (below_drew1 HB.out)
     clear HO_5
     clear HO_6
     clear BK116
     clear HB
     have HO_5 := n0_
     have HO_6 := n1_
     have BK116 := n2_
     have HB := n3_
     clear n0_ n1_ n2_ n3_
     refine start_ (n := 18) (S := fun w' => w'.cell? ⟨gb116, 0, none⟩ = some (.int .i64 ((rd_T49 l0 x7_1).f0)) ∧ w'.cell? ⟨gb116, 1, none⟩ = some (.int .i64 ((rd_T49 l0 x7_1).f1)) ∧ w'.cell? ⟨gb116, 2, none⟩ = some (.bool ((rd_T49 l0 x7_1).f2))) (ds := []) (fl_ 0 18) (by kernel_rfl) rfl rfl ⟨(blk_cell BK116.out 0).trans rfl, (blk_cell BK116.out 1).trans rfl, (blk_cell BK116.out 2).trans (by first | exact rfl | (rw [← Nbq38.out]; exact rfl))⟩ (fun hHeld => ?_); refine with_tabW hypercuberef10_Right.tab14 hypercuberef10_Right.bits14 (fun HT_ HW_ => ?_)
     generalize w34.drew = w48 at HO_5 HO_6 BK116 HB hHeld ⊢
     refine pure_ (i := 0) (N := some 42) (v := ?_) (a' := ?_) (fl_ 1 17) rfl rfl (any_of HT_.out (by kernel_rfl)) (fun _ _ _ h => h) (Or.inl ⟨by rfl, ?_⟩) ?_ ?_
     rotate_left
     ·intro w'
      go_simp
      with_reducible rfl
     rotate_left
     ·simp only [Act.put, sl0, sl1, sl2, i64_w, i32_w]
      rfl
     refine pure_ (i := 2) (N := some 44) (v := ?_) (a' := ?_) #[Y,Z,Y,Z,Z,Z,Z,Z,Z,Z,Z,Z,Z,Z,Z,Z,Z,Z] rfl rfl (any_of HT_.out (by kernel_rfl)) (fun _ _ _ h => h) (Or.inl ⟨by rfl, ?_⟩) ?_ ?_
     rotate_left
     ·intro w'
      go_simp
      with_reducible rfl
     rotate_left
     ·simp only [Act.put, sl0, sl1, sl2, i64_w, i32_w]
      rfl
     refine pure_ (i := 4) (N := some 46) (v := ?_) (a' := ?_) #[Y,Z,Y,Z,Y,Z,Z,Z,Z,Z,Z,Z,Z,Z,Z,Z,Z,Z] rfl rfl (any_of HT_.out (by kernel_rfl)) (fun _ _ _ h => h) (Or.inl ⟨by rfl, ?_⟩) ?_ ?_
     rotate_left
     ·intro w'
      go_simp
      with_reducible rfl
     rotate_left
     ·simp only [Act.put, sl0, sl1, sl2, i64_w, i32_w]
      rfl
     refine take_ (i := 1) (N := some 43) (v := ?_) (a' := ?_) #[Y,Y,Y,Z,Y,Z,Z,Z,Z,Z,Z,Z,Z,Z,Z,Z,Z,Z] rfl rfl (take_ofW HT_.out HW_.out (by kernel_rfl)) (fun _ _ _ h => h) (Or.inl ⟨by rfl, ?_⟩) hHeld ?_ ?_
     rotate_left
     ·rintro w' ⟨s0, s1, s2⟩
      go_simp
      with_reducible rfl
     rotate_left
     ·simp only [Act.put, sl0, sl1, sl2, i64_w, i32_w]
      rfl
     refine take_ (i := 5) (N := some 47) (v := ?_) (a' := ?_) #[Y,Y,Y,Z,Y,Y,Z,Z,Z,Z,Z,Z,Z,Z,Z,Z,Z,Z] rfl rfl (take_ofW HT_.out HW_.out (by kernel_rfl)) (fun _ _ _ h => h) (Or.inl ⟨by rfl, ?_⟩) hHeld ?_ ?_
     rotate_left
     ·rintro w' ⟨s0, s1, s2⟩
      go_simp
      with_reducible rfl
     rotate_left
     ·simp only [Act.put, sl0, sl1, sl2, i64_w, i32_w]
      rfl
     refine one_ (i := 3) (N := some 45) (fl_ 6 12) rfl rfl (one_of HT_.out (by kernel_rfl)) (by decide) (fun K hK => ?_)
     refine goes_ Try.func41 (by kernel_rfl) rfl #[.int .i64 ((rd_T49 l0 x7_1).f0), .int .i64 a1] (by rfl) rfl rfl (by (try simp only [List.map_toArray, List.map_cons, List.map_nil]); first | done | rfl | (simp only [List.length_drop, List.length_take]; rfl)) ?_
     with_reducible refine (hypercuberef8_Parents.calls k1 ((rd_T49 l0 x7_1).f0) a1 t118 _ A35.out).mono ?_
     rintro e w49 ⟨v119, rfl, ho0, hb⟩
     refine ⟨_, rfl, ?_⟩
     have n0_ := Aside0.mk (Kd.R_elder' (by (with_reducible repeat (first | apply Kd.R_alloc | apply Kd.R_drewN | apply Kd.R_drew)); exact HO_5.out) (Kd.R_base ho0) hb)
     have n1_ := Aside0.mk (Kd.R_elder' (by (with_reducible repeat (first | apply Kd.R_alloc | apply Kd.R_drewN | apply Kd.R_drew)); exact HO_6.out) (Kd.R_base ho0) hb)
     have n2_ := Aside0.mk (Kd.R_lower (Kd.R_new' (Kd.R_new' ho0 (Kd.R_lt (by (with_reducible repeat (first | apply Kd.R_alloc | apply Kd.R_drewN | apply Kd.R_drew)); exact HO_5.out))) (Kd.R_lt (by (with_reducible repeat (first | apply Kd.R_alloc | apply Kd.R_drewN | apply Kd.R_drew)); exact HO_6.out))) (below_size (by repeat (first | (with_reducible first | exact HB.out | apply below_alloc | apply pw_below_drewN | apply below_drew1 | refine below_set ?_ GE116.out) | exact HB.out))))
     have n3_ := Aside0.mk (blk_below (g := gb116) (o := .cells #[.int .i64 ((rd_T49 l0 x7_1).f0), .int .i64 ((rd_T49 l0 x7_1).f1), .bool ((rd_T49 l0 x7_1).f2)] 49 (0, 0)) (by (with_reducible repeat (first | refine blk_drewN ?_ _ | refine blk_drew ?_ | refine blk_alloc ?_ _)); exact BK116.out) hb)
     have n4_ := Aside0.mk (below_step (by repeat (first | (with_reducible first | exact HB.out | apply below_alloc | apply pw_below_drewN | apply below_drew1 | refine below_set ?_ GE116.out) | exact HB.out)) hb)
     clear HO_5
     clear HO_6
     clear BK116
     clear HB
     have HO_5 := n0_
     have HO_6 := n1_
     have HO120 := n2_
     have BK116 := n3_
     have HB := n4_
     clear n0_ n1_ n2_ n3_ n4_
     (try clear hb)
     (try clear hb2)
     (try clear hk)
     (try clear hi)
     (try clear ho0)
     obtain ⟨Ao50, co50, eo50⟩ := Kd.R_slice HO120.out
     (first | subst eo50 | (injection eo50 with f1_ f2_ f3_; have f4_ := f1_.symm; have f5_ := f3_.symm; clear f1_ f2_ f3_; subst f4_; subst f5_))
     refine hK.out _ _ ⟨(blk_cell BK116.out 0).trans rfl, (blk_cell BK116.out 1).trans rfl, (blk_cell BK116.out 2).trans (by first | exact rfl | (rw [← Nbq38.out]; exact rfl))⟩ (fun hHeld => ?_)
     clear hK K
     refine norm_ (a' := ?_) ?_ ?_
     rotate_left
     ·show Act.put _ (some 45) _ = _
      simp only [Act.put, sl0, sl1, sl2, i64_w, i32_w]
      rfl
     refine one_ (i := 6) (N := some 48) (fl_ 7 11) rfl rfl (one_of HT_.out (by kernel_rfl)) (by decide) (fun K hK => ?_)
     refine goes_ Try.func76 (by kernel_rfl) rfl #[.slice Ao50 t118.length co50, .int .i64 ((rd_T49 l0 x7_1).f1)] (by rfl) rfl rfl (by (try simp only [List.map_toArray, List.map_cons, List.map_nil]); first | done | rfl | (simp only [List.length_drop, List.length_take]; rfl)) ?_
     with_reducible refine (hypercuberef10_in.calls k1 _ _ t118 ((rd_T49 l0 x7_1).f1) false _ ?side1 ?side2 A36.out).mono ?_
     (case side1 => repeat (first | exact (Kd.R_reads' HO120.out).2.2 | (with_reducible refine Kd.C_alloc ?_ _) | (with_reducible refine Kd.C_drewN ?_ _) | (with_reducible refine Kd.C_drew ?_)))
     (case side2 => exact (Kd.R_reads' HO120.out).2.1)
     rintro e w' ⟨rfl, ⟨nd, rfl⟩⟩
     refine ⟨_, rfl, ?_⟩
     refine hK.out _ _ ⟨(blk_cell BK116.out 0).trans rfl, (blk_cell BK116.out 1).trans rfl, (blk_cell BK116.out 2).trans (by first | exact rfl | (rw [← Nbq38.out]; exact rfl))⟩ (fun hHeld => ?_)
     clear hK K
     refine norm_ (a' := ?_) ?_ ?_
     rotate_left
     ·show Act.put _ (some 48) _ = _
      simp only [Act.put, sl0, sl1, sl2, i64_w, i32_w]
      rfl
     refine pure_ (i := 7) (N := some 49) (v := ?_) (a' := ?_) (fl_ 8 10) rfl rfl (any_of HT_.out (by kernel_rfl)) (fun _ _ _ h => h) (Or.inl ⟨by rfl, ?_⟩) ?_ ?_
     rotate_left
     ·intro w'
      go_simp
      with_reducible rfl
     rotate_left
     ·simp only [Act.put, sl0, sl1, sl2, i64_w, i32_w]
      rfl
     refine pure_ (i := 8) (N := some 50) (v := ?_) (a' := ?_) (fl_ 9 9) rfl rfl (any_of HT_.out (by kernel_rfl)) (fun _ _ _ h => h) (Or.inl ⟨by rfl, ?_⟩) ?_ ?_
     rotate_left
     ·intro w'
      go_simp
      with_reducible rfl
     rotate_left
     ·simp only [Act.put, sl0, sl1, sl2, i64_w, i32_w]
      rfl
     refine pure_ (i := 9) (N := some 51) (v := undef) (a' := ?_) (fl_ 10 8) rfl rfl (any_of HT_.out (by kernel_rfl)) (fun _ _ _ h => h) (Or.inr ⟨by rfl, rfl⟩) ?_ ?_
     rotate_left
     ·simp only [Act.put, sl0, sl1, sl2, i64_w, i32_w]
      rfl
     refine pure_ (i := 10) (N := some 52) (v := undef) (a' := ?_) (fl_ 11 7) rfl rfl (any_of HT_.out (by kernel_rfl)) (fun _ _ _ h => h) (Or.inr ⟨by rfl, rfl⟩) ?_ ?_
     rotate_left
     ·simp only [Act.put, sl0, sl1, sl2, i64_w, i32_w]
      rfl
     refine pure_ (i := 11) (N := some 53) (v := undef) (a' := ?_) (fl_ 12 6) rfl rfl (any_of HT_.out (by kernel_rfl)) (fun _ _ _ h => h) (Or.inr ⟨by rfl, rfl⟩) ?_ ?_
     rotate_left
     ·simp only [Act.put, sl0, sl1, sl2, i64_w, i32_w]
      rfl
     refine pure_ (i := 12) (N := some 54) (v := undef) (a' := ?_) (fl_ 13 5) rfl rfl (any_of HT_.out (by kernel_rfl)) (fun _ _ _ h => h) (Or.inr ⟨by rfl, rfl⟩) ?_ ?_
     rotate_left
     ·simp only [Act.put, sl0, sl1, sl2, i64_w, i32_w]
      rfl
     refine pure_ (i := 13) (N := some 55) (v := undef) (a' := ?_) (fl_ 14 4) rfl rfl (any_of HT_.out (by kernel_rfl)) (fun _ _ _ h => h) (Or.inr ⟨by rfl, rfl⟩) ?_ ?_
     rotate_left
     ·simp only [Act.put, sl0, sl1, sl2, i64_w, i32_w]
      rfl
     refine pure_ (i := 14) (N := some 56) (v := undef) (a' := ?_) (fl_ 15 3) rfl rfl (any_of HT_.out (by kernel_rfl)) (fun _ _ _ h => h) (Or.inr ⟨by rfl, rfl⟩) ?_ ?_
     rotate_left
     ·simp only [Act.put, sl0, sl1, sl2, i64_w, i32_w]
      rfl
     refine pure_ (i := 15) (N := some 57) (v := undef) (a' := ?_) (fl_ 16 2) rfl rfl (any_of HT_.out (by kernel_rfl)) (fun _ _ _ h => h) (Or.inr ⟨by rfl, rfl⟩) ?_ ?_
     rotate_left
     ·simp only [Act.put, sl0, sl1, sl2, i64_w, i32_w]
      rfl
     refine pure_ (i := 16) (N := some 58) (v := undef) (a' := ?_) (fl_ 17 1) rfl rfl (any_of HT_.out (by kernel_rfl)) (fun _ _ _ h => h) (Or.inr ⟨by rfl, rfl⟩) ?_ ?_
     rotate_left
     ·simp only [Act.put, sl0, sl1, sl2, i64_w, i32_w]
      rfl
     refine pure_ (i := 17) (N := some 59) (v := ?_) (a' := ?_) (fl_ 18 0) rfl rfl (any_of HT_.out (by kernel_rfl)) (fun _ _ _ h => h) (Or.inl ⟨by rfl, ?_⟩) ?_ ?_
     rotate_left
     ·intro w'
      go_simp
      with_reducible rfl
     rotate_left
     ·simp only [Act.put, sl0, sl1, sl2, i64_w, i32_w]
      rfl
     refine done_ (done_of HT_.out (by kernel_rfl)) ?_
     try go_wp2
     go_meet
     case rel => exact ⟨_, (true), (by first | rfl | (simp; done) | (simp [*]; done)), H', ⟨by have := HK1.out; first | omega | exact Nat.le_refl _⟩, ⟨by (with_reducible repeat (first | apply Kd.R_alloc | apply Kd.R_drewN | apply Kd.R_drew)); exact Kd.R_mono HO_5.out (fun _ hk => hk.1)⟩, ⟨by (with_reducible repeat (first | apply Kd.R_alloc | apply Kd.R_drewN | apply Kd.R_drew)); exact Kd.R_mono HO_6.out (fun _ hk => hk.1)⟩, ⟨by (with_reducible repeat (first | refine blk_drewN ?_ _ | refine blk_drew ?_ | refine blk_alloc ?_ _)); exact BK116.out⟩, ⟨by repeat (first | (with_reducible first | exact HB.out | apply below_alloc | apply pw_below_drewN | apply below_drew1 | refine below_set ?_ GE116.out) | exact HB.out)⟩⟩
    subst c37
    have H1 : (if (rd_T49 l0 x7_1).f2 = true then ((hypercuberef10_in.f k1 x6_1 ((rd_T49 l0 x7_1).f1)).bind fun t122 => (hypercuberef10_Right.j1 k1 l0 a1 t112 x6_1 x7_1 t122 ((rd_T49 l0 x7_1).f0) ((rd_T49 l0 x7_1).f1) ((rd_T49 l0 x7_1).f2))) else (hypercuberef10_Right.j1 k1 l0 a1 t112 x6_1 x7_1 false ((rd_T49 l0 x7_1).f0) ((rd_T49 l0 x7_1).f1) ((rd_T49 l0 x7_1).f2))) = some r := by rw [if_pos rfl] at H; exact H
    clear H
    have H := H1
    clear H1
    obtain ⟨bq38, hbq38⟩ : ∃ b_ : Bool, b_ = ((rd_T49 l0 x7_1).f2) := ⟨_, rfl⟩
    replace H : (if bq38 = true then ((hypercuberef10_in.f k1 x6_1 ((rd_T49 l0 x7_1).f1)).bind fun t122 => (hypercuberef10_Right.j1 k1 l0 a1 t112 x6_1 x7_1 t122 ((rd_T49 l0 x7_1).f0) ((rd_T49 l0 x7_1).f1) bq38)) else (hypercuberef10_Right.j1 k1 l0 a1 t112 x6_1 x7_1 false ((rd_T49 l0 x7_1).f0) ((rd_T49 l0 x7_1).f1) bq38)) = some r := by rw [← hbq38] at H; exact H
    have Nbq38 := Aside0.mk hbq38
    clear hbq38
    (try rw [← Nbq38.out])
    by_cases c39 : bq38 = true
    rotate_left
    ·replace c39 := Bool.eq_false_iff.mpr c39
     subst c39
     rw [← Nbq38.out] at BK116
     have H1 : (hypercuberef10_Right.j1 k1 l0 a1 t112 x6_1 x7_1 false ((rd_T49 l0 x7_1).f0) ((rd_T49 l0 x7_1).f1) false) = some r := by rw [if_neg (show ¬ (false = true) by decide)] at H; exact H
     clear H
     have H := H1
     clear H1
     have H' := Aside0.mk H
     clear H
     try go_wp2
     have n0_ := Aside0.mk (Kd.R_drew HO_5.out)
     have n1_ := Aside0.mk (Kd.R_drew HO_6.out)
     have n2_ := Aside0.mk (blk_drew BK116.out)
     have n3_ := Aside0.mk (below_drew1 HB.out)
     clear HO_5
     clear HO_6
     clear BK116
     clear HB
     have HO_5 := n0_
     have HO_6 := n1_
     have BK116 := n2_
     have HB := n3_
     clear n0_ n1_ n2_ n3_
     refine start_ (n := 18) (S := fun w' => w'.cell? ⟨gb116, 0, none⟩ = some (.int .i64 ((rd_T49 l0 x7_1).f0)) ∧ w'.cell? ⟨gb116, 1, none⟩ = some (.int .i64 ((rd_T49 l0 x7_1).f1)) ∧ w'.cell? ⟨gb116, 2, none⟩ = some (.bool false)) (ds := []) (fl_ 0 18) (by kernel_rfl) rfl rfl ⟨(blk_cell BK116.out 0).trans rfl, (blk_cell BK116.out 1).trans rfl, (blk_cell BK116.out 2).trans (by first | exact rfl | (rw [← Nbq38.out]; exact rfl))⟩ (fun hHeld => ?_); refine with_tabW hypercuberef10_Right.tab14 hypercuberef10_Right.bits14 (fun HT_ HW_ => ?_)
     generalize w34.drew = w45 at HO_5 HO_6 BK116 HB hHeld ⊢
     refine pure_ (i := 0) (N := some 42) (v := ?_) (a' := ?_) (fl_ 1 17) rfl rfl (any_of HT_.out (by kernel_rfl)) (fun _ _ _ h => h) (Or.inl ⟨by rfl, ?_⟩) ?_ ?_
     rotate_left
     ·intro w'
      go_simp
      with_reducible rfl
     rotate_left
     ·simp only [Act.put, sl0, sl1, sl2, i64_w, i32_w]
      rfl
     refine pure_ (i := 2) (N := some 44) (v := ?_) (a' := ?_) #[Y,Z,Y,Z,Z,Z,Z,Z,Z,Z,Z,Z,Z,Z,Z,Z,Z,Z] rfl rfl (any_of HT_.out (by kernel_rfl)) (fun _ _ _ h => h) (Or.inl ⟨by rfl, ?_⟩) ?_ ?_
     rotate_left
     ·intro w'
      go_simp
      with_reducible rfl
     rotate_left
     ·simp only [Act.put, sl0, sl1, sl2, i64_w, i32_w]
      rfl
     refine pure_ (i := 4) (N := some 46) (v := ?_) (a' := ?_) #[Y,Z,Y,Z,Y,Z,Z,Z,Z,Z,Z,Z,Z,Z,Z,Z,Z,Z] rfl rfl (any_of HT_.out (by kernel_rfl)) (fun _ _ _ h => h) (Or.inl ⟨by rfl, ?_⟩) ?_ ?_
     rotate_left
     ·intro w'
      go_simp
      with_reducible rfl
     rotate_left
     ·simp only [Act.put, sl0, sl1, sl2, i64_w, i32_w]
      rfl
     refine take_ (i := 1) (N := some 43) (v := ?_) (a' := ?_) #[Y,Y,Y,Z,Y,Z,Z,Z,Z,Z,Z,Z,Z,Z,Z,Z,Z,Z] rfl rfl (take_ofW HT_.out HW_.out (by kernel_rfl)) (fun _ _ _ h => h) (Or.inl ⟨by rfl, ?_⟩) hHeld ?_ ?_
     rotate_left
     ·rintro w' ⟨s0, s1, s2⟩
      go_simp
      with_reducible rfl
     rotate_left
     ·simp only [Act.put, sl0, sl1, sl2, i64_w, i32_w]
      rfl
     refine take_ (i := 5) (N := some 47) (v := ?_) (a' := ?_) #[Y,Y,Y,Z,Y,Y,Z,Z,Z,Z,Z,Z,Z,Z,Z,Z,Z,Z] rfl rfl (take_ofW HT_.out HW_.out (by kernel_rfl)) (fun _ _ _ h => h) (Or.inl ⟨by rfl, ?_⟩) hHeld ?_ ?_
     rotate_left
     ·rintro w' ⟨s0, s1, s2⟩
      go_simp
      with_reducible rfl
     rotate_left
     ·simp only [Act.put, sl0, sl1, sl2, i64_w, i32_w]
      rfl
     refine one_ (i := 3) (N := some 45) (fl_ 6 12) rfl rfl (one_of HT_.out (by kernel_rfl)) (by decide) (fun K hK => ?_)
     refine goes_ Try.func41 (by kernel_rfl) rfl #[.int .i64 ((rd_T49 l0 x7_1).f0), .int .i64 a1] (by rfl) rfl rfl (by (try simp only [List.map_toArray, List.map_cons, List.map_nil]); first | done | rfl | (simp only [List.length_drop, List.length_take]; rfl)) ?_
     with_reducible refine (hypercuberef8_Parents.calls k1 ((rd_T49 l0 x7_1).f0) a1 t118 _ A35.out).mono ?_
     rintro e w46 ⟨v119, rfl, ho0, hb⟩
     refine ⟨_, rfl, ?_⟩
     have n0_ := Aside0.mk (Kd.R_elder' (by (with_reducible repeat (first | apply Kd.R_alloc | apply Kd.R_drewN | apply Kd.R_drew)); exact HO_5.out) (Kd.R_base ho0) hb)
     have n1_ := Aside0.mk (Kd.R_elder' (by (with_reducible repeat (first | apply Kd.R_alloc | apply Kd.R_drewN | apply Kd.R_drew)); exact HO_6.out) (Kd.R_base ho0) hb)
     have n2_ := Aside0.mk (Kd.R_lower (Kd.R_new' (Kd.R_new' ho0 (Kd.R_lt (by (with_reducible repeat (first | apply Kd.R_alloc | apply Kd.R_drewN | apply Kd.R_drew)); exact HO_5.out))) (Kd.R_lt (by (with_reducible repeat (first | apply Kd.R_alloc | apply Kd.R_drewN | apply Kd.R_drew)); exact HO_6.out))) (below_size (by repeat (first | (with_reducible first | exact HB.out | apply below_alloc | apply pw_below_drewN | apply below_drew1 | refine below_set ?_ GE116.out) | exact HB.out))))
     have n3_ := Aside0.mk (blk_below (g := gb116) (o := .cells #[.int .i64 ((rd_T49 l0 x7_1).f0), .int .i64 ((rd_T49 l0 x7_1).f1), .bool false] 49 (0, 0)) (by (with_reducible repeat (first | refine blk_drewN ?_ _ | refine blk_drew ?_ | refine blk_alloc ?_ _)); exact BK116.out) hb)
     have n4_ := Aside0.mk (below_step (by repeat (first | (with_reducible first | exact HB.out | apply below_alloc | apply pw_below_drewN | apply below_drew1 | refine below_set ?_ GE116.out) | exact HB.out)) hb)
     clear HO_5
     clear HO_6
     clear BK116
     clear HB
     have HO_5 := n0_
     have HO_6 := n1_
     have HO120 := n2_
     have BK116 := n3_
     have HB := n4_
     clear n0_ n1_ n2_ n3_ n4_
     (try clear hb)
     (try clear hb2)
     (try clear hk)
     (try clear hi)
     (try clear ho0)
     obtain ⟨Ao47, co47, eo47⟩ := Kd.R_slice HO120.out
     (first | subst eo47 | (injection eo47 with f1_ f2_ f3_; have f4_ := f1_.symm; have f5_ := f3_.symm; clear f1_ f2_ f3_; subst f4_; subst f5_))
     refine hK.out _ _ ⟨(blk_cell BK116.out 0).trans rfl, (blk_cell BK116.out 1).trans rfl, (blk_cell BK116.out 2).trans (by first | exact rfl | (rw [← Nbq38.out]; exact rfl))⟩ (fun hHeld => ?_)
     clear hK K
     refine norm_ (a' := ?_) ?_ ?_
     rotate_left
     ·show Act.put _ (some 45) _ = _
      simp only [Act.put, sl0, sl1, sl2, i64_w, i32_w]
      rfl
     refine one_ (i := 6) (N := some 48) (fl_ 7 11) rfl rfl (one_of HT_.out (by kernel_rfl)) (by decide) (fun K hK => ?_)
     refine goes_ Try.func76 (by kernel_rfl) rfl #[.slice Ao47 t118.length co47, .int .i64 ((rd_T49 l0 x7_1).f1)] (by rfl) rfl rfl (by (try simp only [List.map_toArray, List.map_cons, List.map_nil]); first | done | rfl | (simp only [List.length_drop, List.length_take]; rfl)) ?_
     with_reducible refine (hypercuberef10_in.calls k1 _ _ t118 ((rd_T49 l0 x7_1).f1) true _ ?side1 ?side2 A36.out).mono ?_
     (case side1 => repeat (first | exact (Kd.R_reads' HO120.out).2.2 | (with_reducible refine Kd.C_alloc ?_ _) | (with_reducible refine Kd.C_drewN ?_ _) | (with_reducible refine Kd.C_drew ?_)))
     (case side2 => exact (Kd.R_reads' HO120.out).2.1)
     rintro e w' ⟨rfl, ⟨nd, rfl⟩⟩
     refine ⟨_, rfl, ?_⟩
     refine hK.out _ _ ⟨(blk_cell BK116.out 0).trans rfl, (blk_cell BK116.out 1).trans rfl, (blk_cell BK116.out 2).trans (by first | exact rfl | (rw [← Nbq38.out]; exact rfl))⟩ (fun hHeld => ?_)
     clear hK K
     refine norm_ (a' := ?_) ?_ ?_
     rotate_left
     ·show Act.put _ (some 48) _ = _
      simp only [Act.put, sl0, sl1, sl2, i64_w, i32_w]
      rfl
     refine pure_ (i := 7) (N := some 49) (v := ?_) (a' := ?_) (fl_ 8 10) rfl rfl (any_of HT_.out (by kernel_rfl)) (fun _ _ _ h => h) (Or.inl ⟨by rfl, ?_⟩) ?_ ?_
     rotate_left
     ·intro w'
      go_simp
      with_reducible rfl
     rotate_left
     ·simp only [Act.put, sl0, sl1, sl2, i64_w, i32_w]
      rfl
     refine pure_ (i := 8) (N := some 50) (v := ?_) (a' := ?_) (fl_ 9 9) rfl rfl (any_of HT_.out (by kernel_rfl)) (fun _ _ _ h => h) (Or.inl ⟨by rfl, ?_⟩) ?_ ?_
     rotate_left
     ·intro w'
      go_simp
      with_reducible rfl
     rotate_left
     ·simp only [Act.put, sl0, sl1, sl2, i64_w, i32_w]
      rfl
     refine pure_ (i := 9) (N := some 51) (v := ?_) (a' := ?_) (fl_ 10 8) rfl rfl (any_of HT_.out (by kernel_rfl)) (fun _ _ _ h => h) (Or.inl ⟨by rfl, ?_⟩) ?_ ?_
     rotate_left
     ·intro w'
      go_simp
      with_reducible rfl
     rotate_left
     ·simp only [Act.put, sl0, sl1, sl2, i64_w, i32_w]
      rfl
     refine take_ (i := 10) (N := some 52) (v := ?_) (a' := ?_) (fl_ 11 7) rfl rfl (take_ofW HT_.out HW_.out (by kernel_rfl)) (fun _ _ _ h => h) (Or.inl ⟨by rfl, ?_⟩) hHeld ?_ ?_
     rotate_left
     ·rintro w' ⟨s0, s1, s2⟩
      go_simp
      with_reducible rfl
     rotate_left
     ·simp only [Act.put, sl0, sl1, sl2, i64_w, i32_w]
      rfl
     refine pure_ (i := 11) (N := some 53) (v := ?_) (a' := ?_) (fl_ 12 6) rfl rfl (any_of HT_.out (by kernel_rfl)) (fun _ _ _ h => h) (Or.inl ⟨by rfl, ?_⟩) ?_ ?_
     rotate_left
     ·intro w'
      go_simp
      with_reducible rfl
     rotate_left
     ·simp only [Act.put, sl0, sl1, sl2, i64_w, i32_w]
      rfl
     refine pure_ (i := 12) (N := some 54) (v := undef) (a' := ?_) (fl_ 13 5) rfl rfl (any_of HT_.out (by kernel_rfl)) (fun _ _ _ h => h) (Or.inr ⟨by rfl, rfl⟩) ?_ ?_
     rotate_left
     ·simp only [Act.put, sl0, sl1, sl2, i64_w, i32_w]
      rfl
     refine pure_ (i := 13) (N := some 55) (v := undef) (a' := ?_) (fl_ 14 4) rfl rfl (any_of HT_.out (by kernel_rfl)) (fun _ _ _ h => h) (Or.inr ⟨by rfl, rfl⟩) ?_ ?_
     rotate_left
     ·simp only [Act.put, sl0, sl1, sl2, i64_w, i32_w]
      rfl
     refine pure_ (i := 14) (N := some 56) (v := undef) (a' := ?_) (fl_ 15 3) rfl rfl (any_of HT_.out (by kernel_rfl)) (fun _ _ _ h => h) (Or.inr ⟨by rfl, rfl⟩) ?_ ?_
     rotate_left
     ·simp only [Act.put, sl0, sl1, sl2, i64_w, i32_w]
      rfl
     refine pure_ (i := 15) (N := some 57) (v := undef) (a' := ?_) (fl_ 16 2) rfl rfl (any_of HT_.out (by kernel_rfl)) (fun _ _ _ h => h) (Or.inr ⟨by rfl, rfl⟩) ?_ ?_
     rotate_left
     ·simp only [Act.put, sl0, sl1, sl2, i64_w, i32_w]
      rfl
     refine pure_ (i := 16) (N := some 58) (v := ?_) (a' := ?_) (fl_ 17 1) rfl rfl (any_of HT_.out (by kernel_rfl)) (fun _ _ _ h => h) (Or.inl ⟨by rfl, ?_⟩) ?_ ?_
     rotate_left
     ·intro w'
      go_simp
      with_reducible rfl
     rotate_left
     ·simp only [Act.put, sl0, sl1, sl2, i64_w, i32_w]
      rfl
     refine pure_ (i := 17) (N := some 59) (v := ?_) (a' := ?_) (fl_ 18 0) rfl rfl (any_of HT_.out (by kernel_rfl)) (fun _ _ _ h => h) (Or.inl ⟨by rfl, ?_⟩) ?_ ?_
     rotate_left
     ·intro w'
      go_simp
      with_reducible rfl
     rotate_left
     ·simp only [Act.put, sl0, sl1, sl2, i64_w, i32_w]
      rfl
     refine done_ (done_of HT_.out (by kernel_rfl)) ?_
     try go_wp2
     go_meet
     case rel => exact ⟨_, (false), (by first | rfl | (simp; done) | (simp [*]; done)), (by rw [← Nbq38.out]; exact H'), ⟨by have := HK1.out; first | omega | exact Nat.le_refl _⟩, ⟨by (with_reducible repeat (first | apply Kd.R_alloc | apply Kd.R_drewN | apply Kd.R_drew)); exact Kd.R_mono HO_5.out (fun _ hk => hk.1)⟩, ⟨by (with_reducible repeat (first | apply Kd.R_alloc | apply Kd.R_drewN | apply Kd.R_drew)); exact Kd.R_mono HO_6.out (fun _ hk => hk.1)⟩, ⟨by (with_reducible repeat (first | refine blk_drewN ?_ _ | refine blk_drew ?_ | refine blk_alloc ?_ _)); rw [← Nbq38.out]; exact BK116.out⟩, ⟨by repeat (first | (with_reducible first | exact HB.out | apply below_alloc | apply pw_below_drewN | apply below_drew1 | refine below_set ?_ GE116.out) | exact HB.out)⟩⟩
    subst c39
    rw [← Nbq38.out] at BK116
    have H1 : ((hypercuberef10_in.f k1 x6_1 ((rd_T49 l0 x7_1).f1)).bind fun t122 => (hypercuberef10_Right.j1 k1 l0 a1 t112 x6_1 x7_1 t122 ((rd_T49 l0 x7_1).f0) ((rd_T49 l0 x7_1).f1) true)) = some r := by rw [if_pos rfl] at H; exact H
    clear H
    have H := H1
    clear H1
    replace H := Option.bind_eq_some_iff.mp H
    obtain ⟨t122, A400, H⟩ := H
    replace H : (hypercuberef10_Right.j1 k1 l0 a1 t112 x6_1 x7_1 t122 ((rd_T49 l0 x7_1).f0) ((rd_T49 l0 x7_1).f1) true) = some r := H
    have A40 := Aside0.mk A400
    clear A400
    have H' := Aside0.mk H
    clear H
    try go_wp2
    have n0_ := Aside0.mk (Kd.R_drew HO_5.out)
    have n1_ := Aside0.mk (Kd.R_drew HO_6.out)
    have n2_ := Aside0.mk (blk_drew BK116.out)
    have n3_ := Aside0.mk (below_drew1 HB.out)
    clear HO_5
    clear HO_6
    clear BK116
    clear HB
    have HO_5 := n0_
    have HO_6 := n1_
    have BK116 := n2_
    have HB := n3_
    clear n0_ n1_ n2_ n3_
    refine start_ (n := 18) (S := fun w' => w'.cell? ⟨gb116, 0, none⟩ = some (.int .i64 ((rd_T49 l0 x7_1).f0)) ∧ w'.cell? ⟨gb116, 1, none⟩ = some (.int .i64 ((rd_T49 l0 x7_1).f1)) ∧ w'.cell? ⟨gb116, 2, none⟩ = some (.bool true)) (ds := []) (fl_ 0 18) (by kernel_rfl) rfl rfl ⟨(blk_cell BK116.out 0).trans rfl, (blk_cell BK116.out 1).trans rfl, (blk_cell BK116.out 2).trans (by first | exact rfl | (rw [← Nbq38.out]; exact rfl))⟩ (fun hHeld => ?_); refine with_tabW hypercuberef10_Right.tab14 hypercuberef10_Right.bits14 (fun HT_ HW_ => ?_)
    generalize w34.drew = w41 at HO_5 HO_6 BK116 HB hHeld ⊢
    refine pure_ (i := 0) (N := some 42) (v := ?_) (a' := ?_) (fl_ 1 17) rfl rfl (any_of HT_.out (by kernel_rfl)) (fun _ _ _ h => h) (Or.inl ⟨by rfl, ?_⟩) ?_ ?_
    rotate_left
    ·intro w'
     go_simp
     with_reducible rfl
    rotate_left
    ·simp only [Act.put, sl0, sl1, sl2, i64_w, i32_w]
     rfl
    refine pure_ (i := 2) (N := some 44) (v := ?_) (a' := ?_) #[Y,Z,Y,Z,Z,Z,Z,Z,Z,Z,Z,Z,Z,Z,Z,Z,Z,Z] rfl rfl (any_of HT_.out (by kernel_rfl)) (fun _ _ _ h => h) (Or.inl ⟨by rfl, ?_⟩) ?_ ?_
    rotate_left
    ·intro w'
     go_simp
     with_reducible rfl
    rotate_left
    ·simp only [Act.put, sl0, sl1, sl2, i64_w, i32_w]
     rfl
    refine pure_ (i := 4) (N := some 46) (v := ?_) (a' := ?_) #[Y,Z,Y,Z,Y,Z,Z,Z,Z,Z,Z,Z,Z,Z,Z,Z,Z,Z] rfl rfl (any_of HT_.out (by kernel_rfl)) (fun _ _ _ h => h) (Or.inl ⟨by rfl, ?_⟩) ?_ ?_
    rotate_left
    ·intro w'
     go_simp
     with_reducible rfl
    rotate_left
    ·simp only [Act.put, sl0, sl1, sl2, i64_w, i32_w]
     rfl
    refine take_ (i := 1) (N := some 43) (v := ?_) (a' := ?_) #[Y,Y,Y,Z,Y,Z,Z,Z,Z,Z,Z,Z,Z,Z,Z,Z,Z,Z] rfl rfl (take_ofW HT_.out HW_.out (by kernel_rfl)) (fun _ _ _ h => h) (Or.inl ⟨by rfl, ?_⟩) hHeld ?_ ?_
    rotate_left
    ·rintro w' ⟨s0, s1, s2⟩
     go_simp
     with_reducible rfl
    rotate_left
    ·simp only [Act.put, sl0, sl1, sl2, i64_w, i32_w]
     rfl
    refine take_ (i := 5) (N := some 47) (v := ?_) (a' := ?_) #[Y,Y,Y,Z,Y,Y,Z,Z,Z,Z,Z,Z,Z,Z,Z,Z,Z,Z] rfl rfl (take_ofW HT_.out HW_.out (by kernel_rfl)) (fun _ _ _ h => h) (Or.inl ⟨by rfl, ?_⟩) hHeld ?_ ?_
    rotate_left
    ·rintro w' ⟨s0, s1, s2⟩
     go_simp
     with_reducible rfl
    rotate_left
    ·simp only [Act.put, sl0, sl1, sl2, i64_w, i32_w]
     rfl
    refine one_ (i := 3) (N := some 45) (fl_ 6 12) rfl rfl (one_of HT_.out (by kernel_rfl)) (by decide) (fun K hK => ?_)
    refine goes_ Try.func41 (by kernel_rfl) rfl #[.int .i64 ((rd_T49 l0 x7_1).f0), .int .i64 a1] (by rfl) rfl rfl (by (try simp only [List.map_toArray, List.map_cons, List.map_nil]); first | done | rfl | (simp only [List.length_drop, List.length_take]; rfl)) ?_
    with_reducible refine (hypercuberef8_Parents.calls k1 ((rd_T49 l0 x7_1).f0) a1 t118 _ A35.out).mono ?_
    rintro e w42 ⟨v119, rfl, ho0, hb⟩
    refine ⟨_, rfl, ?_⟩
    have n0_ := Aside0.mk (Kd.R_elder' (by (with_reducible repeat (first | apply Kd.R_alloc | apply Kd.R_drewN | apply Kd.R_drew)); exact HO_5.out) (Kd.R_base ho0) hb)
    have n1_ := Aside0.mk (Kd.R_elder' (by (with_reducible repeat (first | apply Kd.R_alloc | apply Kd.R_drewN | apply Kd.R_drew)); exact HO_6.out) (Kd.R_base ho0) hb)
    have n2_ := Aside0.mk (Kd.R_lower (Kd.R_new' (Kd.R_new' ho0 (Kd.R_lt (by (with_reducible repeat (first | apply Kd.R_alloc | apply Kd.R_drewN | apply Kd.R_drew)); exact HO_5.out))) (Kd.R_lt (by (with_reducible repeat (first | apply Kd.R_alloc | apply Kd.R_drewN | apply Kd.R_drew)); exact HO_6.out))) (below_size (by repeat (first | (with_reducible first | exact HB.out | apply below_alloc | apply pw_below_drewN | apply below_drew1 | refine below_set ?_ GE116.out) | exact HB.out))))
    have n3_ := Aside0.mk (blk_below (g := gb116) (o := .cells #[.int .i64 ((rd_T49 l0 x7_1).f0), .int .i64 ((rd_T49 l0 x7_1).f1), .bool true] 49 (0, 0)) (by (with_reducible repeat (first | refine blk_drewN ?_ _ | refine blk_drew ?_ | refine blk_alloc ?_ _)); exact BK116.out) hb)
    have n4_ := Aside0.mk (below_step (by repeat (first | (with_reducible first | exact HB.out | apply below_alloc | apply pw_below_drewN | apply below_drew1 | refine below_set ?_ GE116.out) | exact HB.out)) hb)
    clear HO_5
    clear HO_6
    clear BK116
    clear HB
    have HO_5 := n0_
    have HO_6 := n1_
    have HO120 := n2_
    have BK116 := n3_
    have HB := n4_
    clear n0_ n1_ n2_ n3_ n4_
    (try clear hb)
    (try clear hb2)
    (try clear hk)
    (try clear hi)
    (try clear ho0)
    obtain ⟨Ao43, co43, eo43⟩ := Kd.R_slice HO120.out
    (first | subst eo43 | (injection eo43 with f1_ f2_ f3_; have f4_ := f1_.symm; have f5_ := f3_.symm; clear f1_ f2_ f3_; subst f4_; subst f5_))
    refine hK.out _ _ ⟨(blk_cell BK116.out 0).trans rfl, (blk_cell BK116.out 1).trans rfl, (blk_cell BK116.out 2).trans (by first | exact rfl | (rw [← Nbq38.out]; exact rfl))⟩ (fun hHeld => ?_)
    clear hK K
    refine norm_ (a' := ?_) ?_ ?_
    rotate_left
    ·show Act.put _ (some 45) _ = _
     simp only [Act.put, sl0, sl1, sl2, i64_w, i32_w]
     rfl
    refine one_ (i := 6) (N := some 48) (fl_ 7 11) rfl rfl (one_of HT_.out (by kernel_rfl)) (by decide) (fun K hK => ?_)
    refine goes_ Try.func76 (by kernel_rfl) rfl #[.slice Ao43 t118.length co43, .int .i64 ((rd_T49 l0 x7_1).f1)] (by rfl) rfl rfl (by (try simp only [List.map_toArray, List.map_cons, List.map_nil]); first | done | rfl | (simp only [List.length_drop, List.length_take]; rfl)) ?_
    with_reducible refine (hypercuberef10_in.calls k1 _ _ t118 ((rd_T49 l0 x7_1).f1) true _ ?side1 ?side2 A36.out).mono ?_
    (case side1 => repeat (first | exact (Kd.R_reads' HO120.out).2.2 | (with_reducible refine Kd.C_alloc ?_ _) | (with_reducible refine Kd.C_drewN ?_ _) | (with_reducible refine Kd.C_drew ?_)))
    (case side2 => exact (Kd.R_reads' HO120.out).2.1)
    rintro e w' ⟨rfl, ⟨nd, rfl⟩⟩
    refine ⟨_, rfl, ?_⟩
    obtain ⟨Ao44, co44, eo44⟩ := Kd.R_slice HO_6.out
    (first | subst eo44 | (injection eo44 with f1_ f2_ f3_; have f4_ := f1_.symm; have f5_ := f3_.symm; clear f1_ f2_ f3_; subst f4_; subst f5_))
    refine hK.out _ _ ⟨(blk_cell BK116.out 0).trans rfl, (blk_cell BK116.out 1).trans rfl, (blk_cell BK116.out 2).trans (by first | exact rfl | (rw [← Nbq38.out]; exact rfl))⟩ (fun hHeld => ?_)
    clear hK K
    refine norm_ (a' := ?_) ?_ ?_
    rotate_left
    ·show Act.put _ (some 48) _ = _
     simp only [Act.put, sl0, sl1, sl2, i64_w, i32_w]
     rfl
    refine pure_ (i := 7) (N := some 49) (v := ?_) (a' := ?_) (fl_ 8 10) rfl rfl (any_of HT_.out (by kernel_rfl)) (fun _ _ _ h => h) (Or.inl ⟨by rfl, ?_⟩) ?_ ?_
    rotate_left
    ·intro w'
     go_simp
     with_reducible rfl
    rotate_left
    ·simp only [Act.put, sl0, sl1, sl2, i64_w, i32_w]
     rfl
    refine pure_ (i := 8) (N := some 50) (v := ?_) (a' := ?_) (fl_ 9 9) rfl rfl (any_of HT_.out (by kernel_rfl)) (fun _ _ _ h => h) (Or.inl ⟨by rfl, ?_⟩) ?_ ?_
    rotate_left
    ·intro w'
     go_simp
     with_reducible rfl
    rotate_left
    ·simp only [Act.put, sl0, sl1, sl2, i64_w, i32_w]
     rfl
    refine pure_ (i := 9) (N := some 51) (v := ?_) (a' := ?_) (fl_ 10 8) rfl rfl (any_of HT_.out (by kernel_rfl)) (fun _ _ _ h => h) (Or.inl ⟨by rfl, ?_⟩) ?_ ?_
    rotate_left
    ·intro w'
     go_simp
     with_reducible rfl
    rotate_left
    ·simp only [Act.put, sl0, sl1, sl2, i64_w, i32_w]
     rfl
    refine take_ (i := 10) (N := some 52) (v := ?_) (a' := ?_) (fl_ 11 7) rfl rfl (take_ofW HT_.out HW_.out (by kernel_rfl)) (fun _ _ _ h => h) (Or.inl ⟨by rfl, ?_⟩) hHeld ?_ ?_
    rotate_left
    ·rintro w' ⟨s0, s1, s2⟩
     go_simp
     with_reducible rfl
    rotate_left
    ·simp only [Act.put, sl0, sl1, sl2, i64_w, i32_w]
     rfl
    refine pure_ (i := 11) (N := some 53) (v := ?_) (a' := ?_) (fl_ 12 6) rfl rfl (any_of HT_.out (by kernel_rfl)) (fun _ _ _ h => h) (Or.inl ⟨by rfl, ?_⟩) ?_ ?_
    rotate_left
    ·intro w'
     go_simp
     with_reducible rfl
    rotate_left
    ·simp only [Act.put, sl0, sl1, sl2, i64_w, i32_w]
     rfl
    refine pure_ (i := 12) (N := some 54) (v := ?_) (a' := ?_) (fl_ 13 5) rfl rfl (any_of HT_.out (by kernel_rfl)) (fun _ _ _ h => h) (Or.inl ⟨by rfl, ?_⟩) ?_ ?_
    rotate_left
    ·intro w'
     go_simp
     with_reducible rfl
    rotate_left
    ·simp only [Act.put, sl0, sl1, sl2, i64_w, i32_w]
     rfl
    refine pure_ (i := 13) (N := some 55) (v := ?_) (a' := ?_) (fl_ 14 4) rfl rfl (any_of HT_.out (by kernel_rfl)) (fun _ _ _ h => h) (Or.inl ⟨by rfl, ?_⟩) ?_ ?_
    rotate_left
    ·intro w'
     go_simp
     with_reducible rfl
    rotate_left
    ·simp only [Act.put, sl0, sl1, sl2, i64_w, i32_w]
     rfl
    refine take_ (i := 14) (N := some 56) (v := ?_) (a' := ?_) (fl_ 15 3) rfl rfl (take_ofW HT_.out HW_.out (by kernel_rfl)) (fun _ _ _ h => h) (Or.inl ⟨by rfl, ?_⟩) hHeld ?_ ?_
    rotate_left
    ·rintro w' ⟨s0, s1, s2⟩
     go_simp
     with_reducible rfl
    rotate_left
    ·simp only [Act.put, sl0, sl1, sl2, i64_w, i32_w]
     rfl
    refine one_ (i := 15) (N := some 57) (fl_ 16 2) rfl rfl (one_of HT_.out (by kernel_rfl)) (by decide) (fun K hK => ?_)
    refine goes_ Try.func76 (by kernel_rfl) rfl #[.slice Ao44 x6_1.length co44, .int .i64 ((rd_T49 l0 x7_1).f1)] (by rfl) rfl rfl (by (try simp only [List.map_toArray, List.map_cons, List.map_nil]); first | done | rfl | (simp only [List.length_drop, List.length_take]; rfl)) ?_
    with_reducible refine (hypercuberef10_in.calls k1 _ _ x6_1 ((rd_T49 l0 x7_1).f1) t122 _ ?side1 ?side2 A40.out).mono ?_
    (case side1 => repeat (first | exact (Kd.R_reads' HO_6.out).2.2 | (with_reducible refine Kd.C_alloc ?_ _) | (with_reducible refine Kd.C_drewN ?_ _) | (with_reducible refine Kd.C_drew ?_)))
    (case side2 => exact (Kd.R_reads' HO_6.out).2.1)
    rintro e w' ⟨rfl, ⟨nd, rfl⟩⟩
    refine ⟨_, rfl, ?_⟩
    refine hK.out _ _ ⟨(blk_cell BK116.out 0).trans rfl, (blk_cell BK116.out 1).trans rfl, (blk_cell BK116.out 2).trans (by first | exact rfl | (rw [← Nbq38.out]; exact rfl))⟩ (fun hHeld => ?_)
    clear hK K
    refine norm_ (a' := ?_) ?_ ?_
    rotate_left
    ·show Act.put _ (some 57) _ = _
     simp only [Act.put, sl0, sl1, sl2, i64_w, i32_w]
     rfl
    refine pure_ (i := 16) (N := some 58) (v := ?_) (a' := ?_) (fl_ 17 1) rfl rfl (any_of HT_.out (by kernel_rfl)) (fun _ _ _ h => h) (Or.inl ⟨by rfl, ?_⟩) ?_ ?_
    rotate_left
    ·intro w'
     go_simp
     with_reducible rfl
    rotate_left
    ·simp only [Act.put, sl0, sl1, sl2, i64_w, i32_w]
     rfl
    refine pure_ (i := 17) (N := some 59) (v := ?_) (a' := ?_) (fl_ 18 0) rfl rfl (any_of HT_.out (by kernel_rfl)) (fun _ _ _ h => h) (Or.inl ⟨by rfl, ?_⟩) ?_ ?_
    rotate_left
    ·intro w'
     go_simp
     with_reducible rfl
    rotate_left
    ·simp only [Act.put, sl0, sl1, sl2, i64_w, i32_w]
     rfl
    refine done_ (done_of HT_.out (by kernel_rfl)) ?_
    try go_wp2
    go_meet
    case rel => exact ⟨_, (t122), (by first | rfl | (simp; done) | (simp [*]; done)), (by rw [← Nbq38.out]; exact H'), ⟨by have := HK1.out; first | omega | exact Nat.le_refl _⟩, ⟨by (with_reducible repeat (first | apply Kd.R_alloc | apply Kd.R_drewN | apply Kd.R_drew)); exact Kd.R_mono HO_5.out (fun _ hk => hk.1)⟩, ⟨by (with_reducible repeat (first | apply Kd.R_alloc | apply Kd.R_drewN | apply Kd.R_drew)); exact Kd.R_mono HO_6.out (fun _ hk => hk.1)⟩, ⟨by (with_reducible repeat (first | refine blk_drewN ?_ _ | refine blk_drew ?_ | refine blk_alloc ?_ _)); rw [← Nbq38.out]; exact BK116.out⟩, ⟨by repeat (first | (with_reducible first | exact HB.out | apply below_alloc | apply pw_below_drewN | apply below_drew1 | refine below_set ?_ GE116.out) | exact HB.out)⟩⟩
   case rest =>
    clear HC30
    try clear p2
    try clear c3
    try clear q3
    try clear c4
    try clear c7
    try clear c37
    try clear q38
    try clear c39
    try clear c41
    obtain ⟨kq, x59_29, rfl, HA, HJ29, HO_5, HO_6, BK116, HB⟩ := hcut
    cases kq with
    | zero => exact absurd HA.out (by simp [hypercuberef10_Right.j1])
    | succ kj29 =>
     have H := HA.out
     clear HA
     simp only [hypercuberef10_Right.j1] at H
     by_cases c51 : x59_29 = true
     ·subst c51
      have H1 : (some false) = some r := by rw [if_pos rfl] at H; exact H
      clear H
      have H := H1
      clear H1
      obtain rfl := Option.some.inj H
      go_wp2
      go_ret
      exact ⟨by first | rfl | (simp [errW_none, errW_some] <;> rfl) | (simp [*, errW_none, errW_some] <;> rfl), by repeat (first | (with_reducible first | exact HB.out | apply below_alloc | apply pw_below_drewN | apply below_drew1 | refine below_set ?_ GE116.out) | exact HB.out)⟩
     replace c51 := Bool.eq_false_iff.mpr c51
     subst c51
     have H1 : (if ((rd_T49 l0 x7_1).f2) = true then (if x6_1.length < 17592186044416 then (hypercuberef10_Right.l0 kj29 l0 a1 t112 (x6_1 ++ [((rd_T49 l0 x7_1).f1)]) (wrap64 (x7_1 + 1))) else (none)) else (hypercuberef10_Right.l0 kj29 l0 a1 t112 x6_1 (wrap64 (x7_1 + 1)))) = some r := by rw [if_neg (show ¬ (false = true) by decide)] at H; exact H
     clear H
     have H := H1
     clear H1
     by_cases c52 : ((rd_T49 l0 x7_1).f2) = true
     rotate_left
     ·rw [if_neg c52] at H
      have c52b0 : ((rd_T49 l0 x7_1).f2) = false := by simpa using c52
      clear c52
      have H' := Aside0.mk H
      clear H
      have hcz56_0 : wc.cell? ⟨gb116, 0, none⟩ = some (.int .i64 ((rd_T49 l0 x7_1).f0)) := (blk_cell BK116.out 0).trans rfl
      have hcz56_1 : wc.cell? ⟨gb116, 1, none⟩ = some (.int .i64 ((rd_T49 l0 x7_1).f1)) := (blk_cell BK116.out 1).trans rfl
      have hcz56_2 : wc.cell? ⟨gb116, 2, none⟩ = some (.bool ((rd_T49 l0 x7_1).f2)) := (blk_cell BK116.out 2).trans (by first | exact rfl | (rw [← Nbq38.out]; exact rfl))
      have hfz56_0 := blk_frozen BK116.out 0
      have hfz56_1 := blk_frozen BK116.out 1
      have hfz56_2 := blk_frozen BK116.out 2
      go_wp2
      go_roundg kj29
      case measure => have := HK1.out; have := HJ29.out; omega
      case rel => exact ⟨(x6_1), (wrap64 (x7_1 + 1)), (by first | rfl | (simp; done) | (simp [*]; done)), H', ⟨by have := HK1.out; have := HJ29.out; omega⟩, ⟨by (with_reducible repeat (first | apply Kd.R_alloc | apply Kd.R_drewN | apply Kd.R_drew)); exact HO_5.out⟩, ⟨by (with_reducible repeat (first | apply Kd.R_alloc | apply Kd.R_drewN | apply Kd.R_drew)); exact HO_6.out⟩, ⟨by repeat (first | (with_reducible first | exact HB.out | apply below_alloc | apply pw_below_drewN | apply below_drew1 | refine below_set ?_ GE116.out) | exact HB.out)⟩⟩
     rw [if_pos c52] at H
     have c52b0 : ((rd_T49 l0 x7_1).f2) = true := c52
     clear c52
     by_cases c53 : x6_1.length < 17592186044416
     rotate_left
     ·rw [if_neg c53] at H
      exact absurd H (by simp)
     rw [if_pos c53] at H
     have LMc53 := Aside0.mk c53
     clear c53
     obtain ⟨y123, hy123⟩ : ∃ y_ : List Int, y_ = (x6_1 ++ [((rd_T49 l0 x7_1).f1)]) := ⟨_, rfl⟩
     replace H : (hypercuberef10_Right.l0 kj29 l0 a1 t112 y123 (wrap64 (x7_1 + 1))) = some r := by first | (rw [hy123]; with_reducible exact H) | (have H2_ := (Option.bind_some _ _).symm.trans H; rw [hy123]; with_reducible exact H2_) | (have H2_ := (Option.bind_some _ _).symm.trans H; with_reducible exact H2_) | with_reducible exact H | (rw [hy123]; exact H) | exact H
     have Ny123 := Aside0.mk hy123
     clear hy123
     have H' := Aside0.mk H
     clear H
     have hcz54_0 : wc.cell? ⟨gb116, 0, none⟩ = some (.int .i64 ((rd_T49 l0 x7_1).f0)) := (blk_cell BK116.out 0).trans rfl
     have hcz54_1 : wc.cell? ⟨gb116, 1, none⟩ = some (.int .i64 ((rd_T49 l0 x7_1).f1)) := (blk_cell BK116.out 1).trans rfl
     have hcz54_2 : wc.cell? ⟨gb116, 2, none⟩ = some (.bool ((rd_T49 l0 x7_1).f2)) := (blk_cell BK116.out 2).trans (by first | exact rfl | (rw [← Nbq38.out]; exact rfl))
     have hfz54_0 := blk_frozen BK116.out 0
     have hfz54_1 := blk_frozen BK116.out 1
     have hfz54_2 := blk_frozen BK116.out 2
     go_wp2_with (first | ((with_reducible refine gate_builtin (b := .append) (xs := #[.tmp 62, .tmp 65]) rfl ?_); at_builtin; refine Kd.R_append (Kd.int .i64) (w0 := w) w.heap.size rfl (.tmp 62) (.tmp 65) 24 3 (.int .i64 0) 8 rfl Try.underlying24 info3 rfl (by decide) (by omega) u6 x6_1 ((rd_T49 l0 x7_1).f1) [.int .i64 ((rd_T49 l0 x7_1).f1)] (fun k_ => some k_ ≠ (.slice (some ad117) t112.length co6 : Value).ownBlock) (fun _ => False) rfl rfl ?aP (fun _ hk => hk.elim) ?aF ?aO ?aB ?aS ?aL ?_; (case aP => exact rfl); (case aB => exact (by repeat (first | (with_reducible first | exact HB.out | apply below_alloc | apply pw_below_drewN | apply below_drew1 | refine below_set ?_ GE116.out) | exact HB.out))); (case aF => exact (fun k_ hk => Kd.fresh' (Kd.R_lt (by (with_reducible repeat (first | apply Kd.R_alloc | apply Kd.R_drewN | apply Kd.R_drew)); exact HO_5.out)) k_ hk)); (case aO => exact (by (with_reducible repeat (first | apply Kd.R_alloc | apply Kd.R_drewN | apply Kd.R_drew)); exact HO_6.out)); (case aS => exact (below_size (by repeat (first | (with_reducible first | exact HB.out | apply below_alloc | apply pw_below_drewN | apply below_drew1 | refine below_set ?_ GE116.out) | exact HB.out)))); (case aL => have := LMc53.out; omega); intro v124 w55 ho hb hg hat; rw [← Ny123.out] at ho; have n0_ := Aside0.mk (Kd.R_after (ok := (fun _ => True)) (by (with_reducible repeat (first | apply Kd.R_alloc | apply Kd.R_drewN | apply Kd.R_drew)); exact Kd.R_mono HO_5.out (fun _ hk => ⟨trivial, hk⟩)) hg hat); have n1_ := Aside0.mk (blk_grown (g := gb116) (o := .cells #[.int .i64 ((rd_T49 l0 x7_1).f0), .int .i64 ((rd_T49 l0 x7_1).f1), .bool ((rd_T49 l0 x7_1).f2)] 49 (0, 0)) (by (with_reducible repeat (first | refine blk_drewN ?_ _ | refine blk_drew ?_ | refine blk_alloc ?_ _)); exact BK116.out) hg (Kd.R_ne HO_6.out BK116.out (by decide))); have n2_ := Aside0.mk (hb); have n3_ := Aside0.mk (ho); clear HO_5; clear BK116; clear HB; clear HO_6; have HO_5 := n0_; have BK116 := n1_; have HB := n2_; have HO125 := n3_; clear n0_ n1_ n2_ n3_; clear ho hb hg hat))
     go_roundg kj29
     case measure => have := HK1.out; have := HJ29.out; omega
     case rel => exact ⟨(y123), (wrap64 (x7_1 + 1)), (by first | rfl | (simp; done) | (simp [*]; done)), H', ⟨by have := HK1.out; have := HJ29.out; omega⟩, ⟨by (with_reducible repeat (first | apply Kd.R_alloc | apply Kd.R_drewN | apply Kd.R_drew)); exact Kd.R_mono HO_5.out (fun _ hk => hk.2)⟩, ⟨by (with_reducible repeat (first | apply Kd.R_alloc | apply Kd.R_drewN | apply Kd.R_drew)); exact HO125.out⟩, ⟨by repeat (first | (with_reducible first | exact HB.out | apply below_alloc | apply pw_below_drewN | apply below_drew1 | refine below_set ?_ GE116.out) | exact HB.out)⟩⟩

end Go.Proofs.Ytlplaidcdocbmaa.PSortsRight
