-- Cut by pack.py, a program of this session; not trusted: Lean checks it.
import Derived.Test.YtlplaidcdocbmaaZPTreeDearx0
import Derived.Test.YtlplaidcdocbmaaZPTreeDearx2
import Derived.Test.YtlplaidcdocbmaaZPTreeDearx3
import Derived.Test.YtlplaidcdocbmaaZPTreeDearx4
import Derived.Test.YtlplaidcdocbmaaZPTreeDearx5
import Derived.Test.YtlplaidcdocbmaaZPTreeDearx10
namespace Go.Proofs.Ytlplaidcdocbmaa.PTreeDear
open Go.RowKit Go.Proofs.YtlplaidcdocbmaaW.PrintWords Go.Proofs.YtlplaidcdocbmaaW.PrintLast Go.Proofs.YtlplaidcdocbmaaW.PrintMore
private abbrev fl_ (a b : Nat) : Array Bool := (List.replicate a true ++ List.replicate b false).toArray
private abbrev Y : Bool := true
private abbrev Z : Bool := false
open List renaming setIfInBounds_toArray → sl0, set_cons_zero → sl1, set_cons_succ → sl2
attribute [local go_sem] max2_int min2_int max_two min_two max_three min_three max_four min_four   -- for this text's walks alone
set_option linter.unusedVariables false
set_option linter.unusedSimpArgs false

/-! ### hypercuberef10_Plan: function 44 -/
def hypercuberef10_Plan.l0 : Nat → Int → List (S49) → Int → List Int → Int → Option ((List (S49)))
 | 0, _, _, _, _, _ => none
 | k + 1, x1, x6, x7, x303000, x303001 => if x7 ≥ 0 then ((hypercuberef10_below.f k x303000 x303001 x1 x7).bind fun t306 => (if x6.length + t306.length < 5864062014805 then (hypercuberef10_Plan.l0 k x1 (x6 ++ t306) (wrap64 (x7 - 1)) x303000 x303001) else (none))) else (some x6)
def hypercuberef10_Plan.f (k : Nat) (l0_0 : List Int) (a0_1 : Int) (a1 : Int) : Option ((List (S49))) := if 0 ≤ (IntKind.u64.wrap ((l0_0.length : Int))) then (hypercuberef10_Plan.l0 k a1 (([(⟨wrap64 ((shl .i64 1 (IntKind.u64.wrap ((l0_0.length : Int)))) - 1), (-1), false⟩ : S49)] : List (S49))) (wrap64 ((l0_0.length : Int) - 1)) l0_0 a0_1) else (none)
set_option maxHeartbeats 8000000 in
set_option maxRecDepth 100000 in
theorem hypercuberef10_Plan.calls (k : Nat) (A0_0 : Option Addr) (c0_0 : Nat) (l0_0 : List Int) (a0_1 : Int) (a1 : Int) (r : List (S49)) (w : World) (hr0_0 : Kd.C (Kd.int .i64) w A0_0 l0_0.length l0_0) (hc0_0 : l0_0.length ≤ c0_0) (h : hypercuberef10_Plan.f k l0_0 a0_1 a1 = some r) :
 Calls Try.prog 44 #[.agg #[.slice A0_0 l0_0.length c0_0, .int .i64 a0_1], .int .i64 a1] w fun e w' => ∃ v0_ : Value, e = .returned (v0_) ∧ Kd.R k49 49 w' w.heap.size (fun _ => True) v0_ r ∧ Below w.heap.size w w' := by
 have hu33 := Try.underlying33
 have hu49 := Try.underlying49
 have HR0_0 := Aside0.mk hr0_0
 have HC0_0 := Aside0.mk hc0_0
 clear hr0_0 hc0_0
 have HB := Aside0.mk (Below.refl w.heap.size w)
 have H : (if 0 ≤ (IntKind.u64.wrap ((l0_0.length : Int))) then (hypercuberef10_Plan.l0 k a1 (([(⟨wrap64 ((shl .i64 1 (IntKind.u64.wrap ((l0_0.length : Int)))) - 1), (-1), false⟩ : S49)] : List (S49))) (wrap64 ((l0_0.length : Int) - 1)) l0_0 a0_1) else (none)) = some r := h
 clear h
 obtain ⟨ji3, hji3⟩ : ∃ j_ : Int, (IntKind.u64.wrap ((l0_0.length : Int))) = j_ := ⟨_, rfl⟩
 replace H : (if 0 ≤ (ji3) then (hypercuberef10_Plan.l0 k a1 (([(⟨wrap64 ((shl .i64 1 (ji3)) - 1), (-1), false⟩ : S49)] : List (S49))) (wrap64 ((l0_0.length : Int) - 1)) l0_0 a0_1) else (none)) = some r := by first | (rw [hji3] at H; exact H) | (simp only [hji3] at H ⊢; exact H)
 by_cases c4 : 0 ≤ (ji3)
 rotate_left
 ·rw [if_neg c4] at H
  exact absurd H (by simp)
 rw [if_pos c4] at H
 have c4b0 := eq_true c4
 have c4b1 : decide (0 ≤ (ji3)) = true := decide_eq_true c4
 clear c4
 obtain ⟨ji5, hji5⟩ : ∃ j_ : Int, (shl .i64 1 (ji3)) = j_ := ⟨_, rfl⟩
 replace H : (hypercuberef10_Plan.l0 k a1 (([(⟨wrap64 ((ji5) - 1), (-1), false⟩ : S49)] : List (S49))) (wrap64 ((l0_0.length : Int) - 1)) l0_0 a0_1) = some r := by first | (rw [hji5] at H; exact H) | (simp only [hji5] at H ⊢; exact H)
 have hji5_ : (IntKind.i64.wrap (1 * 2 ^ min (ji3).toNat 64)) = ji5 := hji5
 have hji5z : (ji3) ≤ 64 → (IntKind.i64.wrap (1 * 2 ^ (ji3).toNat)) = ji5 := shl_small hji5
 have hji5u : (IntKind.i64.wrap (2 ^ min (ji3).toNat 64)) = ji5 := by have h_ := hji5_; rw [Int.one_mul] at h_; exact h_
 have hji5v : (ji3) ≤ 64 → (IntKind.i64.wrap (2 ^ (ji3).toNat)) = ji5 := fun hle_ => by have h_ := hji5z hle_; rw [Int.one_mul] at h_; exact h_
 have hji5y : (wrap64 (1 * 2 ^ min (ji3).toNat 64)) = ji5 := (i64_w _).symm.trans hji5_
 have hji5x : (ji3) ≤ 64 → (wrap64 (1 * 2 ^ (ji3).toNat)) = ji5 := fun h_ => (i64_w _).symm.trans (hji5z h_)
 obtain ⟨y303, hy303⟩ : ∃ y_ : List (S49), y_ = (([(⟨wrap64 ((ji5) - 1), (-1), false⟩ : S49)] : List (S49))) := ⟨_, rfl⟩
 replace H : (hypercuberef10_Plan.l0 k a1 y303 (wrap64 ((l0_0.length : Int) - 1)) l0_0 a0_1) = some r := by first | (rw [hy303]; with_reducible exact H) | (have H2_ := (Option.bind_some _ _).symm.trans H; rw [hy303]; with_reducible exact H2_) | (have H2_ := (Option.bind_some _ _).symm.trans H; with_reducible exact H2_) | with_reducible exact H | (rw [hy303]; exact H) | exact H
 have Ny303 := Aside0.mk hy303
 clear hy303
 have H' := Aside0.mk H
 clear H
 go_enter Try.func44, Try.ntmps44
 go_wp2_with (first | ((with_reducible refine gate_dst (N := 2) rfl ?_); refine box_event ?hg (N := 2) ?hd (cs := #[.slice A0_0 l0_0.length c0_0, .int .i64 a0_1]) (t := 33) ?hr ?_; (case hd => rfl); (case hg => rfl); (case hr => first | (go_simp; done) | (go_simp; rfl)); intro gb302 hg w6 hbox hb; have n0_ := Aside0.mk (below_step (by repeat (first | (with_reducible first | exact HB.out | apply below_alloc | apply pw_below_drewN | apply below_drew1) | exact HB.out)) hb); have n1_ := Aside0.mk (hbox); have n2_ := Aside0.mk ((by rw [hg]; exact (below_size (by repeat (first | (with_reducible first | exact HB.out | apply below_alloc | apply pw_below_drewN | apply below_drew1) | exact HB.out))) : w.heap.size ≤ gb302)); have n3_ := Aside0.mk ((by rw [hg]; exact (below_size (by repeat (first | (with_reducible first | exact HB.out | apply below_alloc | apply pw_below_drewN | apply below_drew1) | exact HB.out))) : w.heap.size ≤ gb302)); clear HB; have HB := n0_; have BK302 := n1_; have GW302 := n2_; have GE302 := n3_; clear n0_ n1_ n2_ n3_; clear hb hbox hg; have hcz7_0 : w6.cell? ⟨gb302, 0, none⟩ = some (.slice A0_0 l0_0.length c0_0) := (blk_cell BK302.out 0).trans rfl; have hcz7_1 : w6.cell? ⟨gb302, 1, none⟩ = some (.int .i64 a0_1) := (blk_cell BK302.out 1).trans rfl; have hfz7_0 := blk_frozen BK302.out 0; have hfz7_1 := blk_frozen BK302.out 1) | ((with_reducible refine gate_dst (N := 16) rfl ?_); refine Kd.R_lit k49 _ 49 ?hg (N := 16) ?hd (xs := ([(⟨wrap64 ((ji5) - 1), (-1), false⟩ : S49)] : List (S49))) (inner := [.int .i64 (wrap64 ((ji5) - 1)), .int .i64 (-1), .bool false]) (ok := fun _ => True) (okp := fun _ => True) ?hr ?hp (fun _ hk => hk) trivial (Below.refl _ _) (Nat.le_refl _) (by simp) ?_; (case hd => rfl); (case hg => rfl); (case hr => first | (go_simp; done) | (go_simp; rfl)); (case hp => exact (Reps.c3 (show Kd.M k49 _ _ _ (⟨wrap64 ((ji5) - 1), (-1), false⟩ : S49) [.int .i64 (wrap64 ((ji5) - 1)), .int .i64 (-1), .bool false] from (k49_mkM _ _ _ (⟨wrap64 ((ji5) - 1), (-1), false⟩ : S49) )) (Reps.none _ _))); intro v304 w8 ho9 hb hg_ hnew_; clear hg_ hnew_; (first | rw [← Ny303.out] at ho9 | (simp only [Int.reduceToNat] at ho9; rw [← Ny303.out] at ho9)); have n0_ := Aside0.mk (Kd.R_lower ho9 (below_size (by repeat (first | (with_reducible first | exact HB.out | apply below_alloc | apply pw_below_drewN | apply below_drew1 | refine below_set ?_ GE302.out) | exact HB.out)))); have n1_ := Aside0.mk (blk_below (g := gb302) (o := .cells #[.slice A0_0 l0_0.length c0_0, .int .i64 a0_1] 33 (0, 0)) (by (with_reducible repeat (first | refine blk_drewN ?_ _ | refine blk_drew ?_ | refine blk_alloc ?_ _)); exact BK302.out) hb); have n2_ := Aside0.mk (below_step (by repeat (first | (with_reducible first | exact HB.out | apply below_alloc | apply pw_below_drewN | apply below_drew1 | refine below_set ?_ GE302.out) | exact HB.out)) hb); clear BK302; clear HB; have HO305 := n0_; have BK302 := n1_; have HB := n2_; clear n0_ n1_ n2_; clear hb ho9))
 go_loopg [6, 7] k (fun kq v6 v7 w' => ∃ (x6_1 : List (S49)) (x7_1 : Int), v7 = .int .i64 x7_1 ∧ Aside0 (hypercuberef10_Plan.l0 kq a1 x6_1 x7_1 l0_0 a0_1 = some r) ∧ Aside0 (kq ≤ k) ∧ Aside0 (Kd.R k49 49 w' w.heap.size (fun _ => True) v6 x6_1) ∧ Aside0 (w'.heap[gb302]? = some (.cells #[(.slice A0_0 l0_0.length c0_0), .int .i64 a0_1] 33 (0, 0))) ∧ Aside0 (Below w.heap.size w w'))
 case atStart => exact ⟨(y303), (wrap64 ((l0_0.length : Int) - 1)), (by first | rfl | (simp; done) | (simp [*]; done)), H', ⟨Nat.le_refl _⟩, ⟨by (with_reducible repeat (first | apply Kd.R_alloc | apply Kd.R_drewN | apply Kd.R_drew)); exact HO305.out⟩, ⟨by (with_reducible repeat (first | refine blk_drewN ?_ _ | refine blk_drew ?_ | refine blk_alloc ?_ _)); exact BK302.out⟩, ⟨by repeat (first | (with_reducible first | exact HB.out | apply below_alloc | apply pw_below_drewN | apply below_drew1 | refine below_set ?_ GE302.out) | exact HB.out)⟩⟩
 case round =>
  clear H'
  try clear p2
  try clear c3
  try clear c4
  try clear c4b0
  try clear c4b1
  try clear p6
  try clear hcz7_0
  try clear hcz7_1
  try clear hfz7_0
  try clear hfz7_1
  obtain ⟨x6_1, x7_1, rfl, HA, HK1, HO_6, BK302, HB⟩ := hrel
  cases gk with
  | zero => exact absurd HA.out (by simp [hypercuberef10_Plan.l0])
  | succ k1 =>
   have H := HA.out
   clear HA
   simp only [hypercuberef10_Plan.l0] at H
   by_cases c10 : x7_1 ≥ 0
   rotate_left
   ·rw [if_neg c10] at H
    have c10b0 : decide (0 ≤ x7_1) = false := decide_eq_false c10
    clear c10
    obtain rfl := Option.some.inj H
    go_wp2
    go_ret
    exact ⟨_, by first | rfl | (simp [errW_none, errW_some] <;> rfl) | (simp only [← hji3, ← hji5]; first | rfl | (simp [errW_none, errW_some] <;> rfl)) | (simp [*, errW_none, errW_some] <;> rfl), by (with_reducible repeat (first | apply Kd.R_alloc | apply Kd.R_drewN | apply Kd.R_drew)); exact HO_6.out, by repeat (first | (with_reducible first | exact HB.out | apply below_alloc | apply pw_below_drewN | apply below_drew1 | refine below_set ?_ GE302.out) | exact HB.out)⟩
   rw [if_pos c10] at H
   have c10b0 : decide (0 ≤ x7_1) = true := decide_eq_true c10
   clear c10
   replace H := Option.bind_eq_some_iff.mp H
   obtain ⟨t306, A110, H⟩ := H
   replace H : (if x6_1.length + t306.length < 5864062014805 then (hypercuberef10_Plan.l0 k1 a1 (x6_1 ++ t306) (wrap64 (x7_1 - 1)) l0_0 a0_1) else (none)) = some r := H
   have A11 := Aside0.mk A110
   clear A110
   by_cases c12 : x6_1.length + t306.length < 5864062014805
   rotate_left
   ·rw [if_neg c12] at H
    exact absurd H (by simp)
   rw [if_pos c12] at H
   have LMc12 := Aside0.mk c12
   clear c12
   obtain ⟨y309, hy309⟩ : ∃ y_ : List (S49), y_ = (x6_1 ++ t306) := ⟨_, rfl⟩
   replace H : (hypercuberef10_Plan.l0 k1 a1 y309 (wrap64 (x7_1 - 1)) l0_0 a0_1) = some r := by first | (rw [hy309]; with_reducible exact H) | (have H2_ := (Option.bind_some _ _).symm.trans H; rw [hy309]; with_reducible exact H2_) | (have H2_ := (Option.bind_some _ _).symm.trans H; with_reducible exact H2_) | with_reducible exact H | (rw [hy309]; exact H) | exact H
   have Ny309 := Aside0.mk hy309
   clear hy309
   have H' := Aside0.mk H
   clear H
   have hcz13_0 : wr.cell? ⟨gb302, 0, none⟩ = some (.slice A0_0 l0_0.length c0_0) := (blk_cell BK302.out 0).trans rfl
   have hcz13_1 : wr.cell? ⟨gb302, 1, none⟩ = some (.int .i64 a0_1) := (blk_cell BK302.out 1).trans rfl
   have hfz13_0 := blk_frozen BK302.out 0
   have hfz13_1 := blk_frozen BK302.out 1
   go_wp2_with (first | ((with_reducible refine gate_callee (f := 77) rfl ?_); refine goesL_ (some 27) rfl rfl Try.func77 (by kernel_rfl) rfl #[.agg #[.slice A0_0 l0_0.length c0_0, .int .i64 a0_1], .int .i64 a1, .int .i64 x7_1] rfl (by (try simp only [List.map_toArray, List.map_cons, List.map_nil]); first | done | rfl | (simp only [List.length_drop, List.length_take]; rfl)) ?_; (with_reducible refine (hypercuberef10_below.calls k1 _ _ l0_0 a0_1 a1 x7_1 t306 _ ?side1 ?side2 A11.out).mono ?_); (case side1 => repeat (first | exact (Kd.C_below HR0_0.out HB.out) | (with_reducible refine Kd.C_alloc ?_ _) | (with_reducible refine Kd.C_drewN ?_ _) | (with_reducible refine Kd.C_drew ?_))); (case side2 => exact HC0_0.out); rintro e w14 ⟨v307, rfl, ho0, hb⟩; refine ⟨_, rfl, ?_⟩; have n0_ := Aside0.mk (Kd.R_elder' (by (with_reducible repeat (first | apply Kd.R_alloc | apply Kd.R_drewN | apply Kd.R_drew)); exact HO_6.out) (Kd.R_base ho0) hb); have n1_ := Aside0.mk (Kd.R_lower (Kd.R_new' ho0 (Kd.R_lt (by (with_reducible repeat (first | apply Kd.R_alloc | apply Kd.R_drewN | apply Kd.R_drew)); exact HO_6.out))) (below_size (by repeat (first | (with_reducible first | exact HB.out | apply below_alloc | apply pw_below_drewN | apply below_drew1 | refine below_set ?_ GE302.out) | exact HB.out)))); have n2_ := Aside0.mk (blk_below (g := gb302) (o := .cells #[.slice A0_0 l0_0.length c0_0, .int .i64 a0_1] 33 (0, 0)) (by (with_reducible repeat (first | refine blk_drewN ?_ _ | refine blk_drew ?_ | refine blk_alloc ?_ _)); exact BK302.out) hb); have n3_ := Aside0.mk (below_step (by repeat (first | (with_reducible first | exact HB.out | apply below_alloc | apply pw_below_drewN | apply below_drew1 | refine below_set ?_ GE302.out) | exact HB.out)) hb); clear HO_6; clear BK302; clear HB; have HO_6 := n0_; have HO308 := n1_; have BK302 := n2_; have HB := n3_; clear n0_ n1_ n2_ n3_; (try clear hb); (try clear hb2); (try clear hk); (try clear hi); (try clear ho0); obtain ⟨Ao16, co16, eo16⟩ := Kd.R_slice HO308.out; subst eo16) | ((with_reducible refine gate_builtin (b := .append) (xs := #[.tmp 23, .tmp 27]) rfl ?_); at_builtin; refine Kd.R_append_rows k49 (w0 := w) w.heap.size rfl (.tmp 23) (.tmp 27) 43 49 (.agg #[(.int .i64 0), (.int .i64 0), (.bool false)]) 24 rfl Try.underlying43 info49 rfl (by decide) (by omega) u6 x6_1 t306 _ _ _ (fun k_ => some k_ ≠ (.slice Ao16 t306.length co16 : Value).ownBlock) (fun _ => False) rfl rfl ?aO ?aR (fun _ _ h => h) (fun _ h => h.elim) ?aF ?aB ?aS ?aL ?_; (case aR => repeat (first | exact (Kd.R_reads' HO308.out).2.2 | (with_reducible refine Kd.C_alloc ?_ _) | (with_reducible refine Kd.C_drewN ?_ _) | (with_reducible refine Kd.C_drew ?_))); (case aB => exact (by repeat (first | (with_reducible first | exact HB.out | apply below_alloc | apply pw_below_drewN | apply below_drew1 | refine below_set ?_ GE302.out) | exact HB.out))); (case aF => exact (fun k_ hk => Kd.fresh' (Kd.R_lt (by (with_reducible repeat (first | apply Kd.R_alloc | apply Kd.R_drewN | apply Kd.R_drew)); exact HO308.out)) k_ hk)); (case aO => exact (by (with_reducible repeat (first | apply Kd.R_alloc | apply Kd.R_drewN | apply Kd.R_drew)); exact Kd.R_mono HO_6.out (fun _ hk => hk.2))); (case aS => exact (below_size (by repeat (first | (with_reducible first | exact HB.out | apply below_alloc | apply pw_below_drewN | apply below_drew1 | refine below_set ?_ GE302.out) | exact HB.out)))); (case aL => have := LMc12.out; omega); intro v310 w15 ho hb hg hat; rw [← Ny309.out] at ho; have n0_ := Aside0.mk (blk_grown (g := gb302) (o := .cells #[.slice A0_0 l0_0.length c0_0, .int .i64 a0_1] 33 (0, 0)) (by (with_reducible repeat (first | refine blk_drewN ?_ _ | refine blk_drew ?_ | refine blk_alloc ?_ _)); exact BK302.out) hg (Kd.R_ne HO_6.out BK302.out (by decide))); have n1_ := Aside0.mk (Kd.R_after (ok := (fun _ => True)) (by (with_reducible repeat (first | apply Kd.R_alloc | apply Kd.R_drewN | apply Kd.R_drew)); exact HO308.out) hg hat); have n2_ := Aside0.mk (hb); have n3_ := Aside0.mk (ho); clear BK302; clear HO308; clear HB; clear HO_6; have BK302 := n0_; have HO308 := n1_; have HB := n2_; have HO311 := n3_; clear n0_ n1_ n2_ n3_; clear ho hb hg hat))
   go_roundg k1
   case measure => have := HK1.out; omega
   case rel => exact ⟨(y309), (wrap64 (x7_1 - 1)), (by first | rfl | (simp; done) | (simp [*]; done)), H', ⟨by have := HK1.out; omega⟩, ⟨by (with_reducible repeat (first | apply Kd.R_alloc | apply Kd.R_drewN | apply Kd.R_drew)); exact Kd.R_mono HO311.out (fun _ hk => trivial)⟩, ⟨by (with_reducible repeat (first | refine blk_drewN ?_ _ | refine blk_drew ?_ | refine blk_alloc ?_ _)); exact BK302.out⟩, ⟨by repeat (first | (with_reducible first | exact HB.out | apply below_alloc | apply pw_below_drewN | apply below_drew1 | refine below_set ?_ GE302.out) | exact HB.out)⟩⟩

/-! ### hypercubelaw11_TreeDear: function 9 -/
def hypercubelaw11_TreeDear.f (k : Nat) (a0 : Int) (l1 : List Int) (a2 : Int) : Option (Bool) := (hypercubelaw11_known.f).bind fun t312 => (if t312 = true then ((hypercubelaw1_Facts.f k a0 l1 0 ([] : List Int)).bind fun bt313 => ((hypercubelaw11_within.f a2 301).bind fun t321 => ((tree_Plan.f bt313.1 bt313.2.1 t321).bind fun t322 => ((hypercuberef10_Right.f k t322 (bt313.1.length : Int)).bind fun t325 => (if t325 = true then ((hypercuberef10_Plan.f k bt313.1 bt313.2.1 t321).bind fun t326 => ((hypercuberef10_Cost.f k bt313.1 bt313.2.1 t321 t326).bind fun t329 => ((hypercuberef10_Cost.f k bt313.1 bt313.2.1 t321 t322).bind fun t330 => (some (decide (t329 ≤ t330)))))) else (some false)))))) else (some false))
def hypercubelaw11_TreeDear.T6 : Bool × List (List Nat × List Nat) := (true, [([], []), ([], []), ([1], [1]), ([2], [2]), ([0, 3], [0, 3]), ([4, 4], [4]), ([5], [5]), ([5], [5]), ([5], [5]), ([5], [5]), ([8, 9, 5, 5], [5, 8, 9]), ([6, 7, 10, 10, 5], [5, 6, 7, 10]), ([5], [5]), ([5], [5]), ([5], [5]), ([12, 13, 14, 11, 5], [5, 12, 13, 14]), ([11, 15, 5], [5, 11, 15]), ([5, 16], [5, 16]), ([17, 15, 0, 1, 2, 3, 4, 5, 6, 7, 8, 9, 10, 11, 12, 13, 14, 15, 16, 17], [17])])
def hypercubelaw11_TreeDear.B6 : List Nat := [0, 0, 2, 6, 15, 31, 63, 63, 63, 63, 831, 2047, 63, 63, 63, 32767, 65535, 131071, 262143]
theorem hypercubelaw11_TreeDear.tab6 : rtab .any (opsOf Try.f9 6) = hypercubelaw11_TreeDear.T6 := by kernel_rfl
theorem hypercubelaw11_TreeDear.bits6 : waitsOk hypercubelaw11_TreeDear.T6.2 hypercubelaw11_TreeDear.B6 = true := by kernel_rfl
set_option maxHeartbeats 8000000 in
set_option maxRecDepth 100000 in
theorem hypercubelaw11_TreeDear.calls (k : Nat) (a0 : Int) (A1 : Option Addr) (c1 : Nat) (l1 : List Int) (a2 : Int) (r : Bool) (w : World) (hr1 : Kd.C (Kd.int .i64) w A1 l1.length l1) (hc1 : l1.length ≤ c1) (h : hypercubelaw11_TreeDear.f k a0 l1 a2 = some r) :
 Calls Try.prog 9 #[.int .i64 a0, .slice A1 l1.length c1, .int .i64 a2] w fun e w' => e = .returned (.bool r) ∧ Below w.heap.size w w' := by
 have hu33 := Try.underlying33
 have HR1 := Aside0.mk hr1
 have HC1 := Aside0.mk hc1
 clear hr1 hc1
 have HB := Aside0.mk (Below.refl w.heap.size w)
 have H : ((hypercubelaw11_known.f).bind fun t312 => (if t312 = true then ((hypercubelaw1_Facts.f k a0 l1 0 ([] : List Int)).bind fun bt313 => ((hypercubelaw11_within.f a2 301).bind fun t321 => ((tree_Plan.f bt313.1 bt313.2.1 t321).bind fun t322 => ((hypercuberef10_Right.f k t322 (bt313.1.length : Int)).bind fun t325 => (if t325 = true then ((hypercuberef10_Plan.f k bt313.1 bt313.2.1 t321).bind fun t326 => ((hypercuberef10_Cost.f k bt313.1 bt313.2.1 t321 t326).bind fun t329 => ((hypercuberef10_Cost.f k bt313.1 bt313.2.1 t321 t322).bind fun t330 => (some (decide (t329 ≤ t330)))))) else (some false)))))) else (some false))) = some r := h
 clear h
 replace H := Option.bind_eq_some_iff.mp H
 obtain ⟨t312, A40, H⟩ := H
 replace H : (if t312 = true then ((hypercubelaw1_Facts.f k a0 l1 0 ([] : List Int)).bind fun bt313 => ((hypercubelaw11_within.f a2 301).bind fun t321 => ((tree_Plan.f bt313.1 bt313.2.1 t321).bind fun t322 => ((hypercuberef10_Right.f k t322 (bt313.1.length : Int)).bind fun t325 => (if t325 = true then ((hypercuberef10_Plan.f k bt313.1 bt313.2.1 t321).bind fun t326 => ((hypercuberef10_Cost.f k bt313.1 bt313.2.1 t321 t326).bind fun t329 => ((hypercuberef10_Cost.f k bt313.1 bt313.2.1 t321 t322).bind fun t330 => (some (decide (t329 ≤ t330)))))) else (some false)))))) else (some false)) = some r := H
 have A4 := Aside0.mk A40
 clear A40
 by_cases c5 : t312 = true
 rotate_left
 ·replace c5 := Bool.eq_false_iff.mpr c5
  subst c5
  have H1 : (some false) = some r := by rw [if_neg (show ¬ (false = true) by decide)] at H; exact H
  clear H
  have H := H1
  clear H1
  obtain rfl := Option.some.inj H
  go_enter Try.func9, Try.ntmps9
  go_wp2_with (first | ((with_reducible refine gate_callee (f := 35) rfl ?_); refine goesL_ (some 11) rfl rfl Try.func35 (by kernel_rfl) rfl #[] rfl (by (try simp only [List.map_toArray, List.map_cons, List.map_nil]); first | done | rfl | (simp only [List.length_drop, List.length_take]; rfl)) ?_; (with_reducible refine (hypercubelaw11_known.calls  false _ A4.out).mono ?_); rintro e w36 ⟨rfl, hb⟩; refine ⟨_, rfl, ?_⟩; have n0_ := Aside0.mk (below_step (by repeat (first | (with_reducible first | exact HB.out | apply below_alloc | apply pw_below_drewN | apply below_drew1) | exact HB.out)) hb); clear HB; have HB := n0_; clear n0_; (try clear hb); (try clear hb2); (try clear hk); (try clear hi)))
  go_ret
  exact ⟨by first | rfl | (simp [errW_none, errW_some] <;> rfl) | (simp [*, errW_none, errW_some] <;> rfl), by repeat (first | (with_reducible first | exact HB.out | apply below_alloc | apply pw_below_drewN | apply below_drew1) | exact HB.out)⟩
 subst c5
 have H1 : ((hypercubelaw1_Facts.f k a0 l1 0 ([] : List Int)).bind fun bt313 => ((hypercubelaw11_within.f a2 301).bind fun t321 => ((tree_Plan.f bt313.1 bt313.2.1 t321).bind fun t322 => ((hypercuberef10_Right.f k t322 (bt313.1.length : Int)).bind fun t325 => (if t325 = true then ((hypercuberef10_Plan.f k bt313.1 bt313.2.1 t321).bind fun t326 => ((hypercuberef10_Cost.f k bt313.1 bt313.2.1 t321 t326).bind fun t329 => ((hypercuberef10_Cost.f k bt313.1 bt313.2.1 t321 t322).bind fun t330 => (some (decide (t329 ≤ t330)))))) else (some false)))))) = some r := by rw [if_pos rfl] at H; exact H
 clear H
 have H := H1
 clear H1
 replace H := Option.bind_eq_some_iff.mp H
 obtain ⟨⟨t313, t316, t317⟩, A60, H⟩ := H
 replace H : ((hypercubelaw11_within.f a2 301).bind fun t321 => ((tree_Plan.f t313 t316 t321).bind fun t322 => ((hypercuberef10_Right.f k t322 (t313.length : Int)).bind fun t325 => (if t325 = true then ((hypercuberef10_Plan.f k t313 t316 t321).bind fun t326 => ((hypercuberef10_Cost.f k t313 t316 t321 t326).bind fun t329 => ((hypercuberef10_Cost.f k t313 t316 t321 t322).bind fun t330 => (some (decide (t329 ≤ t330)))))) else (some false))))) = some r := H
 have A6 := Aside0.mk A60
 clear A60
 replace H := Option.bind_eq_some_iff.mp H
 obtain ⟨t321, A70, H⟩ := H
 replace H : ((tree_Plan.f t313 t316 t321).bind fun t322 => ((hypercuberef10_Right.f k t322 (t313.length : Int)).bind fun t325 => (if t325 = true then ((hypercuberef10_Plan.f k t313 t316 t321).bind fun t326 => ((hypercuberef10_Cost.f k t313 t316 t321 t326).bind fun t329 => ((hypercuberef10_Cost.f k t313 t316 t321 t322).bind fun t330 => (some (decide (t329 ≤ t330)))))) else (some false)))) = some r := H
 have A7 := Aside0.mk A70
 clear A70
 replace H := Option.bind_eq_some_iff.mp H
 obtain ⟨t322, A80, H⟩ := H
 replace H : ((hypercuberef10_Right.f k t322 (t313.length : Int)).bind fun t325 => (if t325 = true then ((hypercuberef10_Plan.f k t313 t316 t321).bind fun t326 => ((hypercuberef10_Cost.f k t313 t316 t321 t326).bind fun t329 => ((hypercuberef10_Cost.f k t313 t316 t321 t322).bind fun t330 => (some (decide (t329 ≤ t330)))))) else (some false))) = some r := H
 have A8 := Aside0.mk A80
 clear A80
 replace H := Option.bind_eq_some_iff.mp H
 obtain ⟨t325, A90, H⟩ := H
 replace H : (if t325 = true then ((hypercuberef10_Plan.f k t313 t316 t321).bind fun t326 => ((hypercuberef10_Cost.f k t313 t316 t321 t326).bind fun t329 => ((hypercuberef10_Cost.f k t313 t316 t321 t322).bind fun t330 => (some (decide (t329 ≤ t330)))))) else (some false)) = some r := H
 have A9 := Aside0.mk A90
 clear A90
 by_cases c10 : t325 = true
 rotate_left
 ·replace c10 := Bool.eq_false_iff.mpr c10
  subst c10
  have H1 : (some false) = some r := by rw [if_neg (show ¬ (false = true) by decide)] at H; exact H
  clear H
  have H := H1
  clear H1
  obtain rfl := Option.some.inj H
  go_enter Try.func9, Try.ntmps9
  try go_wp2_with (first | ((with_reducible refine gate_callee (f := 35) rfl ?_); refine goesL_ (some 11) rfl rfl Try.func35 (by kernel_rfl) rfl #[] rfl (by (try simp only [List.map_toArray, List.map_cons, List.map_nil]); first | done | rfl | (simp only [List.length_drop, List.length_take]; rfl)) ?_; (with_reducible refine (hypercubelaw11_known.calls  true _ A4.out).mono ?_); rintro e w27 ⟨rfl, hb⟩; refine ⟨_, rfl, ?_⟩; have n0_ := Aside0.mk (below_step (by repeat (first | (with_reducible first | exact HB.out | apply below_alloc | apply pw_below_drewN | apply below_drew1) | exact HB.out)) hb); clear HB; have HB := n0_; clear n0_; (try clear hb); (try clear hb2); (try clear hk); (try clear hi)) | ((with_reducible refine gate_callee (f := 32) rfl ?_); refine goesL_ (some 16) rfl rfl Try.func32 (by kernel_rfl) rfl #[.int .i64 a0, .slice A1 l1.length c1, .int .i64 0, .slice none 0 0] rfl (by (try simp only [List.map_toArray, List.map_cons, List.map_nil]); first | done | rfl | (simp only [List.length_drop, List.length_take]; rfl)) ?_; (refine (hypercubelaw1_Facts.calls k a0 _ _ l1 0 _ _ ([] : List Int) t313 t316 t317 _ ?side1 ?side2 ?side3 ?side4 A6.out).mono ?_); (case side1 => repeat (first | exact (Kd.C_below HR1.out HB.out) | (with_reducible refine Kd.C_alloc ?_ _) | (with_reducible refine Kd.C_drewN ?_ _) | (with_reducible refine Kd.C_drew ?_))); (case side2 => exact HC1.out); (case side3 => exact Kd.C_nil _ _); (case side4 => exact Nat.le_refl _); rintro e w28 ⟨v314, v318, rfl, ho0, ho1, hb⟩; refine ⟨_, rfl, ?_⟩; have n0_ := Aside0.mk (Kd.R_lower ho0 (below_size (by repeat (first | (with_reducible first | exact HB.out | apply below_alloc | apply pw_below_drewN | apply below_drew1) | exact HB.out)))); have n1_ := Aside0.mk (Kd.S_lower ho1 (below_size (by repeat (first | (with_reducible first | exact HB.out | apply below_alloc | apply pw_below_drewN | apply below_drew1) | exact HB.out)))); have n2_ := Aside0.mk (below_step (by repeat (first | (with_reducible first | exact HB.out | apply below_alloc | apply pw_below_drewN | apply below_drew1) | exact HB.out)) hb); clear HB; have HO315 := n0_; have HO319 := n1_; have HB := n2_; clear n0_ n1_ n2_; (try clear hb); (try clear hb2); (try clear hk); (try clear hi); (try clear ho0); (try clear ho1)) | ((with_reducible refine gate_dst (N := 7) rfl ?_); refine box_event ?hg (N := 7) ?hd (cs := #[.slice none 0 0, .int .i64 0]) (t := 33) ?hr ?_; (case hd => rfl); (case hg => rfl); (case hr => first | (go_simp; done) | (go_simp; rfl)); intro gb320 hg w29 hbox hb; have n0_ := Aside0.mk (Kd.R_below (by (with_reducible repeat (first | apply Kd.R_alloc | apply Kd.R_drewN | apply Kd.R_drew)); exact HO315.out) hb); have n1_ := Aside0.mk (Kd.S_below (by (with_reducible repeat (first | apply Kd.S_alloc | apply Kd.S_drewN | apply Kd.S_drew)); exact HO319.out) hb); have n2_ := Aside0.mk (below_step (by repeat (first | (with_reducible first | exact HB.out | apply below_alloc | apply pw_below_drewN | apply below_drew1) | exact HB.out)) hb); have n3_ := Aside0.mk (hbox); have n4_ := Aside0.mk ((by rw [hg]; exact (below_size (by repeat (first | (with_reducible first | exact HB.out | apply below_alloc | apply pw_below_drewN | apply below_drew1) | exact HB.out))) : w.heap.size ≤ gb320)); have n5_ := Aside0.mk ((by rw [hg]; exact (below_size (by repeat (first | (with_reducible first | exact HB.out | apply below_alloc | apply pw_below_drewN | apply below_drew1) | exact HB.out))) : w.heap.size ≤ gb320)); clear HO315; clear HO319; clear HB; have HO315 := n0_; have HO319 := n1_; have HB := n2_; have BK320 := n3_; have GW320 := n4_; have GE320 := n5_; clear n0_ n1_ n2_ n3_ n4_ n5_; clear hb hbox hg; obtain ⟨Ao30, co30, eo30⟩ := Kd.R_slice HO315.out; subst eo30; have hcz31_0 : w29.cell? ⟨gb320, 0, none⟩ = some (.slice none 0 0) := (blk_cell BK320.out 0).trans rfl; have hcz31_1 : w29.cell? ⟨gb320, 1, none⟩ = some (.int .i64 0) := (blk_cell BK320.out 1).trans rfl; have hfz31_0 := blk_frozen BK320.out 0; have hfz31_1 := blk_frozen BK320.out 1) | ((with_reducible refine gate_callee (f := 36) rfl ?_); refine goesL_ (some 20) rfl rfl Try.func36 (by kernel_rfl) rfl #[.int .i64 a2, .int .i64 301] rfl (by (try simp only [List.map_toArray, List.map_cons, List.map_nil]); first | done | rfl | (simp only [List.length_drop, List.length_take]; rfl)) ?_; (with_reducible refine (hypercubelaw11_within.calls a2 301 t321 _ A7.out).mono ?_); rintro e w' ⟨rfl, ⟨nd, rfl⟩⟩; refine ⟨_, rfl, ?_⟩) | ((with_reducible refine gate_callee (f := 37) rfl ?_); refine goesL_ (some 23) rfl rfl Try.func37 (by kernel_rfl) rfl #[.agg #[.slice Ao30 t313.length co30, .int .i64 t316], .int .i64 t321] rfl (by (try simp only [List.map_toArray, List.map_cons, List.map_nil]); first | done | rfl | (simp only [List.length_drop, List.length_take]; rfl)) ?_; (with_reducible refine (tree_Plan.calls _ _ t313 t316 t321 t322 _ ?side1 ?side2 A8.out).mono ?_); (case side1 => refine (Kd.R_reads' (e := 3) (base := w.heap.size) (ok := fun k_ => True) (n := t313.length) (c := co30) ?_).2.2; exact (by (with_reducible repeat (first | apply Kd.R_alloc | apply Kd.R_drewN | apply Kd.R_drew)); exact (Kd.R_mono (Kd.R_far (p := ⟨gb320, 1, none⟩) (Kd.R_far (p := ⟨gb320, 0, none⟩) (Kd.R_types HO315.out BK320.out (by decide)) (fun _ hk => hk.2) (.slice Ao30 t313.length co30)) (fun _ hk => hk.2) (.int .i64 t316)) (fun _ h_ => h_.1)))); (case side2 => exact (Kd.R_reads' HO315.out).2.1); rintro e w32 ⟨v323, rfl, ho0, hb⟩; refine ⟨_, rfl, ?_⟩; have n0_ := Aside0.mk (Kd.R_below (by (with_reducible repeat (first | apply Kd.R_alloc | apply Kd.R_drewN | apply Kd.R_drew)); exact (Kd.R_mono (Kd.R_far (p := ⟨gb320, 1, none⟩) (Kd.R_far (p := ⟨gb320, 0, none⟩) (Kd.R_types HO315.out BK320.out (by decide)) (fun _ hk => hk.2) (.slice Ao30 t313.length co30)) (fun _ hk => hk.2) (.int .i64 t316)) (fun _ h_ => h_.1))) hb); have n1_ := Aside0.mk (Kd.S_below (by (with_reducible repeat (first | apply Kd.S_alloc | apply Kd.S_drewN | apply Kd.S_drew)); exact (Kd.S_mono (Kd.S_far (p := ⟨gb320, 1, none⟩) (Kd.S_far (p := ⟨gb320, 0, none⟩) (Kd.S_types HO319.out BK320.out (by decide)) (fun _ hk => hk.2) (.slice Ao30 t313.length co30)) (fun _ hk => hk.2) (.int .i64 t316)) (fun _ h_ => h_.1))) hb); have n2_ := Aside0.mk (Kd.R_lower ho0 (below_size (by repeat (first | (with_reducible first | exact HB.out | apply below_alloc | apply pw_below_drewN | apply below_drew1 | refine below_set ?_ GE320.out) | exact HB.out)))); have n3_ := Aside0.mk (blk_below (g := gb320) (o := .cells #[.slice Ao30 t313.length co30, .int .i64 t316] 33 (0, 0)) (by (with_reducible repeat (first | refine blk_drewN ?_ _ | refine blk_drew ?_ | refine blk_alloc ?_ _)); refine blk_put (cs := #[.slice Ao30 t313.length co30, .int .i64 0]) ?_ 1 _ rfl; (with_reducible repeat (first | refine blk_drewN ?_ _ | refine blk_drew ?_ | refine blk_alloc ?_ _)); refine blk_put (cs := #[.slice none 0 0, .int .i64 0]) ?_ 0 _ rfl; (with_reducible repeat (first | refine blk_drewN ?_ _ | refine blk_drew ?_ | refine blk_alloc ?_ _)); exact BK320.out) hb); have n4_ := Aside0.mk (below_step (by repeat (first | (with_reducible first | exact HB.out | apply below_alloc | apply pw_below_drewN | apply below_drew1 | refine below_set ?_ GE320.out) | exact HB.out)) hb); clear HO315; clear HO319; clear BK320; clear HB; have HO315 := n0_; have HO319 := n1_; have HO324 := n2_; have BK320 := n3_; have HB := n4_; clear n0_ n1_ n2_ n3_ n4_; (try clear hb); (try clear hb2); (try clear hk); (try clear hi); (try clear ho0)))
  have n0_ := Aside0.mk (Kd.R_drew HO315.out)
  have n1_ := Aside0.mk (Kd.S_drew HO319.out)
  have n2_ := Aside0.mk (Kd.R_drew HO324.out)
  have n3_ := Aside0.mk (blk_drew BK320.out)
  have n4_ := Aside0.mk (below_drew1 HB.out)
  clear HO315
  clear HO319
  clear HO324
  clear BK320
  clear HB
  have HO315 := n0_
  have HO319 := n1_
  have HO324 := n2_
  have BK320 := n3_
  have HB := n4_
  clear n0_ n1_ n2_ n3_ n4_
  obtain ⟨Ao34, co34, eo34⟩ := Kd.R_slice HO324.out
  (first | subst eo34 | (injection eo34 with f1_ f2_ f3_; have f4_ := f1_.symm; have f5_ := f3_.symm; clear f1_ f2_ f3_; subst f4_; subst f5_))
  refine start_ (n := 19) (S := fun w' => w'.cell? ⟨gb320, 0, none⟩ = some (.slice Ao30 t313.length co30) ∧ w'.cell? ⟨gb320, 1, none⟩ = some (.int .i64 t316)) (ds := []) (fl_ 0 19) (by kernel_rfl) rfl rfl ⟨(blk_cell BK320.out 0).trans rfl, (blk_cell BK320.out 1).trans rfl⟩ (fun hHeld => ?_); refine with_tabW hypercubelaw11_TreeDear.tab6 hypercubelaw11_TreeDear.bits6 (fun HT_ HW_ => ?_)
  generalize w32.drew = w33 at HO315 HO319 HO324 BK320 HB hHeld ⊢
  refine pure_ (i := 0) (N := some 24) (v := ?_) (a' := ?_) (fl_ 1 18) rfl rfl (any_of HT_.out (by kernel_rfl)) (fun _ _ _ h => h) (Or.inl ⟨by rfl, ?_⟩) ?_ ?_
  rotate_left
  ·intro w'
   go_simp
   with_reducible rfl
  rotate_left
  ·simp only [Act.put, sl0, sl1, sl2, i64_w, i32_w]
   rfl
  refine pure_ (i := 1) (N := some 25) (v := ?_) (a' := ?_) (fl_ 2 17) rfl rfl (any_of HT_.out (by kernel_rfl)) (fun _ _ _ h => h) (Or.inl ⟨by rfl, ?_⟩) ?_ ?_
  rotate_left
  ·intro w'
   go_simp
   with_reducible rfl
  rotate_left
  ·simp only [Act.put, sl0, sl1, sl2, i64_w, i32_w]
   rfl
  refine take_ (i := 2) (N := some 26) (v := ?_) (a' := ?_) (fl_ 3 16) rfl rfl (take_ofW HT_.out HW_.out (by kernel_rfl)) (fun _ _ _ h => h) (Or.inl ⟨by rfl, ?_⟩) hHeld ?_ ?_
  rotate_left
  ·rintro w' ⟨s0, s1⟩
   go_simp
   with_reducible rfl
  rotate_left
  ·simp only [Act.put, sl0, sl1, sl2, i64_w, i32_w]
   rfl
  refine pure_ (i := 3) (N := some 27) (v := ?_) (a' := ?_) (fl_ 4 15) rfl rfl (any_of HT_.out (by kernel_rfl)) (fun _ _ _ h => h) (Or.inl ⟨by rfl, ?_⟩) ?_ ?_
  rotate_left
  ·intro w'
   go_simp
   with_reducible rfl
  rotate_left
  ·simp only [Act.put, sl0, sl1, sl2, i64_w, i32_w]
   rfl
  refine one_ (i := 4) (N := some 28) (fl_ 5 14) rfl rfl (one_of HT_.out (by kernel_rfl)) (by decide) (fun K hK => ?_)
  refine goes_ Try.func40 (by kernel_rfl) rfl #[.slice Ao34 t322.length co34, .int .i64 (t313.length : Int)] (by rfl) rfl rfl (by (try simp only [List.map_toArray, List.map_cons, List.map_nil]); first | done | rfl | (simp only [List.length_drop, List.length_take]; rfl)) ?_
  with_reducible refine (hypercuberef10_Right.calls k _ _ t322 (t313.length : Int) false _ ?side1 ?side2 A9.out).mono ?_
  (case side1 => repeat (first | exact (Kd.R_reads' HO324.out).2.2 | (with_reducible refine Kd.C_alloc ?_ _) | (with_reducible refine Kd.C_drewN ?_ _) | (with_reducible refine Kd.C_drew ?_)))
  (case side2 => exact (Kd.R_reads' HO324.out).2.1)
  rintro e w35 ⟨rfl, hb⟩
  refine ⟨_, rfl, ?_⟩
  have n0_ := Aside0.mk (Kd.R_below (by (with_reducible repeat (first | apply Kd.R_alloc | apply Kd.R_drewN | apply Kd.R_drew)); exact HO315.out) hb)
  have n1_ := Aside0.mk (Kd.S_below (by (with_reducible repeat (first | apply Kd.S_alloc | apply Kd.S_drewN | apply Kd.S_drew)); exact HO319.out) hb)
  have n2_ := Aside0.mk (Kd.R_below (by (with_reducible repeat (first | apply Kd.R_alloc | apply Kd.R_drewN | apply Kd.R_drew)); exact HO324.out) hb)
  have n3_ := Aside0.mk (blk_below (g := gb320) (o := .cells #[.slice Ao30 t313.length co30, .int .i64 t316] 33 (0, 0)) (by (with_reducible repeat (first | refine blk_drewN ?_ _ | refine blk_drew ?_ | refine blk_alloc ?_ _)); exact BK320.out) hb)
  have n4_ := Aside0.mk (below_step (by repeat (first | (with_reducible first | exact HB.out | apply below_alloc | apply pw_below_drewN | apply below_drew1 | refine below_set ?_ GE320.out) | exact HB.out)) hb)
  clear HO315
  clear HO319
  clear HO324
  clear BK320
  clear HB
  have HO315 := n0_
  have HO319 := n1_
  have HO324 := n2_
  have BK320 := n3_
  have HB := n4_
  clear n0_ n1_ n2_ n3_ n4_
  (try clear hb)
  (try clear hb2)
  (try clear hk)
  (try clear hi)
  refine hK.out _ _ ⟨(blk_cell BK320.out 0).trans rfl, (blk_cell BK320.out 1).trans rfl⟩ (fun hHeld => ?_)
  clear hK K
  refine norm_ (a' := ?_) ?_ ?_
  rotate_left
  ·show Act.put _ (some 28) _ = _
   simp only [Act.put, sl0, sl1, sl2, i64_w, i32_w]
   rfl
  refine pure_ (i := 5) (N := some 29) (v := ?_) (a' := ?_) (fl_ 6 13) rfl rfl (any_of HT_.out (by kernel_rfl)) (fun _ _ _ h => h) (Or.inl ⟨by rfl, ?_⟩) ?_ ?_
  rotate_left
  ·intro w'
   go_simp
   with_reducible rfl
  rotate_left
  ·simp only [Act.put, sl0, sl1, sl2, i64_w, i32_w]
   rfl
  refine pure_ (i := 6) (N := some 30) (v := undef) (a' := ?_) (fl_ 7 12) rfl rfl (any_of HT_.out (by kernel_rfl)) (fun _ _ _ h => h) (Or.inr ⟨by rfl, rfl⟩) ?_ ?_
  rotate_left
  ·simp only [Act.put, sl0, sl1, sl2, i64_w, i32_w]
   rfl
  refine pure_ (i := 7) (N := some 31) (v := undef) (a' := ?_) (fl_ 8 11) rfl rfl (any_of HT_.out (by kernel_rfl)) (fun _ _ _ h => h) (Or.inr ⟨by rfl, rfl⟩) ?_ ?_
  rotate_left
  ·simp only [Act.put, sl0, sl1, sl2, i64_w, i32_w]
   rfl
  refine pure_ (i := 8) (N := some 32) (v := undef) (a' := ?_) (fl_ 9 10) rfl rfl (any_of HT_.out (by kernel_rfl)) (fun _ _ _ h => h) (Or.inr ⟨by rfl, rfl⟩) ?_ ?_
  rotate_left
  ·simp only [Act.put, sl0, sl1, sl2, i64_w, i32_w]
   rfl
  refine pure_ (i := 9) (N := some 33) (v := undef) (a' := ?_) (fl_ 10 9) rfl rfl (any_of HT_.out (by kernel_rfl)) (fun _ _ _ h => h) (Or.inr ⟨by rfl, rfl⟩) ?_ ?_
  rotate_left
  ·simp only [Act.put, sl0, sl1, sl2, i64_w, i32_w]
   rfl
  refine pure_ (i := 10) (N := some 34) (v := undef) (a' := ?_) (fl_ 11 8) rfl rfl (any_of HT_.out (by kernel_rfl)) (fun _ _ _ h => h) (Or.inr ⟨by rfl, rfl⟩) ?_ ?_
  rotate_left
  ·simp only [Act.put, sl0, sl1, sl2, i64_w, i32_w]
   rfl
  refine pure_ (i := 11) (N := some 35) (v := undef) (a' := ?_) (fl_ 12 7) rfl rfl (any_of HT_.out (by kernel_rfl)) (fun _ _ _ h => h) (Or.inr ⟨by rfl, rfl⟩) ?_ ?_
  rotate_left
  ·simp only [Act.put, sl0, sl1, sl2, i64_w, i32_w]
   rfl
  refine pure_ (i := 12) (N := some 36) (v := undef) (a' := ?_) (fl_ 13 6) rfl rfl (any_of HT_.out (by kernel_rfl)) (fun _ _ _ h => h) (Or.inr ⟨by rfl, rfl⟩) ?_ ?_
  rotate_left
  ·simp only [Act.put, sl0, sl1, sl2, i64_w, i32_w]
   rfl
  refine pure_ (i := 13) (N := some 37) (v := undef) (a' := ?_) (fl_ 14 5) rfl rfl (any_of HT_.out (by kernel_rfl)) (fun _ _ _ h => h) (Or.inr ⟨by rfl, rfl⟩) ?_ ?_
  rotate_left
  ·simp only [Act.put, sl0, sl1, sl2, i64_w, i32_w]
   rfl
  refine pure_ (i := 14) (N := some 38) (v := undef) (a' := ?_) (fl_ 15 4) rfl rfl (any_of HT_.out (by kernel_rfl)) (fun _ _ _ h => h) (Or.inr ⟨by rfl, rfl⟩) ?_ ?_
  rotate_left
  ·simp only [Act.put, sl0, sl1, sl2, i64_w, i32_w]
   rfl
  refine pure_ (i := 15) (N := some 39) (v := undef) (a' := ?_) (fl_ 16 3) rfl rfl (any_of HT_.out (by kernel_rfl)) (fun _ _ _ h => h) (Or.inr ⟨by rfl, rfl⟩) ?_ ?_
  rotate_left
  ·simp only [Act.put, sl0, sl1, sl2, i64_w, i32_w]
   rfl
  refine pure_ (i := 16) (N := some 40) (v := undef) (a' := ?_) (fl_ 17 2) rfl rfl (any_of HT_.out (by kernel_rfl)) (fun _ _ _ h => h) (Or.inr ⟨by rfl, rfl⟩) ?_ ?_
  rotate_left
  ·simp only [Act.put, sl0, sl1, sl2, i64_w, i32_w]
   rfl
  refine pure_ (i := 17) (N := some 41) (v := ?_) (a' := ?_) (fl_ 18 1) rfl rfl (any_of HT_.out (by kernel_rfl)) (fun _ _ _ h => h) (Or.inl ⟨by rfl, ?_⟩) ?_ ?_
  rotate_left
  ·intro w'
   go_simp
   with_reducible rfl
  rotate_left
  ·simp only [Act.put, sl0, sl1, sl2, i64_w, i32_w]
   rfl
  refine pure_ (i := 18) (N := some 6) (v := ?_) (a' := ?_) (fl_ 19 0) rfl rfl (any_of HT_.out (by kernel_rfl)) (fun _ _ _ h => h) (Or.inl ⟨by rfl, ?_⟩) ?_ ?_
  rotate_left
  ·intro w'
   go_simp
   with_reducible rfl
  rotate_left
  ·simp only [Act.put, sl0, sl1, sl2, i64_w, i32_w]
   rfl
  refine done_ (done_of HT_.out (by kernel_rfl)) ?_
  try go_wp2
  go_ret
  exact ⟨by first | rfl | (simp [errW_none, errW_some] <;> rfl) | (simp [*, errW_none, errW_some] <;> rfl), by repeat (first | (with_reducible first | exact HB.out | apply below_alloc | apply pw_below_drewN | apply below_drew1 | refine below_set ?_ GE320.out) | exact HB.out)⟩
 subst c10
 have H1 : ((hypercuberef10_Plan.f k t313 t316 t321).bind fun t326 => ((hypercuberef10_Cost.f k t313 t316 t321 t326).bind fun t329 => ((hypercuberef10_Cost.f k t313 t316 t321 t322).bind fun t330 => (some (decide (t329 ≤ t330)))))) = some r := by rw [if_pos rfl] at H; exact H
 clear H
 have H := H1
 clear H1
 replace H := Option.bind_eq_some_iff.mp H
 obtain ⟨t326, A110, H⟩ := H
 replace H : ((hypercuberef10_Cost.f k t313 t316 t321 t326).bind fun t329 => ((hypercuberef10_Cost.f k t313 t316 t321 t322).bind fun t330 => (some (decide (t329 ≤ t330))))) = some r := H
 have A11 := Aside0.mk A110
 clear A110
 replace H := Option.bind_eq_some_iff.mp H
 obtain ⟨t329, A120, H⟩ := H
 replace H : ((hypercuberef10_Cost.f k t313 t316 t321 t322).bind fun t330 => (some (decide (t329 ≤ t330)))) = some r := H
 have A12 := Aside0.mk A120
 clear A120
 replace H := Option.bind_eq_some_iff.mp H
 obtain ⟨t330, A130, H⟩ := H
 replace H : (some (decide (t329 ≤ t330))) = some r := H
 have A13 := Aside0.mk A130
 clear A130
 obtain rfl := Option.some.inj H
 go_enter Try.func9, Try.ntmps9
 try go_wp2_with (first | ((with_reducible refine gate_callee (f := 35) rfl ?_); refine goesL_ (some 11) rfl rfl Try.func35 (by kernel_rfl) rfl #[] rfl (by (try simp only [List.map_toArray, List.map_cons, List.map_nil]); first | done | rfl | (simp only [List.length_drop, List.length_take]; rfl)) ?_; (with_reducible refine (hypercubelaw11_known.calls  true _ A4.out).mono ?_); rintro e w14 ⟨rfl, hb⟩; refine ⟨_, rfl, ?_⟩; have n0_ := Aside0.mk (below_step (by repeat (first | (with_reducible first | exact HB.out | apply below_alloc | apply pw_below_drewN | apply below_drew1) | exact HB.out)) hb); clear HB; have HB := n0_; clear n0_; (try clear hb); (try clear hb2); (try clear hk); (try clear hi)) | ((with_reducible refine gate_callee (f := 32) rfl ?_); refine goesL_ (some 16) rfl rfl Try.func32 (by kernel_rfl) rfl #[.int .i64 a0, .slice A1 l1.length c1, .int .i64 0, .slice none 0 0] rfl (by (try simp only [List.map_toArray, List.map_cons, List.map_nil]); first | done | rfl | (simp only [List.length_drop, List.length_take]; rfl)) ?_; (refine (hypercubelaw1_Facts.calls k a0 _ _ l1 0 _ _ ([] : List Int) t313 t316 t317 _ ?side1 ?side2 ?side3 ?side4 A6.out).mono ?_); (case side1 => repeat (first | exact (Kd.C_below HR1.out HB.out) | (with_reducible refine Kd.C_alloc ?_ _) | (with_reducible refine Kd.C_drewN ?_ _) | (with_reducible refine Kd.C_drew ?_))); (case side2 => exact HC1.out); (case side3 => exact Kd.C_nil _ _); (case side4 => exact Nat.le_refl _); rintro e w15 ⟨v314, v318, rfl, ho0, ho1, hb⟩; refine ⟨_, rfl, ?_⟩; have n0_ := Aside0.mk (Kd.R_lower ho0 (below_size (by repeat (first | (with_reducible first | exact HB.out | apply below_alloc | apply pw_below_drewN | apply below_drew1) | exact HB.out)))); have n1_ := Aside0.mk (Kd.S_lower ho1 (below_size (by repeat (first | (with_reducible first | exact HB.out | apply below_alloc | apply pw_below_drewN | apply below_drew1) | exact HB.out)))); have n2_ := Aside0.mk (below_step (by repeat (first | (with_reducible first | exact HB.out | apply below_alloc | apply pw_below_drewN | apply below_drew1) | exact HB.out)) hb); clear HB; have HO315 := n0_; have HO319 := n1_; have HB := n2_; clear n0_ n1_ n2_; (try clear hb); (try clear hb2); (try clear hk); (try clear hi); (try clear ho0); (try clear ho1)) | ((with_reducible refine gate_dst (N := 7) rfl ?_); refine box_event ?hg (N := 7) ?hd (cs := #[.slice none 0 0, .int .i64 0]) (t := 33) ?hr ?_; (case hd => rfl); (case hg => rfl); (case hr => first | (go_simp; done) | (go_simp; rfl)); intro gb320 hg w16 hbox hb; have n0_ := Aside0.mk (Kd.R_below (by (with_reducible repeat (first | apply Kd.R_alloc | apply Kd.R_drewN | apply Kd.R_drew)); exact HO315.out) hb); have n1_ := Aside0.mk (Kd.S_below (by (with_reducible repeat (first | apply Kd.S_alloc | apply Kd.S_drewN | apply Kd.S_drew)); exact HO319.out) hb); have n2_ := Aside0.mk (below_step (by repeat (first | (with_reducible first | exact HB.out | apply below_alloc | apply pw_below_drewN | apply below_drew1) | exact HB.out)) hb); have n3_ := Aside0.mk (hbox); have n4_ := Aside0.mk ((by rw [hg]; exact (below_size (by repeat (first | (with_reducible first | exact HB.out | apply below_alloc | apply pw_below_drewN | apply below_drew1) | exact HB.out))) : w.heap.size ≤ gb320)); have n5_ := Aside0.mk ((by rw [hg]; exact (below_size (by repeat (first | (with_reducible first | exact HB.out | apply below_alloc | apply pw_below_drewN | apply below_drew1) | exact HB.out))) : w.heap.size ≤ gb320)); clear HO315; clear HO319; clear HB; have HO315 := n0_; have HO319 := n1_; have HB := n2_; have BK320 := n3_; have GW320 := n4_; have GE320 := n5_; clear n0_ n1_ n2_ n3_ n4_ n5_; clear hb hbox hg; obtain ⟨Ao17, co17, eo17⟩ := Kd.R_slice HO315.out; subst eo17; have hcz18_0 : w16.cell? ⟨gb320, 0, none⟩ = some (.slice none 0 0) := (blk_cell BK320.out 0).trans rfl; have hcz18_1 : w16.cell? ⟨gb320, 1, none⟩ = some (.int .i64 0) := (blk_cell BK320.out 1).trans rfl; have hfz18_0 := blk_frozen BK320.out 0; have hfz18_1 := blk_frozen BK320.out 1) | ((with_reducible refine gate_callee (f := 36) rfl ?_); refine goesL_ (some 20) rfl rfl Try.func36 (by kernel_rfl) rfl #[.int .i64 a2, .int .i64 301] rfl (by (try simp only [List.map_toArray, List.map_cons, List.map_nil]); first | done | rfl | (simp only [List.length_drop, List.length_take]; rfl)) ?_; (with_reducible refine (hypercubelaw11_within.calls a2 301 t321 _ A7.out).mono ?_); rintro e w' ⟨rfl, ⟨nd, rfl⟩⟩; refine ⟨_, rfl, ?_⟩) | ((with_reducible refine gate_callee (f := 37) rfl ?_); refine goesL_ (some 23) rfl rfl Try.func37 (by kernel_rfl) rfl #[.agg #[.slice Ao17 t313.length co17, .int .i64 t316], .int .i64 t321] rfl (by (try simp only [List.map_toArray, List.map_cons, List.map_nil]); first | done | rfl | (simp only [List.length_drop, List.length_take]; rfl)) ?_; (with_reducible refine (tree_Plan.calls _ _ t313 t316 t321 t322 _ ?side1 ?side2 A8.out).mono ?_); (case side1 => refine (Kd.R_reads' (e := 3) (base := w.heap.size) (ok := fun k_ => True) (n := t313.length) (c := co17) ?_).2.2; exact (by (with_reducible repeat (first | apply Kd.R_alloc | apply Kd.R_drewN | apply Kd.R_drew)); exact (Kd.R_mono (Kd.R_far (p := ⟨gb320, 1, none⟩) (Kd.R_far (p := ⟨gb320, 0, none⟩) (Kd.R_types HO315.out BK320.out (by decide)) (fun _ hk => hk.2) (.slice Ao17 t313.length co17)) (fun _ hk => hk.2) (.int .i64 t316)) (fun _ h_ => h_.1)))); (case side2 => exact (Kd.R_reads' HO315.out).2.1); rintro e w19 ⟨v323, rfl, ho0, hb⟩; refine ⟨_, rfl, ?_⟩; have n0_ := Aside0.mk (Kd.R_below (by (with_reducible repeat (first | apply Kd.R_alloc | apply Kd.R_drewN | apply Kd.R_drew)); exact (Kd.R_mono (Kd.R_far (p := ⟨gb320, 1, none⟩) (Kd.R_far (p := ⟨gb320, 0, none⟩) (Kd.R_types HO315.out BK320.out (by decide)) (fun _ hk => hk.2) (.slice Ao17 t313.length co17)) (fun _ hk => hk.2) (.int .i64 t316)) (fun _ h_ => h_.1))) hb); have n1_ := Aside0.mk (Kd.S_below (by (with_reducible repeat (first | apply Kd.S_alloc | apply Kd.S_drewN | apply Kd.S_drew)); exact (Kd.S_mono (Kd.S_far (p := ⟨gb320, 1, none⟩) (Kd.S_far (p := ⟨gb320, 0, none⟩) (Kd.S_types HO319.out BK320.out (by decide)) (fun _ hk => hk.2) (.slice Ao17 t313.length co17)) (fun _ hk => hk.2) (.int .i64 t316)) (fun _ h_ => h_.1))) hb); have n2_ := Aside0.mk (Kd.R_lower ho0 (below_size (by repeat (first | (with_reducible first | exact HB.out | apply below_alloc | apply pw_below_drewN | apply below_drew1 | refine below_set ?_ GE320.out) | exact HB.out)))); have n3_ := Aside0.mk (blk_below (g := gb320) (o := .cells #[.slice Ao17 t313.length co17, .int .i64 t316] 33 (0, 0)) (by (with_reducible repeat (first | refine blk_drewN ?_ _ | refine blk_drew ?_ | refine blk_alloc ?_ _)); refine blk_put (cs := #[.slice Ao17 t313.length co17, .int .i64 0]) ?_ 1 _ rfl; (with_reducible repeat (first | refine blk_drewN ?_ _ | refine blk_drew ?_ | refine blk_alloc ?_ _)); refine blk_put (cs := #[.slice none 0 0, .int .i64 0]) ?_ 0 _ rfl; (with_reducible repeat (first | refine blk_drewN ?_ _ | refine blk_drew ?_ | refine blk_alloc ?_ _)); exact BK320.out) hb); have n4_ := Aside0.mk (below_step (by repeat (first | (with_reducible first | exact HB.out | apply below_alloc | apply pw_below_drewN | apply below_drew1 | refine below_set ?_ GE320.out) | exact HB.out)) hb); clear HO315; clear HO319; clear BK320; clear HB; have HO315 := n0_; have HO319 := n1_; have HO324 := n2_; have BK320 := n3_; have HB := n4_; clear n0_ n1_ n2_ n3_ n4_; (try clear hb); (try clear hb2); (try clear hk); (try clear hi); (try clear ho0)))
 have n0_ := Aside0.mk (Kd.R_drew HO315.out)
 have n1_ := Aside0.mk (Kd.S_drew HO319.out)
 have n2_ := Aside0.mk (Kd.R_drew HO324.out)
 have n3_ := Aside0.mk (blk_drew BK320.out)
 have n4_ := Aside0.mk (below_drew1 HB.out)
 clear HO315
 clear HO319
 clear HO324
 clear BK320
 clear HB
 have HO315 := n0_
 have HO319 := n1_
 have HO324 := n2_
 have BK320 := n3_
 have HB := n4_
 clear n0_ n1_ n2_ n3_ n4_
 obtain ⟨Ao21, co21, eo21⟩ := Kd.R_slice HO324.out
 (first | subst eo21 | (injection eo21 with f1_ f2_ f3_; have f4_ := f1_.symm; have f5_ := f3_.symm; clear f1_ f2_ f3_; subst f4_; subst f5_))
 refine start_ (n := 19) (S := fun w' => w'.cell? ⟨gb320, 0, none⟩ = some (.slice Ao17 t313.length co17) ∧ w'.cell? ⟨gb320, 1, none⟩ = some (.int .i64 t316)) (ds := []) (fl_ 0 19) (by kernel_rfl) rfl rfl ⟨(blk_cell BK320.out 0).trans rfl, (blk_cell BK320.out 1).trans rfl⟩ (fun hHeld => ?_); refine with_tabW hypercubelaw11_TreeDear.tab6 hypercubelaw11_TreeDear.bits6 (fun HT_ HW_ => ?_)
 generalize w19.drew = w20 at HO315 HO319 HO324 BK320 HB hHeld ⊢
 refine pure_ (i := 0) (N := some 24) (v := ?_) (a' := ?_) (fl_ 1 18) rfl rfl (any_of HT_.out (by kernel_rfl)) (fun _ _ _ h => h) (Or.inl ⟨by rfl, ?_⟩) ?_ ?_
 rotate_left
 ·intro w'
  go_simp
  with_reducible rfl
 rotate_left
 ·simp only [Act.put, sl0, sl1, sl2, i64_w, i32_w]
  rfl
 refine pure_ (i := 1) (N := some 25) (v := ?_) (a' := ?_) (fl_ 2 17) rfl rfl (any_of HT_.out (by kernel_rfl)) (fun _ _ _ h => h) (Or.inl ⟨by rfl, ?_⟩) ?_ ?_
 rotate_left
 ·intro w'
  go_simp
  with_reducible rfl
 rotate_left
 ·simp only [Act.put, sl0, sl1, sl2, i64_w, i32_w]
  rfl
 refine take_ (i := 2) (N := some 26) (v := ?_) (a' := ?_) (fl_ 3 16) rfl rfl (take_ofW HT_.out HW_.out (by kernel_rfl)) (fun _ _ _ h => h) (Or.inl ⟨by rfl, ?_⟩) hHeld ?_ ?_
 rotate_left
 ·rintro w' ⟨s0, s1⟩
  go_simp
  with_reducible rfl
 rotate_left
 ·simp only [Act.put, sl0, sl1, sl2, i64_w, i32_w]
  rfl
 refine pure_ (i := 3) (N := some 27) (v := ?_) (a' := ?_) (fl_ 4 15) rfl rfl (any_of HT_.out (by kernel_rfl)) (fun _ _ _ h => h) (Or.inl ⟨by rfl, ?_⟩) ?_ ?_
 rotate_left
 ·intro w'
  go_simp
  with_reducible rfl
 rotate_left
 ·simp only [Act.put, sl0, sl1, sl2, i64_w, i32_w]
  rfl
 refine one_ (i := 4) (N := some 28) (fl_ 5 14) rfl rfl (one_of HT_.out (by kernel_rfl)) (by decide) (fun K hK => ?_)
 refine goes_ Try.func40 (by kernel_rfl) rfl #[.slice Ao21 t322.length co21, .int .i64 (t313.length : Int)] (by rfl) rfl rfl (by (try simp only [List.map_toArray, List.map_cons, List.map_nil]); first | done | rfl | (simp only [List.length_drop, List.length_take]; rfl)) ?_
 with_reducible refine (hypercuberef10_Right.calls k _ _ t322 (t313.length : Int) true _ ?side1 ?side2 A9.out).mono ?_
 (case side1 => repeat (first | exact (Kd.R_reads' HO324.out).2.2 | (with_reducible refine Kd.C_alloc ?_ _) | (with_reducible refine Kd.C_drewN ?_ _) | (with_reducible refine Kd.C_drew ?_)))
 (case side2 => exact (Kd.R_reads' HO324.out).2.1)
 rintro e w22 ⟨rfl, hb⟩
 refine ⟨_, rfl, ?_⟩
 have n0_ := Aside0.mk (Kd.R_below (by (with_reducible repeat (first | apply Kd.R_alloc | apply Kd.R_drewN | apply Kd.R_drew)); exact HO315.out) hb)
 have n1_ := Aside0.mk (Kd.S_below (by (with_reducible repeat (first | apply Kd.S_alloc | apply Kd.S_drewN | apply Kd.S_drew)); exact HO319.out) hb)
 have n2_ := Aside0.mk (Kd.R_below (by (with_reducible repeat (first | apply Kd.R_alloc | apply Kd.R_drewN | apply Kd.R_drew)); exact HO324.out) hb)
 have n3_ := Aside0.mk (blk_below (g := gb320) (o := .cells #[.slice Ao17 t313.length co17, .int .i64 t316] 33 (0, 0)) (by (with_reducible repeat (first | refine blk_drewN ?_ _ | refine blk_drew ?_ | refine blk_alloc ?_ _)); exact BK320.out) hb)
 have n4_ := Aside0.mk (below_step (by repeat (first | (with_reducible first | exact HB.out | apply below_alloc | apply pw_below_drewN | apply below_drew1 | refine below_set ?_ GE320.out) | exact HB.out)) hb)
 clear HO315
 clear HO319
 clear HO324
 clear BK320
 clear HB
 have HO315 := n0_
 have HO319 := n1_
 have HO324 := n2_
 have BK320 := n3_
 have HB := n4_
 clear n0_ n1_ n2_ n3_ n4_
 (try clear hb)
 (try clear hb2)
 (try clear hk)
 (try clear hi)
 refine hK.out _ _ ⟨(blk_cell BK320.out 0).trans rfl, (blk_cell BK320.out 1).trans rfl⟩ (fun hHeld => ?_)
 clear hK K
 refine norm_ (a' := ?_) ?_ ?_
 rotate_left
 ·show Act.put _ (some 28) _ = _
  simp only [Act.put, sl0, sl1, sl2, i64_w, i32_w]
  rfl
 refine pure_ (i := 5) (N := some 29) (v := ?_) (a' := ?_) (fl_ 6 13) rfl rfl (any_of HT_.out (by kernel_rfl)) (fun _ _ _ h => h) (Or.inl ⟨by rfl, ?_⟩) ?_ ?_
 rotate_left
 ·intro w'
  go_simp
  with_reducible rfl
 rotate_left
 ·simp only [Act.put, sl0, sl1, sl2, i64_w, i32_w]
  rfl
 refine pure_ (i := 7) (N := some 31) (v := ?_) (a' := ?_) #[Y,Y,Y,Y,Y,Y,Z,Y,Z,Z,Z,Z,Z,Z,Z,Z,Z,Z,Z] rfl rfl (any_of HT_.out (by kernel_rfl)) (fun _ _ _ h => h) (Or.inl ⟨by rfl, ?_⟩) ?_ ?_
 rotate_left
 ·intro w'
  go_simp
  with_reducible rfl
 rotate_left
 ·simp only [Act.put, sl0, sl1, sl2, i64_w, i32_w]
  rfl
 refine pure_ (i := 9) (N := some 33) (v := ?_) (a' := ?_) #[Y,Y,Y,Y,Y,Y,Z,Y,Z,Y,Z,Z,Z,Z,Z,Z,Z,Z,Z] rfl rfl (any_of HT_.out (by kernel_rfl)) (fun _ _ _ h => h) (Or.inl ⟨by rfl, ?_⟩) ?_ ?_
 rotate_left
 ·intro w'
  go_simp
  with_reducible rfl
 rotate_left
 ·simp only [Act.put, sl0, sl1, sl2, i64_w, i32_w]
  rfl
 refine pure_ (i := 13) (N := some 37) (v := ?_) (a' := ?_) #[Y,Y,Y,Y,Y,Y,Z,Y,Z,Y,Z,Z,Z,Y,Z,Z,Z,Z,Z] rfl rfl (any_of HT_.out (by kernel_rfl)) (fun _ _ _ h => h) (Or.inl ⟨by rfl, ?_⟩) ?_ ?_
 rotate_left
 ·intro w'
  go_simp
  with_reducible rfl
 rotate_left
 ·simp only [Act.put, sl0, sl1, sl2, i64_w, i32_w]
  rfl
 refine pure_ (i := 14) (N := some 38) (v := ?_) (a' := ?_) #[Y,Y,Y,Y,Y,Y,Z,Y,Z,Y,Z,Z,Z,Y,Y,Z,Z,Z,Z] rfl rfl (any_of HT_.out (by kernel_rfl)) (fun _ _ _ h => h) (Or.inl ⟨by rfl, ?_⟩) ?_ ?_
 rotate_left
 ·intro w'
  go_simp
  with_reducible rfl
 rotate_left
 ·simp only [Act.put, sl0, sl1, sl2, i64_w, i32_w]
  rfl
 refine take_ (i := 6) (N := some 30) (v := ?_) (a' := ?_) #[Y,Y,Y,Y,Y,Y,Y,Y,Z,Y,Z,Z,Z,Y,Y,Z,Z,Z,Z] rfl rfl (take_ofW HT_.out HW_.out (by kernel_rfl)) (fun _ _ _ h => h) (Or.inl ⟨by rfl, ?_⟩) hHeld ?_ ?_
 rotate_left
 ·rintro w' ⟨s0, s1⟩
  go_simp
  with_reducible rfl
 rotate_left
 ·simp only [Act.put, sl0, sl1, sl2, i64_w, i32_w]
  rfl
 refine take_ (i := 8) (N := some 32) (v := ?_) (a' := ?_) #[Y,Y,Y,Y,Y,Y,Y,Y,Y,Y,Z,Z,Z,Y,Y,Z,Z,Z,Z] rfl rfl (take_ofW HT_.out HW_.out (by kernel_rfl)) (fun _ _ _ h => h) (Or.inl ⟨by rfl, ?_⟩) hHeld ?_ ?_
 rotate_left
 ·rintro w' ⟨s0, s1⟩
  go_simp
  with_reducible rfl
 rotate_left
 ·simp only [Act.put, sl0, sl1, sl2, i64_w, i32_w]
  rfl
 refine take_ (i := 12) (N := some 36) (v := ?_) (a' := ?_) #[Y,Y,Y,Y,Y,Y,Y,Y,Y,Y,Z,Z,Y,Y,Y,Z,Z,Z,Z] rfl rfl (take_ofW HT_.out HW_.out (by kernel_rfl)) (fun _ _ _ h => h) (Or.inl ⟨by rfl, ?_⟩) hHeld ?_ ?_
 rotate_left
 ·rintro w' ⟨s0, s1⟩
  go_simp
  with_reducible rfl
 rotate_left
 ·simp only [Act.put, sl0, sl1, sl2, i64_w, i32_w]
  rfl
 refine one_ (i := 10) (N := some 34) #[Y,Y,Y,Y,Y,Y,Y,Y,Y,Y,Y,Z,Y,Y,Y,Z,Z,Z,Z] rfl rfl (one_of HT_.out (by kernel_rfl)) (by decide) (fun K hK => ?_)
 refine goes_ Try.func44 (by kernel_rfl) rfl #[.agg #[.slice Ao17 t313.length co17, .int .i64 t316], .int .i64 t321] (by rfl) rfl rfl (by (try simp only [List.map_toArray, List.map_cons, List.map_nil]); first | done | rfl | (simp only [List.length_drop, List.length_take]; rfl)) ?_
 with_reducible refine (hypercuberef10_Plan.calls k _ _ t313 t316 t321 t326 _ ?side1 ?side2 A11.out).mono ?_
 (case side1 => repeat (first | exact (Kd.R_reads' HO315.out).2.2 | (with_reducible refine Kd.C_alloc ?_ _) | (with_reducible refine Kd.C_drewN ?_ _) | (with_reducible refine Kd.C_drew ?_)))
 (case side2 => exact (Kd.R_reads' HO315.out).2.1)
 rintro e w23 ⟨v327, rfl, ho0, hb⟩
 refine ⟨_, rfl, ?_⟩
 have n0_ := Aside0.mk (Kd.R_below (by (with_reducible repeat (first | apply Kd.R_alloc | apply Kd.R_drewN | apply Kd.R_drew)); exact HO315.out) hb)
 have n1_ := Aside0.mk (Kd.S_below (by (with_reducible repeat (first | apply Kd.S_alloc | apply Kd.S_drewN | apply Kd.S_drew)); exact HO319.out) hb)
 have n2_ := Aside0.mk (Kd.R_elder' (by (with_reducible repeat (first | apply Kd.R_alloc | apply Kd.R_drewN | apply Kd.R_drew)); exact HO324.out) (Kd.R_base ho0) hb)
 have n3_ := Aside0.mk (Kd.R_lower (Kd.R_new' ho0 (Kd.R_lt (by (with_reducible repeat (first | apply Kd.R_alloc | apply Kd.R_drewN | apply Kd.R_drew)); exact HO324.out))) (below_size (by repeat (first | (with_reducible first | exact HB.out | apply below_alloc | apply pw_below_drewN | apply below_drew1 | refine below_set ?_ GE320.out) | exact HB.out))))
 have n4_ := Aside0.mk (blk_below (g := gb320) (o := .cells #[.slice Ao17 t313.length co17, .int .i64 t316] 33 (0, 0)) (by (with_reducible repeat (first | refine blk_drewN ?_ _ | refine blk_drew ?_ | refine blk_alloc ?_ _)); exact BK320.out) hb)
 have n5_ := Aside0.mk (below_step (by repeat (first | (with_reducible first | exact HB.out | apply below_alloc | apply pw_below_drewN | apply below_drew1 | refine below_set ?_ GE320.out) | exact HB.out)) hb)
 clear HO315
 clear HO319
 clear HO324
 clear BK320
 clear HB
 have HO315 := n0_
 have HO319 := n1_
 have HO324 := n2_
 have HO328 := n3_
 have BK320 := n4_
 have HB := n5_
 clear n0_ n1_ n2_ n3_ n4_ n5_
 (try clear hb)
 (try clear hb2)
 (try clear hk)
 (try clear hi)
 (try clear ho0)
 obtain ⟨Ao24, co24, eo24⟩ := Kd.R_slice HO328.out
 (first | subst eo24 | (injection eo24 with f1_ f2_ f3_; have f4_ := f1_.symm; have f5_ := f3_.symm; clear f1_ f2_ f3_; subst f4_; subst f5_))
 refine hK.out _ _ ⟨(blk_cell BK320.out 0).trans rfl, (blk_cell BK320.out 1).trans rfl⟩ (fun hHeld => ?_)
 clear hK K
 refine norm_ (a' := ?_) ?_ ?_
 rotate_left
 ·show Act.put _ (some 34) _ = _
  simp only [Act.put, sl0, sl1, sl2, i64_w, i32_w]
  rfl
 refine one_ (i := 11) (N := some 35) (fl_ 15 4) rfl rfl (one_of HT_.out (by kernel_rfl)) (by decide) (fun K hK => ?_)
 refine goes_ Try.func43 (by kernel_rfl) rfl #[.agg #[.slice Ao17 t313.length co17, .int .i64 t316], .int .i64 t321, .slice Ao24 t326.length co24] (by rfl) rfl rfl (by (try simp only [List.map_toArray, List.map_cons, List.map_nil]); first | done | rfl | (simp only [List.length_drop, List.length_take]; rfl)) ?_
 with_reducible refine (hypercuberef10_Cost.calls k _ _ t313 t316 t321 _ _ t326 t329 _ ?side1 ?side2 ?side3 ?side4 A12.out).mono ?_
 (case side1 => repeat (first | exact (Kd.R_reads' HO315.out).2.2 | (with_reducible refine Kd.C_alloc ?_ _) | (with_reducible refine Kd.C_drewN ?_ _) | (with_reducible refine Kd.C_drew ?_)))
 (case side2 => exact (Kd.R_reads' HO315.out).2.1)
 (case side3 => repeat (first | exact (Kd.R_reads' HO328.out).2.2 | (with_reducible refine Kd.C_alloc ?_ _) | (with_reducible refine Kd.C_drewN ?_ _) | (with_reducible refine Kd.C_drew ?_)))
 (case side4 => exact (Kd.R_reads' HO328.out).2.1)
 rintro e w25 ⟨rfl, hb⟩
 refine ⟨_, rfl, ?_⟩
 have n0_ := Aside0.mk (Kd.R_below (by (with_reducible repeat (first | apply Kd.R_alloc | apply Kd.R_drewN | apply Kd.R_drew)); exact HO315.out) hb)
 have n1_ := Aside0.mk (Kd.S_below (by (with_reducible repeat (first | apply Kd.S_alloc | apply Kd.S_drewN | apply Kd.S_drew)); exact HO319.out) hb)
 have n2_ := Aside0.mk (Kd.R_below (by (with_reducible repeat (first | apply Kd.R_alloc | apply Kd.R_drewN | apply Kd.R_drew)); exact HO324.out) hb)
 have n3_ := Aside0.mk (Kd.R_below (by (with_reducible repeat (first | apply Kd.R_alloc | apply Kd.R_drewN | apply Kd.R_drew)); exact HO328.out) hb)
 have n4_ := Aside0.mk (blk_below (g := gb320) (o := .cells #[.slice Ao17 t313.length co17, .int .i64 t316] 33 (0, 0)) (by (with_reducible repeat (first | refine blk_drewN ?_ _ | refine blk_drew ?_ | refine blk_alloc ?_ _)); exact BK320.out) hb)
 have n5_ := Aside0.mk (below_step (by repeat (first | (with_reducible first | exact HB.out | apply below_alloc | apply pw_below_drewN | apply below_drew1 | refine below_set ?_ GE320.out) | exact HB.out)) hb)
 clear HO315
 clear HO319
 clear HO324
 clear HO328
 clear BK320
 clear HB
 have HO315 := n0_
 have HO319 := n1_
 have HO324 := n2_
 have HO328 := n3_
 have BK320 := n4_
 have HB := n5_
 clear n0_ n1_ n2_ n3_ n4_ n5_
 (try clear hb)
 (try clear hb2)
 (try clear hk)
 (try clear hi)
 refine hK.out _ _ ⟨(blk_cell BK320.out 0).trans rfl, (blk_cell BK320.out 1).trans rfl⟩ (fun hHeld => ?_)
 clear hK K
 refine norm_ (a' := ?_) ?_ ?_
 rotate_left
 ·show Act.put _ (some 35) _ = _
  simp only [Act.put, sl0, sl1, sl2, i64_w, i32_w]
  rfl
 refine one_ (i := 15) (N := some 39) (fl_ 16 3) rfl rfl (one_of HT_.out (by kernel_rfl)) (by decide) (fun K hK => ?_)
 refine goes_ Try.func43 (by kernel_rfl) rfl #[.agg #[.slice Ao17 t313.length co17, .int .i64 t316], .int .i64 t321, .slice Ao21 t322.length co21] (by rfl) rfl rfl (by (try simp only [List.map_toArray, List.map_cons, List.map_nil]); first | done | rfl | (simp only [List.length_drop, List.length_take]; rfl)) ?_
 with_reducible refine (hypercuberef10_Cost.calls k _ _ t313 t316 t321 _ _ t322 t330 _ ?side1 ?side2 ?side3 ?side4 A13.out).mono ?_
 (case side1 => repeat (first | exact (Kd.R_reads' HO315.out).2.2 | (with_reducible refine Kd.C_alloc ?_ _) | (with_reducible refine Kd.C_drewN ?_ _) | (with_reducible refine Kd.C_drew ?_)))
 (case side2 => exact (Kd.R_reads' HO315.out).2.1)
 (case side3 => repeat (first | exact (Kd.R_reads' HO324.out).2.2 | (with_reducible refine Kd.C_alloc ?_ _) | (with_reducible refine Kd.C_drewN ?_ _) | (with_reducible refine Kd.C_drew ?_)))
 (case side4 => exact (Kd.R_reads' HO324.out).2.1)
 rintro e w26 ⟨rfl, hb⟩
 refine ⟨_, rfl, ?_⟩
 have n0_ := Aside0.mk (Kd.R_below (by (with_reducible repeat (first | apply Kd.R_alloc | apply Kd.R_drewN | apply Kd.R_drew)); exact HO315.out) hb)
 have n1_ := Aside0.mk (Kd.S_below (by (with_reducible repeat (first | apply Kd.S_alloc | apply Kd.S_drewN | apply Kd.S_drew)); exact HO319.out) hb)
 have n2_ := Aside0.mk (Kd.R_below (by (with_reducible repeat (first | apply Kd.R_alloc | apply Kd.R_drewN | apply Kd.R_drew)); exact HO324.out) hb)
 have n3_ := Aside0.mk (Kd.R_below (by (with_reducible repeat (first | apply Kd.R_alloc | apply Kd.R_drewN | apply Kd.R_drew)); exact HO328.out) hb)
 have n4_ := Aside0.mk (blk_below (g := gb320) (o := .cells #[.slice Ao17 t313.length co17, .int .i64 t316] 33 (0, 0)) (by (with_reducible repeat (first | refine blk_drewN ?_ _ | refine blk_drew ?_ | refine blk_alloc ?_ _)); exact BK320.out) hb)
 have n5_ := Aside0.mk (below_step (by repeat (first | (with_reducible first | exact HB.out | apply below_alloc | apply pw_below_drewN | apply below_drew1 | refine below_set ?_ GE320.out) | exact HB.out)) hb)
 clear HO315
 clear HO319
 clear HO324
 clear HO328
 clear BK320
 clear HB
 have HO315 := n0_
 have HO319 := n1_
 have HO324 := n2_
 have HO328 := n3_
 have BK320 := n4_
 have HB := n5_
 clear n0_ n1_ n2_ n3_ n4_ n5_
 (try clear hb)
 (try clear hb2)
 (try clear hk)
 (try clear hi)
 refine hK.out _ _ ⟨(blk_cell BK320.out 0).trans rfl, (blk_cell BK320.out 1).trans rfl⟩ (fun hHeld => ?_)
 clear hK K
 refine norm_ (a' := ?_) ?_ ?_
 rotate_left
 ·show Act.put _ (some 39) _ = _
  simp only [Act.put, sl0, sl1, sl2, i64_w, i32_w]
  rfl
 refine pure_ (i := 16) (N := some 40) (v := ?_) (a' := ?_) (fl_ 17 2) rfl rfl (any_of HT_.out (by kernel_rfl)) (fun _ _ _ h => h) (Or.inl ⟨by rfl, ?_⟩) ?_ ?_
 rotate_left
 ·intro w'
  go_simp
  with_reducible rfl
 rotate_left
 ·simp only [Act.put, sl0, sl1, sl2, i64_w, i32_w]
  rfl
 refine pure_ (i := 17) (N := some 41) (v := ?_) (a' := ?_) (fl_ 18 1) rfl rfl (any_of HT_.out (by kernel_rfl)) (fun _ _ _ h => h) (Or.inl ⟨by rfl, ?_⟩) ?_ ?_
 rotate_left
 ·intro w'
  go_simp
  with_reducible rfl
 rotate_left
 ·simp only [Act.put, sl0, sl1, sl2, i64_w, i32_w]
  rfl
 refine pure_ (i := 18) (N := some 6) (v := ?_) (a' := ?_) (fl_ 19 0) rfl rfl (any_of HT_.out (by kernel_rfl)) (fun _ _ _ h => h) (Or.inl ⟨by rfl, ?_⟩) ?_ ?_
 rotate_left
 ·intro w'
  go_simp
  with_reducible rfl
 rotate_left
 ·simp only [Act.put, sl0, sl1, sl2, i64_w, i32_w]
  rfl
 refine done_ (done_of HT_.out (by kernel_rfl)) ?_
 try go_wp2
 go_ret
 exact ⟨by first | rfl | (simp [errW_none, errW_some] <;> rfl) | (simp [*, errW_none, errW_some] <;> rfl), by repeat (first | (with_reducible first | exact HB.out | apply below_alloc | apply pw_below_drewN | apply below_drew1 | refine below_set ?_ GE320.out) | exact HB.out)⟩

/-- THE ONE PURE STATEMENT of hypercubelaw11_TreeDear: yours. -/
def hypercubelaw11_TreeDear.Pure : Prop := ∀ (a0 : Int) (l1 : List Int) (a2 : Int), (Lit.int .i64 a0).wf = true → l1.length ≤ maxLen → l1.length * 8 ≤ 140737488351232 → (∀ x ∈ l1, (Lit.int .i64 x).wf = true) → (Lit.int .i64 a2).wf = true → ∃ k, hypercubelaw11_TreeDear.f k a0 l1 a2 = some true
theorem hypercubelaw11_TreeDear.walk (P : hypercubelaw11_TreeDear.Pure) (a0 : Int) (a1 : Option Addr) (len1 cap1 : Nat) (z1 : List Int) (a2 : Int) (w : World) (w0 : (Lit.int .i64 a0).wf = true) (w1 : (a1 = none ∧ len1 = 0 ∧ cap1 = 0 ∧ z1 = []) ∨ ∃ x, a1 = some x ∧ len1 ≤ cap1 ∧ cap1 ≤ maxLen ∧ z1.length = cap1 ∧ (∀ i, i < z1.length → w.cell? (x.add i) = some (.int .i64 (z1.getD i 0))) ∧ ∀ n ∈ z1, (Lit.int .i64 n).wf = true) (y1 : len1 * 8 ≤ 140737488351232) (w2 : (Lit.int .i64 a2).wf = true) :
 Calls Try.prog 9 #[.int .i64 a0, .slice a1 len1 cap1, .int .i64 a2] w fun e w' => e = .returned (.bool true) ∧ Below w.heap.size w w' := by
 obtain ⟨l1, rfl, hr1, hm1, hw1, hc1⟩ := ReadsInt.ofRowC w1
 obtain ⟨k, h⟩ := P a0 l1 a2 w0 hm1 y1 hw1 w2
 refine (hypercubelaw11_TreeDear.calls k a0 _ _ l1 a2 true w (Kd.C_of_reads (d := (0 : Int)) (h1 := fun _ => rfl) hr1) hc1 h).mono ?_
 rintro e w' ⟨rfl, hd⟩
 exact ⟨rfl, hd⟩

end Go.Proofs.Ytlplaidcdocbmaa.PTreeDear
