-- Cut by pack.py, a program of this session; not trusted: Lean checks it.
import Derived.Test.YtlplaidcdocbmaaZPSortsOrdersx0
import Derived.Test.YtlplaidcdocbmaaZPSortsOrdersx2
namespace Go.Proofs.Ytlplaidcdocbmaa.PSortsOrders
open Go.RowKit Go.Proofs.YtlplaidcdocbmaaW.PrintWords Go.Proofs.YtlplaidcdocbmaaW.PrintLast Go.Proofs.YtlplaidcdocbmaaW.PrintMore
private abbrev fl_ (a b : Nat) : Array Bool := (List.replicate a true ++ List.replicate b false).toArray
private abbrev Y : Bool := true
private abbrev Z : Bool := false
open List renaming setIfInBounds_toArray → sl0, set_cons_zero → sl1, set_cons_succ → sl2
private theorem od_ {p : Prop} [Decidable p] (h : decide p = true := by first | (with_reducible assumption) | assumption) : p := of_decide_eq_true h
attribute [local go_sem] max2_int min2_int max_two min_two max_three min_three max_four min_four   -- for this text's walks alone
set_option linter.unusedVariables false
set_option linter.unusedSimpArgs false

/-! ### hypercubelaw10_Other: function 53 -/
mutual
def hypercubelaw10_Other.l0 : Nat → Int → List Int → List (S49) → List Int → List Int → Int → Option ((List (S49)))
 | 0, _, _, _, _, _, _ => none
 | k + 1, x0, x1, x5, x6, x7, x8 => if x8 < (x6.length : Int) then (if 0 ≤ x8 then ((hypercuberef8_Parents.f k (rd x6 x8) x0).bind fun t172 => (if (t172.length : Int) = 0 then (if x5.length < 5864062014805 then (hypercubelaw10_Other.l0 k x0 x1 (x5 ++ [(⟨rd x6 x8, (-1), false⟩ : S49)]) x6 x7 (wrap64 (x8 + 1))) else (none)) else (if x8 < (x1.length : Int) then (hypercubelaw10_Other.j1 k x0 x1 x5 x6 x7 x8 t172 (rd x1 x8)) else (hypercubelaw10_Other.j1 k x0 x1 x5 x6 x7 x8 t172 x8)))) else (none)) else (some x5)
def hypercubelaw10_Other.j1 : Nat → Int → List Int → List (S49) → List Int → List Int → Int → List Int → Int → Option ((List (S49)))
 | 0, _, _, _, _, _, _, _, _ => none
 | k + 1, x0, x1, x5, x6, x7, x8, x9, x10 => if 0 ≤ x8 then (if x8 < (x6.length : Int) then ((hypercubelaw10_within.f x10 (x9.length : Int)).bind fun t181 => (if 0 ≤ t181 then (if t181 < (x9.length : Int) then ((hypercubelaw10_within.f (wrap64 (Int.tdiv x10 4)) 2).bind fun t183 => (hypercubelaw10_Other.l1 k x0 x1 x5 x6 x7 x8 0 (rd x6 x8) (rd x9 t181) (t183 == 0))) else (none)) else (none))) else (none)) else (none)
def hypercubelaw10_Other.l1 : Nat → Int → List Int → List (S49) → List Int → List Int → Int → Int → Int → Int → Bool → Option ((List (S49)))
 | 0, _, _, _, _, _, _, _, _, _, _ => none
 | k + 1, x0, x1, x5, x6, x7, x8, x12, x185000, x185001, x185002 => if x12 < (x7.length : Int) then (if 0 ≤ x12 then (if (rd x7 x12) = x185001 then (hypercubelaw10_Other.l1 k x0 x1 x5 x6 x7 x8 (wrap64 (x12 + 1)) x185000 x185001 false) else (hypercubelaw10_Other.l1 k x0 x1 x5 x6 x7 x8 (wrap64 (x12 + 1)) x185000 x185001 x185002)) else (none)) else (if x185002 = true then (if x7.length < 17592186044416 then (if x5.length < 5864062014805 then (hypercubelaw10_Other.l0 k x0 x1 (x5 ++ [(⟨x185000, x185001, x185002⟩ : S49)]) x6 (x7 ++ [x185001]) (wrap64 (x8 + 1))) else (none)) else (none)) else (if x5.length < 5864062014805 then (hypercubelaw10_Other.l0 k x0 x1 (x5 ++ [(⟨x185000, x185001, x185002⟩ : S49)]) x6 x7 (wrap64 (x8 + 1))) else (none)))
end
def hypercubelaw10_Other.f (k : Nat) (a0 : Int) (l1 : List Int) : Option ((List (S49))) := (hypercuberef8_Sets.f k a0).bind fun t168 => (hypercubelaw10_Other.l0 k a0 l1 ([] : List (S49)) t168 ([] : List Int) 0)
theorem hypercubelaw10_Other.mono_l : ∀ k, (∀ y0 y1 y2 y3 y4 y5, LeO (hypercubelaw10_Other.l0 k y0 y1 y2 y3 y4 y5) (hypercubelaw10_Other.l0 (k + 1) y0 y1 y2 y3 y4 y5)) ∧ (∀ y0 y1 y2 y3 y4 y5 y6 y7, LeO (hypercubelaw10_Other.j1 k y0 y1 y2 y3 y4 y5 y6 y7) (hypercubelaw10_Other.j1 (k + 1) y0 y1 y2 y3 y4 y5 y6 y7)) ∧ (∀ y0 y1 y2 y3 y4 y5 y6 y7 y8 y9, LeO (hypercubelaw10_Other.l1 k y0 y1 y2 y3 y4 y5 y6 y7 y8 y9) (hypercubelaw10_Other.l1 (k + 1) y0 y1 y2 y3 y4 y5 y6 y7 y8 y9))
 | 0 => ⟨fun _ _ _ _ _ _ r h => by simp [hypercubelaw10_Other.l0] at h, fun _ _ _ _ _ _ _ _ r h => by simp [hypercubelaw10_Other.j1] at h, fun _ _ _ _ _ _ _ _ _ _ r h => by simp [hypercubelaw10_Other.l1] at h⟩
 | k + 1 => by
  obtain ⟨ih0, ih1, ih2⟩ := hypercubelaw10_Other.mono_l k
  refine ⟨?_, ?_, ?_⟩
  ·intro y0 y1 y2 y3 y4 y5
   unfold hypercubelaw10_Other.l0
   repeat' first
   | (with_reducible exact ih0 _ _ _ _ _ _)
   | (with_reducible exact ih1 _ _ _ _ _ _ _ _)
   | (with_reducible exact ih2 _ _ _ _ _ _ _ _ _ _)
   | (with_reducible exact hypercuberef8_Parents.mono _ _ _)
   | (with_reducible exact hypercuberef8_Sets.mono _ _)
   | (with_reducible exact LeO.refl _)
   | (with_reducible exact LeO.none _)
   | (with_reducible refine LeO.ite ?_ ?_)
   | (with_reducible refine LeO.bind ?_ (fun _ => ?_))
   | exact ih0 _ _ _ _ _ _
   | exact ih1 _ _ _ _ _ _ _ _
   | exact ih2 _ _ _ _ _ _ _ _ _ _
   | exact hypercuberef8_Parents.mono _ _ _
   | exact hypercuberef8_Sets.mono _ _
   | exact LeO.none _
   | refine LeO.ite ?_ ?_
   | refine LeO.bind ?_ (fun _ => ?_)
  ·intro y0 y1 y2 y3 y4 y5 y6 y7
   unfold hypercubelaw10_Other.j1
   repeat' first
   | (with_reducible exact ih0 _ _ _ _ _ _)
   | (with_reducible exact ih1 _ _ _ _ _ _ _ _)
   | (with_reducible exact ih2 _ _ _ _ _ _ _ _ _ _)
   | (with_reducible exact hypercuberef8_Parents.mono _ _ _)
   | (with_reducible exact hypercuberef8_Sets.mono _ _)
   | (with_reducible exact LeO.refl _)
   | (with_reducible exact LeO.none _)
   | (with_reducible refine LeO.ite ?_ ?_)
   | (with_reducible refine LeO.bind ?_ (fun _ => ?_))
   | exact ih0 _ _ _ _ _ _
   | exact ih1 _ _ _ _ _ _ _ _
   | exact ih2 _ _ _ _ _ _ _ _ _ _
   | exact hypercuberef8_Parents.mono _ _ _
   | exact hypercuberef8_Sets.mono _ _
   | exact LeO.none _
   | refine LeO.ite ?_ ?_
   | refine LeO.bind ?_ (fun _ => ?_)
  intro y0 y1 y2 y3 y4 y5 y6 y7 y8 y9
  unfold hypercubelaw10_Other.l1
  repeat' first
  | (with_reducible exact ih0 _ _ _ _ _ _)
  | (with_reducible exact ih1 _ _ _ _ _ _ _ _)
  | (with_reducible exact ih2 _ _ _ _ _ _ _ _ _ _)
  | (with_reducible exact hypercuberef8_Parents.mono _ _ _)
  | (with_reducible exact hypercuberef8_Sets.mono _ _)
  | (with_reducible exact LeO.refl _)
  | (with_reducible exact LeO.none _)
  | (with_reducible refine LeO.ite ?_ ?_)
  | (with_reducible refine LeO.bind ?_ (fun _ => ?_))
  | exact ih0 _ _ _ _ _ _
  | exact ih1 _ _ _ _ _ _ _ _
  | exact ih2 _ _ _ _ _ _ _ _ _ _
  | exact hypercuberef8_Parents.mono _ _ _
  | exact hypercuberef8_Sets.mono _ _
  | exact LeO.none _
  | refine LeO.ite ?_ ?_
  | refine LeO.bind ?_ (fun _ => ?_)
theorem hypercubelaw10_Other.mono : ∀ a0 a1 k, LeO (hypercubelaw10_Other.f k a0 a1) (hypercubelaw10_Other.f (k + 1) a0 a1) := by
 intro a0 a1 k
 obtain ⟨ih0, ih1, ih2⟩ := hypercubelaw10_Other.mono_l k
 unfold hypercubelaw10_Other.f
 repeat' first
  | (with_reducible exact ih0 _ _ _ _ _ _)
  | (with_reducible exact ih1 _ _ _ _ _ _ _ _)
  | (with_reducible exact ih2 _ _ _ _ _ _ _ _ _ _)
  | (with_reducible exact hypercuberef8_Parents.mono _ _ _)
  | (with_reducible exact hypercuberef8_Sets.mono _ _)
  | (with_reducible exact LeO.refl _)
  | (with_reducible exact LeO.none _)
  | (with_reducible refine LeO.ite ?_ ?_)
  | (with_reducible refine LeO.bind ?_ (fun _ => ?_))
  | exact ih0 _ _ _ _ _ _
  | exact ih1 _ _ _ _ _ _ _ _
  | exact ih2 _ _ _ _ _ _ _ _ _ _
  | exact hypercuberef8_Parents.mono _ _ _
  | exact hypercuberef8_Sets.mono _ _
  | exact LeO.none _
  | refine LeO.ite ?_ ?_
  | refine LeO.bind ?_ (fun _ => ?_)
def hypercubelaw10_Other.T13 : Bool × List (List Nat × List Nat) := (true, [([], []), ([], []), ([0, 1], [0, 1]), ([2], [2]), ([], []), ([], []), ([], []), ([6], [6]), ([5, 7], [5, 7]), ([4, 8], [4, 8]), ([9], [9]), ([], []), ([11], [11]), ([12, 8], [12]), ([13], [13]), ([3, 10, 14], [3, 10, 14]), ([], []), ([16, 15, 13, 0, 1, 2, 3, 4, 5, 6, 7, 8, 9, 10, 11, 12, 13, 14, 15, 16], [15, 16])])
def hypercubelaw10_Other.B13 : List Nat := [0, 0, 3, 7, 0, 0, 0, 64, 224, 496, 1008, 0, 2048, 6624, 14816, 32767, 0, 131071]
theorem hypercubelaw10_Other.tab13 : rtab .any (opsOf Try.f53 13) = hypercubelaw10_Other.T13 := by kernel_rfl
theorem hypercubelaw10_Other.bits13 : waitsOk hypercubelaw10_Other.T13.2 hypercubelaw10_Other.B13 = true := by kernel_rfl
set_option maxHeartbeats 8000000 in
set_option maxRecDepth 100000 in
theorem hypercubelaw10_Other.calls (k : Nat) (a0 : Int) (A1 : Option Addr) (c1 : Nat) (l1 : List Int) (r : List (S49)) (w : World) (hr1 : Kd.C (Kd.int .i64) w A1 l1.length l1) (hc1 : l1.length ≤ c1) (h : hypercubelaw10_Other.f k a0 l1 = some r) :
 Calls Try.prog 53 #[.int .i64 a0, .slice A1 l1.length c1] w fun e w' => ∃ v0_ : Value, e = .returned (v0_) ∧ Kd.R k49 49 w' w.heap.size (fun _ => True) v0_ r ∧ Below w.heap.size w w' := by
 have hu49 := Try.underlying49
 have HR1 := Aside0.mk hr1
 have HC1 := Aside0.mk hc1
 clear hr1 hc1
 have HB := Aside0.mk (Below.refl w.heap.size w)
 have H : ((hypercuberef8_Sets.f k a0).bind fun t168 => (hypercubelaw10_Other.l0 k a0 l1 ([] : List (S49)) t168 ([] : List Int) 0)) = some r := h
 clear h
 replace H := Option.bind_eq_some_iff.mp H
 obtain ⟨t168, A30, H⟩ := H
 replace H : (hypercubelaw10_Other.l0 k a0 l1 ([] : List (S49)) t168 ([] : List Int) 0) = some r := H
 have A3 := Aside0.mk A30
 clear A30
 have H' := Aside0.mk H
 clear H
 go_enter Try.func53, Try.ntmps53
 go_wp2_with (first | ((with_reducible refine gate_callee (f := 45) rfl ?_); refine goesL_ (some 14) rfl rfl Try.func45 (by kernel_rfl) rfl #[.int .i64 a0] rfl (by (try simp only [List.map_toArray, List.map_cons, List.map_nil]); first | done | rfl | (simp only [List.length_drop, List.length_take]; rfl)) ?_; (with_reducible refine (hypercuberef8_Sets.calls k a0 t168 _ A3.out).mono ?_); rintro e w4 ⟨v169, rfl, ho0, hb⟩; refine ⟨_, rfl, ?_⟩; have n0_ := Aside0.mk (Kd.R_lower ho0 (below_size (by repeat (first | (with_reducible first | exact HB.out | apply below_alloc | apply pw_below_drewN | apply below_drew1) | exact HB.out)))); have n1_ := Aside0.mk (below_step (by repeat (first | (with_reducible first | exact HB.out | apply below_alloc | apply pw_below_drewN | apply below_drew1) | exact HB.out)) hb); clear HB; have HO170 := n0_; have HB := n1_; clear n0_ n1_; (try clear hb); (try clear hb2); (try clear hk); (try clear hi); (try clear ho0)))
 go_loopg [5, 7, 8] k (fun kq v5 v7 v8 w' => ∃ (x5_1 : List (S49)) (x7_1 : List Int) (x8_1 : Int), v8 = .int .i64 x8_1 ∧ Aside0 (hypercubelaw10_Other.l0 kq a0 l1 x5_1 t168 x7_1 x8_1 = some r) ∧ Aside0 (kq ≤ k) ∧ Aside0 (Kd.R k49 49 w' w.heap.size (fun _ => True) v5 x5_1) ∧ Aside0 (Kd.R (Kd.int .i64) 3 w' w.heap.size (fun k_ => some k_ ≠ (v7 : Value).ownBlock) v169 t168) ∧ Aside0 (Kd.R (Kd.int .i64) 3 w' w.heap.size (fun k_ => some k_ ≠ (v169 : Value).ownBlock) v7 x7_1) ∧ Aside0 (Below w.heap.size w w'))
 case atStart => exact ⟨(([] : List (S49))), (([] : List Int)), (0), (by first | rfl | (simp; done) | (simp [*]; done)), H', ⟨Nat.le_refl _⟩, ⟨by first | exact Kd.R_nil _ _ _ _ _ | exact Kd.N_nil _ _ _ _ _ | exact Kd.V_nil _ _ _ _ _ | exact Kd.Q_nil _ _ _ _ _ | exact Kd.S_nil _ _ _ _ _⟩, ⟨by (with_reducible repeat (first | apply Kd.R_alloc | apply Kd.R_drewN | apply Kd.R_drew)); exact Kd.R_mono HO170.out (fun _ hk => (by simp [Value.ownBlock]))⟩, ⟨by first | exact Kd.R_nil _ _ _ _ _ | exact Kd.N_nil _ _ _ _ _ | exact Kd.V_nil _ _ _ _ _ | exact Kd.Q_nil _ _ _ _ _ | exact Kd.S_nil _ _ _ _ _⟩, ⟨by repeat (first | (with_reducible first | exact HB.out | apply below_alloc | apply pw_below_drewN | apply below_drew1) | exact HB.out)⟩⟩
 case round =>
  clear H'
  try clear c1
  try clear p2
  try clear c4
  obtain ⟨x5_1, x7_1, x8_1, rfl, HA, HK1, HO_5, HO_6, HO_7, HB⟩ := hrel
  cases gk with
  | zero => exact absurd HA.out (by simp [hypercubelaw10_Other.l0])
  | succ k1 =>
   have H := HA.out
   clear HA
   simp only [hypercubelaw10_Other.l0] at H
   by_cases c5 : x8_1 < (t168.length : Int)
   rotate_left
   ·rw [if_neg c5] at H
    have c5b0 : decide (x8_1 < (t168.length : Int)) = false := decide_eq_false c5
    clear c5
    obtain rfl := Option.some.inj H
    obtain ⟨Ao51, co51, eo51⟩ := Kd.R_slice HO_6.out
    subst eo51
    go_wp2
    go_ret
    exact ⟨_, by first | rfl | (simp [errW_none, errW_some] <;> rfl) | (simp [*, errW_none, errW_some] <;> rfl), by (with_reducible repeat (first | apply Kd.R_alloc | apply Kd.R_drewN | apply Kd.R_drew)); exact HO_5.out, by repeat (first | (with_reducible first | exact HB.out | apply below_alloc | apply pw_below_drewN | apply below_drew1) | exact HB.out)⟩
   rw [if_pos c5] at H
   have c5b0 : decide (x8_1 < (t168.length : Int)) = true := decide_eq_true c5
   clear c5
   by_cases c6 : 0 ≤ x8_1
   rotate_left
   ·rw [if_neg c6] at H
    exact absurd H (by simp)
   rw [if_pos c6] at H
   have c6b0 : decide (0 ≤ x8_1) = true := decide_eq_true c6
   clear c6
   replace H := Option.bind_eq_some_iff.mp H
   obtain ⟨t172, A70, H⟩ := H
   replace H : (if (t172.length : Int) = 0 then (if x5_1.length < 5864062014805 then (hypercubelaw10_Other.l0 k1 a0 l1 (x5_1 ++ [(⟨rd t168 x8_1, (-1), false⟩ : S49)]) t168 x7_1 (wrap64 (x8_1 + 1))) else (none)) else (if x8_1 < (l1.length : Int) then (hypercubelaw10_Other.j1 k1 a0 l1 x5_1 t168 x7_1 x8_1 t172 (rd l1 x8_1)) else (hypercubelaw10_Other.j1 k1 a0 l1 x5_1 t168 x7_1 x8_1 t172 x8_1))) = some r := H
   have A7 := Aside0.mk A70
   clear A70
   by_cases c8 : (t172.length : Int) = 0
   ·rw [if_pos c8] at H
    have c8b0 : ((t172.length : Int) == 0) = true := beq_iff_eq.mpr c8
    have c8b1 : ((t172.length : Int) != 0) = false := bne_eq_false_iff_eq.mpr c8
    clear c8
    by_cases c9 : x5_1.length < 5864062014805
    rotate_left
    ·rw [if_neg c9] at H
     exact absurd H (by simp)
    rw [if_pos c9] at H
    have LMc9 := Aside0.mk c9
    clear c9
    obtain ⟨y176, hy176⟩ : ∃ y_ : List (S49), y_ = (x5_1 ++ [(⟨rd t168 x8_1, (-1), false⟩ : S49)]) := ⟨_, rfl⟩
    replace H : (hypercubelaw10_Other.l0 k1 a0 l1 y176 t168 x7_1 (wrap64 (x8_1 + 1))) = some r := by first | (rw [hy176]; with_reducible exact H) | (have H2_ := (Option.bind_some _ _).symm.trans H; rw [hy176]; with_reducible exact H2_) | (have H2_ := (Option.bind_some _ _).symm.trans H; with_reducible exact H2_) | with_reducible exact H | (rw [hy176]; exact H) | exact H
    have Ny176 := Aside0.mk hy176
    clear hy176
    have H' := Aside0.mk H
    clear H
    obtain ⟨Ao10, co10, eo10⟩ := Kd.R_slice HO_6.out
    subst eo10
    have p171 : 0 ≤ (x8_1 : Int) := od_
    have q171 : x8_1 < (t168.length : Int) := od_
    obtain ⟨ad171, e171, hx171_0⟩ := Kd.at_int (Kd.R_reads' HO_6.out).2.2 x8_1 p171 q171
    cases e171
    replace p171 := eq_true p171
    replace q171 := eq_true q171
    go_wp2_with (first | ((with_reducible refine gate_callee (f := 41) rfl ?_); refine goesL_ (some 26) rfl rfl Try.func41 (by kernel_rfl) rfl #[.int .i64 (rd t168 x8_1), .int .i64 a0] rfl (by (try simp only [List.map_toArray, List.map_cons, List.map_nil]); first | done | rfl | (simp only [List.length_drop, List.length_take]; rfl)) ?_; (with_reducible refine (hypercuberef8_Parents.calls k1 (rd t168 x8_1) a0 t172 _ A7.out).mono ?_); rintro e w11 ⟨v173, rfl, ho0, hb⟩; refine ⟨_, rfl, ?_⟩; have n0_ := Aside0.mk (Kd.R_below (by (with_reducible repeat (first | apply Kd.R_alloc | apply Kd.R_drewN | apply Kd.R_drew)); exact HO_5.out) hb); have n1_ := Aside0.mk (Kd.R_elder' (by (with_reducible repeat (first | apply Kd.R_alloc | apply Kd.R_drewN | apply Kd.R_drew)); exact HO_6.out) (Kd.R_base ho0) hb); have n2_ := Aside0.mk (Kd.R_elder' (by (with_reducible repeat (first | apply Kd.R_alloc | apply Kd.R_drewN | apply Kd.R_drew)); exact HO_7.out) (Kd.R_base ho0) hb); have n3_ := Aside0.mk (Kd.R_lower (Kd.R_new' (Kd.R_new' ho0 (Kd.R_lt (by (with_reducible repeat (first | apply Kd.R_alloc | apply Kd.R_drewN | apply Kd.R_drew)); exact HO_6.out))) (Kd.R_lt (by (with_reducible repeat (first | apply Kd.R_alloc | apply Kd.R_drewN | apply Kd.R_drew)); exact HO_7.out))) (below_size (by repeat (first | (with_reducible first | exact HB.out | apply below_alloc | apply pw_below_drewN | apply below_drew1) | exact HB.out)))); have n4_ := Aside0.mk (below_step (by repeat (first | (with_reducible first | exact HB.out | apply below_alloc | apply pw_below_drewN | apply below_drew1) | exact HB.out)) hb); clear HO_5; clear HO_6; clear HO_7; clear HB; have HO_5 := n0_; have HO_6 := n1_; have HO_7 := n2_; have HO174 := n3_; have HB := n4_; clear n0_ n1_ n2_ n3_ n4_; (try clear hb); (try clear hb2); (try clear hk); (try clear hi); (try clear ho0); obtain ⟨Ao12, co12, eo12⟩ := Kd.R_slice HO174.out; subst eo12; have p175 : 0 ≤ (x8_1 : Int) := of_decide_eq_true (by first | (with_reducible assumption) | assumption); have q175 : x8_1 < (t168.length : Int) := of_decide_eq_true (by first | (with_reducible assumption) | assumption); obtain ⟨ad175, e175, hx175_0⟩ := Kd.at_int (Kd.R_reads' HO_6.out).2.2 x8_1 p175 q175; obtain rfl : ad171 = ad175 := (by injection e175); replace p175 := eq_true p175; replace q175 := eq_true q175) | ((with_reducible refine gate_builtin (b := .append) (xs := #[.tmp 30, .tmp 36]) rfl ?_); at_builtin; refine Kd.R_append k49 (w0 := w) w.heap.size rfl (.tmp 30) (.tmp 36) 43 49 (.agg #[(.int .i64 0), (.int .i64 0), (.bool false)]) 24 rfl Try.underlying43 info49 rfl (by decide) (by omega) u5 x5_1 (⟨rd t168 x8_1, (-1), false⟩ : S49) [.int .i64 (rd t168 x8_1), .int .i64 (-1), .bool false] (fun _ => True) (fun _ => False) rfl rfl ?aP (fun _ hk => hk.elim) ?aF ?aO ?aB ?aS ?aL ?_; (case aP => exact k49_mkM _ _ _ (⟨rd t168 x8_1, (-1), false⟩ : S49)); (case aB => exact (by repeat (first | (with_reducible first | exact HB.out | apply below_alloc | apply pw_below_drewN | apply below_drew1) | exact HB.out))); (case aF => exact (fun _ _ => trivial)); (case aO => exact (by (with_reducible repeat (first | apply Kd.R_alloc | apply Kd.R_drewN | apply Kd.R_drew)); exact HO_5.out)); (case aS => exact (below_size (by repeat (first | (with_reducible first | exact HB.out | apply below_alloc | apply pw_below_drewN | apply below_drew1) | exact HB.out)))); (case aL => have := LMc9.out; omega); intro v177 w13 ho hb hg hat; rw [← Ny176.out] at ho; have n0_ := Aside0.mk (Kd.R_over' (by (with_reducible repeat (first | apply Kd.R_alloc | apply Kd.R_drewN | apply Kd.R_drew)); exact HO_6.out) (Kd.R_typed (by (with_reducible repeat (first | apply Kd.R_alloc | apply Kd.R_drewN | apply Kd.R_drew)); exact HO_5.out)) (by decide) hg); have n1_ := Aside0.mk (Kd.R_over' (by (with_reducible repeat (first | apply Kd.R_alloc | apply Kd.R_drewN | apply Kd.R_drew)); exact HO_7.out) (Kd.R_typed (by (with_reducible repeat (first | apply Kd.R_alloc | apply Kd.R_drewN | apply Kd.R_drew)); exact HO_5.out)) (by decide) hg); have n2_ := Aside0.mk (Kd.R_over' (by (with_reducible repeat (first | apply Kd.R_alloc | apply Kd.R_drewN | apply Kd.R_drew)); exact HO174.out) (Kd.R_typed (by (with_reducible repeat (first | apply Kd.R_alloc | apply Kd.R_drewN | apply Kd.R_drew)); exact HO_5.out)) (by decide) hg); have n3_ := Aside0.mk (hb); have n4_ := Aside0.mk (ho); clear HO_6; clear HO_7; clear HO174; clear HB; clear HO_5; have HO_6 := n0_; have HO_7 := n1_; have HO174 := n2_; have HB := n3_; have HO178 := n4_; clear n0_ n1_ n2_ n3_ n4_; clear ho hb hg hat))
    go_roundg k1
    case measure => have := HK1.out; omega
    case rel => exact ⟨(y176), (x7_1), (wrap64 (x8_1 + 1)), (by first | rfl | (simp; done) | (simp [*]; done)), H', ⟨by have := HK1.out; omega⟩, ⟨by (with_reducible repeat (first | apply Kd.R_alloc | apply Kd.R_drewN | apply Kd.R_drew)); exact HO178.out⟩, ⟨by (with_reducible repeat (first | apply Kd.R_alloc | apply Kd.R_drewN | apply Kd.R_drew)); exact Kd.R_mono HO_6.out (fun _ hk => hk.1)⟩, ⟨by (with_reducible repeat (first | apply Kd.R_alloc | apply Kd.R_drewN | apply Kd.R_drew)); exact Kd.R_mono HO_7.out (fun _ hk => hk.1)⟩, ⟨by repeat (first | (with_reducible first | exact HB.out | apply below_alloc | apply pw_below_drewN | apply below_drew1) | exact HB.out)⟩⟩
   rw [if_neg c8] at H
   have c8b0 : ((t172.length : Int) == 0) = false := beq_eq_false_iff_ne.mpr c8
   have c8b1 : ((t172.length : Int) != 0) = true := bne_iff_ne.mpr c8
   have c8b2 : ¬ (t172 = []) := fun h_ => c8 (by rw [h_]; rfl)
   have HC14 := Aside0.mk H
   clear H
   obtain ⟨Ao15, co15, eo15⟩ := Kd.R_slice HO_6.out
   subst eo15
   have p171 : 0 ≤ (x8_1 : Int) := od_
   have q171 : x8_1 < (t168.length : Int) := od_
   obtain ⟨ad171, e171, hx171_0⟩ := Kd.at_int (Kd.R_reads' HO_6.out).2.2 x8_1 p171 q171
   cases e171
   replace p171 := eq_true p171
   replace q171 := eq_true q171
   go_upto_if 42 with (first | ((with_reducible refine gate_callee (f := 41) rfl ?_); refine goesL_ (some 26) rfl rfl Try.func41 (by kernel_rfl) rfl #[.int .i64 (rd t168 x8_1), .int .i64 a0] rfl (by (try simp only [List.map_toArray, List.map_cons, List.map_nil]); first | done | rfl | (simp only [List.length_drop, List.length_take]; rfl)) ?_; (with_reducible refine (hypercuberef8_Parents.calls k1 (rd t168 x8_1) a0 t172 _ A7.out).mono ?_); rintro e w16 ⟨v173, rfl, ho0, hb⟩; refine ⟨_, rfl, ?_⟩; have n0_ := Aside0.mk (Kd.R_below (by (with_reducible repeat (first | apply Kd.R_alloc | apply Kd.R_drewN | apply Kd.R_drew)); exact HO_5.out) hb); have n1_ := Aside0.mk (Kd.R_elder' (by (with_reducible repeat (first | apply Kd.R_alloc | apply Kd.R_drewN | apply Kd.R_drew)); exact HO_6.out) (Kd.R_base ho0) hb); have n2_ := Aside0.mk (Kd.R_elder' (by (with_reducible repeat (first | apply Kd.R_alloc | apply Kd.R_drewN | apply Kd.R_drew)); exact HO_7.out) (Kd.R_base ho0) hb); have n3_ := Aside0.mk (Kd.R_lower (Kd.R_new' (Kd.R_new' ho0 (Kd.R_lt (by (with_reducible repeat (first | apply Kd.R_alloc | apply Kd.R_drewN | apply Kd.R_drew)); exact HO_6.out))) (Kd.R_lt (by (with_reducible repeat (first | apply Kd.R_alloc | apply Kd.R_drewN | apply Kd.R_drew)); exact HO_7.out))) (below_size (by repeat (first | (with_reducible first | exact HB.out | apply below_alloc | apply pw_below_drewN | apply below_drew1) | exact HB.out)))); have n4_ := Aside0.mk (below_step (by repeat (first | (with_reducible first | exact HB.out | apply below_alloc | apply pw_below_drewN | apply below_drew1) | exact HB.out)) hb); clear HO_5; clear HO_6; clear HO_7; clear HB; have HO_5 := n0_; have HO_6 := n1_; have HO_7 := n2_; have HO174 := n3_; have HB := n4_; clear n0_ n1_ n2_ n3_ n4_; (try clear hb); (try clear hb2); (try clear hk); (try clear hi); (try clear ho0); obtain ⟨Ao17, co17, eo17⟩ := Kd.R_slice HO174.out; subst eo17))
   (try simp only [Act.put, sl0, sl1, sl2])
   go_cut [10] (fun v10 wc => ∃ (kq : Nat) (x10_13 : Int), v10 = .int .i64 x10_13 ∧ Aside0 (hypercubelaw10_Other.j1 kq a0 l1 x5_1 t168 x7_1 x8_1 t172 x10_13 = some r) ∧ Aside0 (kq ≤ k1) ∧ Aside0 (Kd.R k49 49 wc w.heap.size (fun _ => True) u5 x5_1) ∧ Aside0 (Kd.R (Kd.int .i64) 3 wc w.heap.size (fun k_ => some k_ ≠ (u7 : Value).ownBlock ∧ some k_ ≠ ((.slice Ao17 t172.length co17) : Value).ownBlock) (.slice (some ad171) t168.length co15) t168) ∧ Aside0 (Kd.R (Kd.int .i64) 3 wc w.heap.size (fun k_ => some k_ ≠ ((.slice (some ad171) t168.length co15) : Value).ownBlock ∧ some k_ ≠ ((.slice Ao17 t172.length co17) : Value).ownBlock) u7 x7_1) ∧ Aside0 (Kd.R (Kd.int .i64) 3 wc w.heap.size (fun k_ => some k_ ≠ ((.slice (some ad171) t168.length co15) : Value).ownBlock ∧ some k_ ≠ (u7 : Value).ownBlock) (.slice Ao17 t172.length co17) t172) ∧ Aside0 (Below w.heap.size w wc))
   case first =>
    have H := HC14.out
    clear HC14
    by_cases c18 : x8_1 < (l1.length : Int)
    rotate_left
    ·rw [if_neg c18] at H
     have c18b0 : decide (x8_1 < (l1.length : Int)) = false := decide_eq_false c18
     clear c18
     (first | rw [c18b0] | (simp only [i64_w, i32_w]; rw [c18b0]) | skip)
     have H' := Aside0.mk H
     clear H
     go_wp2
     go_meet
     case rel => exact ⟨_, (x8_1), (by first | rfl | (simp; done) | (simp [*]; done)), H', ⟨by have := HK1.out; first | omega | exact Nat.le_refl _⟩, ⟨by (with_reducible repeat (first | apply Kd.R_alloc | apply Kd.R_drewN | apply Kd.R_drew)); exact HO_5.out⟩, ⟨by (with_reducible repeat (first | apply Kd.R_alloc | apply Kd.R_drewN | apply Kd.R_drew)); exact HO_6.out⟩, ⟨by (with_reducible repeat (first | apply Kd.R_alloc | apply Kd.R_drewN | apply Kd.R_drew)); exact HO_7.out⟩, ⟨by (with_reducible repeat (first | apply Kd.R_alloc | apply Kd.R_drewN | apply Kd.R_drew)); exact Kd.R_mono HO174.out (fun _ hk => ⟨hk.1.2, hk.2⟩)⟩, ⟨by repeat (first | (with_reducible first | exact HB.out | apply below_alloc | apply pw_below_drewN | apply below_drew1) | exact HB.out)⟩⟩
    rw [if_pos c18] at H
    have c18b0 : decide (x8_1 < (l1.length : Int)) = true := decide_eq_true c18
    clear c18
    (first | rw [c18b0] | (simp only [i64_w, i32_w]; rw [c18b0]) | skip)
    have H' := Aside0.mk H
    clear H
    have p179 : 0 ≤ (x8_1 : Int) := od_
    have q179 : x8_1 < (l1.length : Int) := od_
    obtain ⟨ad179, e179, hx179_0⟩ := Kd.at_int HR1.out x8_1 p179 q179
    cases e179
    replace hx179_0 := (HB.out.cell (World.block_lt_of_cell? w _ hx179_0)).trans hx179_0
    replace p179 := eq_true p179
    replace q179 := eq_true q179
    go_wp2
    go_meet
    case rel => exact ⟨_, (rd l1 x8_1), (by first | rfl | (simp; done) | (simp [*]; done)), H', ⟨by have := HK1.out; first | omega | exact Nat.le_refl _⟩, ⟨by (with_reducible repeat (first | apply Kd.R_alloc | apply Kd.R_drewN | apply Kd.R_drew)); exact HO_5.out⟩, ⟨by (with_reducible repeat (first | apply Kd.R_alloc | apply Kd.R_drewN | apply Kd.R_drew)); exact HO_6.out⟩, ⟨by (with_reducible repeat (first | apply Kd.R_alloc | apply Kd.R_drewN | apply Kd.R_drew)); exact HO_7.out⟩, ⟨by (with_reducible repeat (first | apply Kd.R_alloc | apply Kd.R_drewN | apply Kd.R_drew)); exact Kd.R_mono HO174.out (fun _ hk => ⟨hk.1.2, hk.2⟩)⟩, ⟨by repeat (first | (with_reducible first | exact HB.out | apply below_alloc | apply pw_below_drewN | apply below_drew1) | exact HB.out)⟩⟩
   case rest =>
    clear HC14
    try clear c1
    try clear p1
    try clear q1
    try clear hx1
    try clear p2
    try clear c4
    try clear c5
    try clear c5b0
    try clear c6
    try clear c6b0
    try clear p6
    try clear c8
    try clear c8b0
    try clear c8b1
    try clear c8b2
    try clear c9
    try clear p17
    try clear q17
    try clear hx17
    try clear c18
    try clear c18b0
    try clear hx171_0
    try clear hx175_0
    try clear hx179_0
    try clear p171
    try clear p175
    try clear p179
    try clear p2
    try clear q171
    try clear q175
    try clear q179
    obtain ⟨kq, x10_13, rfl, HA, HJ13, HO_5, HO_6, HO_7, HO_9, HB⟩ := hcut
    cases kq with
    | zero => exact absurd HA.out (by simp [hypercubelaw10_Other.j1])
    | succ kj13 =>
     have H := HA.out
     clear HA
     simp only [hypercubelaw10_Other.j1] at H
     by_cases c19 : 0 ≤ x8_1
     rotate_left
     ·rw [if_neg c19] at H
      exact absurd H (by simp)
     rw [if_pos c19] at H
     have c19b0 : decide (0 ≤ x8_1) = true := decide_eq_true c19
     clear c19
     by_cases c20 : x8_1 < (t168.length : Int)
     rotate_left
     ·rw [if_neg c20] at H
      exact absurd H (by simp)
     rw [if_pos c20] at H
     have c20b0 : decide (x8_1 < (t168.length : Int)) = true := decide_eq_true c20
     clear c20
     replace H := Option.bind_eq_some_iff.mp H
     obtain ⟨t181, A210, H⟩ := H
     replace H : (if 0 ≤ t181 then (if t181 < (t172.length : Int) then ((hypercubelaw10_within.f (wrap64 (Int.tdiv x10_13 4)) 2).bind fun t183 => (hypercubelaw10_Other.l1 kj13 a0 l1 x5_1 t168 x7_1 x8_1 0 (rd t168 x8_1) (rd t172 t181) (t183 == 0))) else (none)) else (none)) = some r := H
     have A21 := Aside0.mk A210
     clear A210
     by_cases c22 : 0 ≤ t181
     rotate_left
     ·rw [if_neg c22] at H
      exact absurd H (by simp)
     rw [if_pos c22] at H
     have c22b0 : decide (0 ≤ t181) = true := decide_eq_true c22
     clear c22
     by_cases c23 : t181 < (t172.length : Int)
     rotate_left
     ·rw [if_neg c23] at H
      exact absurd H (by simp)
     rw [if_pos c23] at H
     have c23b0 : decide (t181 < (t172.length : Int)) = true := decide_eq_true c23
     clear c23
     replace H := Option.bind_eq_some_iff.mp H
     obtain ⟨t183, A240, H⟩ := H
     replace H : (hypercubelaw10_Other.l1 kj13 a0 l1 x5_1 t168 x7_1 x8_1 0 (rd t168 x8_1) (rd t172 t181) (t183 == 0)) = some r := H
     have A24 := Aside0.mk A240
     clear A240
     have H' := Aside0.mk H
     clear H
     try go_wp2
     have n0_ := Aside0.mk (Kd.R_drew HO_5.out)
     have n1_ := Aside0.mk (Kd.R_drew HO_6.out)
     have n2_ := Aside0.mk (Kd.R_drew HO_7.out)
     have n3_ := Aside0.mk (Kd.R_drew HO_9.out)
     have n4_ := Aside0.mk (below_drew1 HB.out)
     clear HO_5
     clear HO_6
     clear HO_7
     clear HO_9
     clear HB
     have HO_5 := n0_
     have HO_6 := n1_
     have HO_7 := n2_
     have HO_9 := n3_
     have HB := n4_
     clear n0_ n1_ n2_ n3_ n4_
     have p180 : 0 ≤ (x8_1 : Int) := od_
     have q180 : x8_1 < (t168.length : Int) := od_
     obtain ⟨ad180, e180, hx180_0⟩ := Kd.at_int (Kd.R_reads' HO_6.out).2.2 x8_1 p180 q180
     obtain rfl : ad171 = ad180 := (by injection e180)
     replace p180 := eq_true p180
     replace q180 := eq_true q180
     have p182 : 0 ≤ (t181 : Int) := od_
     have q182 : t181 < (t172.length : Int) := od_
     obtain ⟨ad182, e182, hx182_0⟩ := Kd.at_int (Kd.R_reads' HO_9.out).2.2 t181 p182 q182
     cases e182
     replace p182 := eq_true p182
     replace q182 := eq_true q182
     refine start_ (n := 18) (S := fun w' => w'.cell? (ad171.add (x8_1).toNat) = some (.int .i64 (rd t168 x8_1)) ∧ w'.cell? (ad182.add (t181).toNat) = some (.int .i64 (rd t172 t181))) (ds := []) (fl_ 0 18) (by kernel_rfl) rfl rfl ⟨hx180_0, hx182_0⟩ (fun hHeld => ?_); refine with_tabW hypercubelaw10_Other.tab13 hypercubelaw10_Other.bits13 (fun HT_ HW_ => ?_)
     generalize wc.drew = w25 at HO_5 HO_6 HO_7 HO_9 HB hx180_0 hx182_0 hHeld ⊢
     refine pure_ (i := 0) (N := some 47) (v := ?_) (a' := ?_) (fl_ 1 17) rfl rfl (any_of HT_.out (by kernel_rfl)) (fun _ _ _ h => h) (Or.inl ⟨by rfl, ?_⟩) ?_ ?_
     rotate_left
     ·intro w'
      go_simp
      with_reducible rfl
     rotate_left
     ·simp only [Act.put, sl0, sl1, sl2, i64_w, i32_w]
      rfl
     refine pure_ (i := 1) (N := some 48) (v := ?_) (a' := ?_) (fl_ 2 16) rfl rfl (any_of HT_.out (by kernel_rfl)) (fun _ _ _ h => h) (Or.inl ⟨by rfl, ?_⟩) ?_ ?_
     rotate_left
     ·intro w'
      go_simp
      with_reducible rfl
     rotate_left
     ·simp only [Act.put, sl0, sl1, sl2, i64_w, i32_w]
      rfl
     refine pure_ (i := 2) (N := some 49) (v := ?_) (a' := ?_) (fl_ 3 15) rfl rfl (any_of HT_.out (by kernel_rfl)) (fun _ _ _ h => h) (Or.inl ⟨by rfl, ?_⟩) ?_ ?_
     rotate_left
     ·intro w'
      go_simp
      with_reducible rfl
     rotate_left
     ·simp only [Act.put, sl0, sl1, sl2, i64_w, i32_w]
      rfl
     refine pure_ (i := 4) (N := some 51) (v := ?_) (a' := ?_) #[Y,Y,Y,Z,Y,Z,Z,Z,Z,Z,Z,Z,Z,Z,Z,Z,Z,Z] rfl rfl (any_of HT_.out (by kernel_rfl)) (fun _ _ _ h => h) (Or.inl ⟨by rfl, ?_⟩) ?_ ?_
     rotate_left
     ·intro w'
      go_simp
      with_reducible rfl
     rotate_left
     ·simp only [Act.put, sl0, sl1, sl2, i64_w, i32_w]
      rfl
     refine pure_ (i := 5) (N := some 52) (v := ?_) (a' := ?_) #[Y,Y,Y,Z,Y,Y,Z,Z,Z,Z,Z,Z,Z,Z,Z,Z,Z,Z] rfl rfl (any_of HT_.out (by kernel_rfl)) (fun _ _ _ h => h) (Or.inl ⟨by rfl, ?_⟩) ?_ ?_
     rotate_left
     ·intro w'
      go_simp
      with_reducible rfl
     rotate_left
     ·simp only [Act.put, sl0, sl1, sl2, i64_w, i32_w]
      rfl
     refine pure_ (i := 6) (N := some 53) (v := ?_) (a' := ?_) #[Y,Y,Y,Z,Y,Y,Y,Z,Z,Z,Z,Z,Z,Z,Z,Z,Z,Z] rfl rfl (any_of HT_.out (by kernel_rfl)) (fun _ _ _ h => h) (Or.inl ⟨by rfl, ?_⟩) ?_ ?_
     rotate_left
     ·intro w'
      go_simp
      with_reducible rfl
     rotate_left
     ·simp only [Act.put, sl0, sl1, sl2, i64_w, i32_w]
      rfl
     refine pure_ (i := 7) (N := some 54) (v := ?_) (a' := ?_) #[Y,Y,Y,Z,Y,Y,Y,Y,Z,Z,Z,Z,Z,Z,Z,Z,Z,Z] rfl rfl (any_of HT_.out (by kernel_rfl)) (fun _ _ _ h => h) (Or.inl ⟨by rfl, ?_⟩) ?_ ?_
     rotate_left
     ·intro w'
      go_simp
      with_reducible rfl
     rotate_left
     ·simp only [Act.put, sl0, sl1, sl2, i64_w, i32_w]
      rfl
     refine pure_ (i := 11) (N := some 58) (v := ?_) (a' := ?_) #[Y,Y,Y,Z,Y,Y,Y,Y,Z,Z,Z,Y,Z,Z,Z,Z,Z,Z] rfl rfl (any_of HT_.out (by kernel_rfl)) (fun _ _ _ h => h) (Or.inl ⟨by rfl, ?_⟩) ?_ ?_
     rotate_left
     ·intro w'
      go_simp
      with_reducible rfl
     rotate_left
     ·simp only [Act.put, sl0, sl1, sl2, i64_w, i32_w]
      rfl
     refine pure_ (i := 12) (N := some 59) (v := ?_) (a' := ?_) #[Y,Y,Y,Z,Y,Y,Y,Y,Z,Z,Z,Y,Y,Z,Z,Z,Z,Z] rfl rfl (any_of HT_.out (by kernel_rfl)) (fun _ _ _ h => h) (Or.inl ⟨by rfl, ?_⟩) ?_ ?_
     rotate_left
     ·intro w'
      go_simp
      with_reducible rfl
     rotate_left
     ·simp only [Act.put, sl0, sl1, sl2, i64_w, i32_w]
      rfl
     refine take_ (i := 3) (N := some 50) (v := ?_) (a' := ?_) #[Y,Y,Y,Y,Y,Y,Y,Y,Z,Z,Z,Y,Y,Z,Z,Z,Z,Z] rfl rfl (take_ofW HT_.out HW_.out (by kernel_rfl)) (fun _ _ _ h => h) (Or.inl ⟨by rfl, ?_⟩) hHeld ?_ ?_
     rotate_left
     ·rintro w' ⟨s0, s1⟩
      go_simp
      with_reducible rfl
     rotate_left
     ·simp only [Act.put, sl0, sl1, sl2, i64_w, i32_w]
      rfl
     refine join_ (σ := Nat) 1 (fl_ 17 1) (fun s_ => [(55, .int .i64 t181), (60, .int .i64 t183), (11, .pointer (some ⟨s_, 0, none⟩)), (56, .pointer (some (ad182.add (t181).toNat))), (57, .int .i64 (rd t172 t181)), (61, .bool (t183 == 0)), (62, .agg #[.int .i64 (rd t168 x8_1), .int .i64 (rd t172 t181), .bool (t183 == 0)])]) (fun s_ w' => (w'.cell? (ad171.add (x8_1).toNat) = some (.int .i64 (rd t168 x8_1)) ∧ w'.cell? (ad182.add (t181).toNat) = some (.int .i64 (rd t172 t181))) ∧ (Kd.R k49 49 w' w.heap.size (fun k_ => k_ ≠ s_) u5 x5_1) ∧ (Kd.R (Kd.int .i64) 3 w' w.heap.size (fun k_ => some k_ ≠ (u7 : Value).ownBlock ∧ some k_ ≠ (.slice (some ad182) t172.length co17 : Value).ownBlock) (.slice (some ad171) t168.length co15) t168) ∧ (Kd.R (Kd.int .i64) 3 w' w.heap.size (fun k_ => some k_ ≠ (.slice (some ad171) t168.length co15 : Value).ownBlock ∧ some k_ ≠ (.slice (some ad182) t172.length co17 : Value).ownBlock) u7 x7_1) ∧ (Kd.R (Kd.int .i64) 3 w' w.heap.size (fun k_ => some k_ ≠ (.slice (some ad171) t168.length co15 : Value).ownBlock ∧ some k_ ≠ (u7 : Value).ownBlock) (.slice (some ad182) t172.length co17) t172) ∧ (w'.heap[s_]? = some (.cells #[.int .i64 0, .int .i64 0, .bool false] 49 (0, 0))) ∧ (w.heap.size ≤ s_) ∧ (w.heap.size ≤ s_) ∧ (Below w.heap.size w w')) ?_ ?_
     rotate_left
     ·intro hCont
      refine two_ (i := 8) (j := 16) (Ni := some 55) (Nj := some 11) #[Y,Y,Y,Y,Y,Y,Y,Y,Y,Z,Z,Y,Y,Z,Z,Z,Z,Z] #[Y,Y,Y,Y,Y,Y,Y,Y,Z,Z,Z,Y,Y,Z,Z,Z,Y,Z] rfl rfl rfl rfl (two_of HT_.out (by kernel_rfl)) (by decide) (by decide) (fun K hK => ?_) (fun K hK => ?_)
      rotate_left
      ·skip
       refine box_step ?hg (N := 11) ?hd (cs := #[.int .i64 0, .int .i64 0, .bool false]) (t := 49) ?hr ?_; (case hd => rfl); (case hg => rfl); (case hr => first | (go_simp; done) | (go_simp; rfl))
       intro gb184 hg w26 hbox hb
       have HS0_ := (hb.cell (World.block_lt_of_cell? _ _ (hHeld.1))).trans (hHeld.1)
       have HS1_ := (hb.cell (World.block_lt_of_cell? _ _ (hHeld.2))).trans (hHeld.2)
       have n0_ := Aside0.mk (Kd.R_below (Kd.R_elderB (by (with_reducible repeat (first | apply Kd.R_alloc | apply Kd.R_drewN | apply Kd.R_drew)); exact HO_5.out) gb184 (Nat.le_of_eq hg.symm)) hb)
       have n1_ := Aside0.mk (Kd.R_below (by (with_reducible repeat (first | apply Kd.R_alloc | apply Kd.R_drewN | apply Kd.R_drew)); exact HO_6.out) hb)
       have n2_ := Aside0.mk (Kd.R_below (by (with_reducible repeat (first | apply Kd.R_alloc | apply Kd.R_drewN | apply Kd.R_drew)); exact HO_7.out) hb)
       have n3_ := Aside0.mk (Kd.R_below (by (with_reducible repeat (first | apply Kd.R_alloc | apply Kd.R_drewN | apply Kd.R_drew)); exact HO_9.out) hb)
       have n4_ := Aside0.mk (below_step (by repeat (first | (with_reducible first | exact HB.out | apply below_alloc | apply pw_below_drewN | apply below_drew1) | exact HB.out)) hb)
       have n5_ := Aside0.mk (hbox)
       have n6_ := Aside0.mk ((by rw [hg]; exact (below_size (by repeat (first | (with_reducible first | exact HB.out | apply below_alloc | apply pw_below_drewN | apply below_drew1) | exact HB.out))) : w.heap.size ≤ gb184))
       have n7_ := Aside0.mk ((by rw [hg]; exact (below_size (by repeat (first | (with_reducible first | exact HB.out | apply below_alloc | apply pw_below_drewN | apply below_drew1) | exact HB.out))) : w.heap.size ≤ gb184))
       clear HO_5
       clear HO_6
       clear HO_7
       clear HO_9
       clear HB
       have HO_5 := n0_
       have HO_6 := n1_
       have HO_7 := n2_
       have HO_9 := n3_
       have HB := n4_
       have BK184 := n5_
       have GW184 := n6_
       have GE184 := n7_
       clear n0_ n1_ n2_ n3_ n4_ n5_ n6_ n7_
       clear hb hbox hg
       refine hK.out _ _ ⟨HS0_, HS1_⟩ (fun hHeld => ?_)
       clear hK K
       refine norm_ (a' := ?_) ?_ ?_
       rotate_left
       ·show Act.put _ (some 11) _ = _
        simp only [Act.put, sl0, sl1, sl2, i64_w, i32_w]
        rfl
       refine one_ (i := 8) (N := some 55) #[Y,Y,Y,Y,Y,Y,Y,Y,Y,Z,Z,Y,Y,Z,Z,Z,Y,Z] rfl rfl (one_of HT_.out (by kernel_rfl)) (by decide) (fun K hK => ?_)
       refine goes_ Try.func52 (by kernel_rfl) rfl #[.int .i64 x10_13, .int .i64 (t172.length : Int)] (by rfl) rfl rfl (by (try simp only [List.map_toArray, List.map_cons, List.map_nil]); first | done | rfl | (simp only [List.length_drop, List.length_take]; rfl)) ?_
       with_reducible refine (hypercubelaw10_within.calls x10_13 (t172.length : Int) t181 _ A21.out).mono ?_
       rintro e w' ⟨rfl, ⟨nd, rfl⟩⟩
       refine ⟨_, rfl, ?_⟩
       refine hK.out _ _ ⟨hHeld.1, hHeld.2⟩ (fun hHeld => ?_)
       clear hK K
       refine norm_ (a' := ?_) ?_ ?_
       rotate_left
       ·show Act.put _ (some 55) _ = _
        simp only [Act.put, sl0, sl1, sl2, i64_w, i32_w]
        rfl
       refine pure_ (i := 9) (N := some 56) (v := ?_) (a' := ?_) #[Y,Y,Y,Y,Y,Y,Y,Y,Y,Y,Z,Y,Y,Z,Z,Z,Y,Z] rfl rfl (any_of HT_.out (by kernel_rfl)) (fun _ _ _ h => h) (Or.inl ⟨by rfl, ?_⟩) ?_ ?_
       rotate_left
       ·intro w'
        go_simp
        with_reducible rfl
       rotate_left
       ·simp only [Act.put, sl0, sl1, sl2, i64_w, i32_w]
        rfl
       refine take_ (i := 10) (N := some 57) (v := ?_) (a' := ?_) #[Y,Y,Y,Y,Y,Y,Y,Y,Y,Y,Y,Y,Y,Z,Z,Z,Y,Z] rfl rfl (take_ofW HT_.out HW_.out (by kernel_rfl)) (fun _ _ _ h => h) (Or.inl ⟨by rfl, ?_⟩) hHeld ?_ ?_
       rotate_left
       ·rintro w' ⟨s0, s1⟩
        go_simp
        with_reducible rfl
       rotate_left
       ·simp only [Act.put, sl0, sl1, sl2, i64_w, i32_w]
        rfl
       refine one_ (i := 13) (N := some 60) #[Y,Y,Y,Y,Y,Y,Y,Y,Y,Y,Y,Y,Y,Y,Z,Z,Y,Z] rfl rfl (one_of HT_.out (by kernel_rfl)) (by decide) (fun K hK => ?_)
       refine goes_ Try.func52 (by kernel_rfl) rfl #[.int .i64 (wrap64 (Int.tdiv x10_13 4)), .int .i64 2] (by rfl) rfl rfl (by (try simp only [List.map_toArray, List.map_cons, List.map_nil]); first | done | rfl | (simp only [List.length_drop, List.length_take]; rfl)) ?_
       with_reducible refine (hypercubelaw10_within.calls (wrap64 (Int.tdiv x10_13 4)) 2 t183 _ A24.out).mono ?_
       rintro e w' ⟨rfl, ⟨nd, rfl⟩⟩
       refine ⟨_, rfl, ?_⟩
       refine hK.out _ _ ⟨hHeld.1, hHeld.2⟩ (fun hHeld => ?_)
       clear hK K
       refine norm_ (a' := ?_) ?_ ?_
       rotate_left
       ·show Act.put _ (some 60) _ = _
        simp only [Act.put, sl0, sl1, sl2, i64_w, i32_w]
        rfl
       refine pure_ (i := 14) (N := some 61) (v := ?_) (a' := ?_) #[Y,Y,Y,Y,Y,Y,Y,Y,Y,Y,Y,Y,Y,Y,Y,Z,Y,Z] rfl rfl (any_of HT_.out (by kernel_rfl)) (fun _ _ _ h => h) (Or.inl ⟨by rfl, ?_⟩) ?_ ?_
       rotate_left
       ·intro w'
        go_simp
        with_reducible rfl
       rotate_left
       ·simp only [Act.put, sl0, sl1, sl2, i64_w, i32_w]
        rfl
       refine pure_ (i := 15) (N := some 62) (v := ?_) (a' := ?_) (fl_ 17 1) rfl rfl (any_of HT_.out (by kernel_rfl)) (fun _ _ _ h => h) (Or.inl ⟨by rfl, ?_⟩) ?_ ?_
       rotate_left
       ·intro w'
        go_simp
        with_reducible rfl
       rotate_left
       ·simp only [Act.put, sl0, sl1, sl2, i64_w, i32_w]
        rfl
       exact norm_ (by simp only [putAll, Act.put, sl0, sl1, sl2]) (hCont (gb184) _ ⟨hHeld, (by (with_reducible repeat (first | apply Kd.R_alloc | apply Kd.R_drewN | apply Kd.R_drew)); exact Kd.R_mono HO_5.out (fun _ hk => hk.2)), (by (with_reducible repeat (first | apply Kd.R_alloc | apply Kd.R_drewN | apply Kd.R_drew)); exact HO_6.out), (by (with_reducible repeat (first | apply Kd.R_alloc | apply Kd.R_drewN | apply Kd.R_drew)); exact HO_7.out), (by (with_reducible repeat (first | apply Kd.R_alloc | apply Kd.R_drewN | apply Kd.R_drew)); exact HO_9.out), (by (with_reducible repeat (first | refine blk_drewN ?_ _ | refine blk_drew ?_ | refine blk_alloc ?_ _)); exact BK184.out), GW184.out, GE184.out, (by repeat (first | (with_reducible first | exact HB.out | apply below_alloc | apply pw_below_drewN | apply below_drew1 | refine below_set ?_ GE184.out) | exact HB.out))⟩)
      skip
      refine goes_ Try.func52 (by kernel_rfl) rfl #[.int .i64 x10_13, .int .i64 (t172.length : Int)] (by rfl) rfl rfl (by (try simp only [List.map_toArray, List.map_cons, List.map_nil]); first | done | rfl | (simp only [List.length_drop, List.length_take]; rfl)) ?_
      with_reducible refine (hypercubelaw10_within.calls x10_13 (t172.length : Int) t181 _ A21.out).mono ?_
      rintro e w' ⟨rfl, ⟨nd, rfl⟩⟩
      refine ⟨_, rfl, ?_⟩
      refine hK.out _ _ ⟨hHeld.1, hHeld.2⟩ (fun hHeld => ?_)
      clear hK K
      refine norm_ (a' := ?_) ?_ ?_
      rotate_left
      ·show Act.put _ (some 55) _ = _
       simp only [Act.put, sl0, sl1, sl2, i64_w, i32_w]
       rfl
      refine pure_ (i := 9) (N := some 56) (v := ?_) (a' := ?_) #[Y,Y,Y,Y,Y,Y,Y,Y,Y,Y,Z,Y,Y,Z,Z,Z,Z,Z] rfl rfl (any_of HT_.out (by kernel_rfl)) (fun _ _ _ h => h) (Or.inl ⟨by rfl, ?_⟩) ?_ ?_
      rotate_left
      ·intro w'
       go_simp
       with_reducible rfl
      rotate_left
      ·simp only [Act.put, sl0, sl1, sl2, i64_w, i32_w]
       rfl
      refine take_ (i := 10) (N := some 57) (v := ?_) (a' := ?_) (fl_ 13 5) rfl rfl (take_ofW HT_.out HW_.out (by kernel_rfl)) (fun _ _ _ h => h) (Or.inl ⟨by rfl, ?_⟩) hHeld ?_ ?_
      rotate_left
      ·rintro w' ⟨s0, s1⟩
       go_simp
       with_reducible rfl
      rotate_left
      ·simp only [Act.put, sl0, sl1, sl2, i64_w, i32_w]
       rfl
      refine two_ (i := 13) (j := 16) (Ni := some 60) (Nj := some 11) (fl_ 14 4) #[Y,Y,Y,Y,Y,Y,Y,Y,Y,Y,Y,Y,Y,Z,Z,Z,Y,Z] rfl rfl rfl rfl (two_of HT_.out (by kernel_rfl)) (by decide) (by decide) (fun K hK => ?_) (fun K hK => ?_)
      ·skip
       refine goes_ Try.func52 (by kernel_rfl) rfl #[.int .i64 (wrap64 (Int.tdiv x10_13 4)), .int .i64 2] (by rfl) rfl rfl (by (try simp only [List.map_toArray, List.map_cons, List.map_nil]); first | done | rfl | (simp only [List.length_drop, List.length_take]; rfl)) ?_
       with_reducible refine (hypercubelaw10_within.calls (wrap64 (Int.tdiv x10_13 4)) 2 t183 _ A24.out).mono ?_
       rintro e w' ⟨rfl, ⟨nd, rfl⟩⟩
       refine ⟨_, rfl, ?_⟩
       refine hK.out _ _ ⟨hHeld.1, hHeld.2⟩ (fun hHeld => ?_)
       clear hK K
       refine norm_ (a' := ?_) ?_ ?_
       rotate_left
       ·show Act.put _ (some 60) _ = _
        simp only [Act.put, sl0, sl1, sl2, i64_w, i32_w]
        rfl
       refine pure_ (i := 14) (N := some 61) (v := ?_) (a' := ?_) (fl_ 15 3) rfl rfl (any_of HT_.out (by kernel_rfl)) (fun _ _ _ h => h) (Or.inl ⟨by rfl, ?_⟩) ?_ ?_
       rotate_left
       ·intro w'
        go_simp
        with_reducible rfl
       rotate_left
       ·simp only [Act.put, sl0, sl1, sl2, i64_w, i32_w]
        rfl
       refine pure_ (i := 15) (N := some 62) (v := ?_) (a' := ?_) (fl_ 16 2) rfl rfl (any_of HT_.out (by kernel_rfl)) (fun _ _ _ h => h) (Or.inl ⟨by rfl, ?_⟩) ?_ ?_
       rotate_left
       ·intro w'
        go_simp
        with_reducible rfl
       rotate_left
       ·simp only [Act.put, sl0, sl1, sl2, i64_w, i32_w]
        rfl
       refine one_ (i := 16) (N := some 11) (fl_ 17 1) rfl rfl (one_of HT_.out (by kernel_rfl)) (by decide) (fun K hK => ?_)
       refine box_step ?hg (N := 11) ?hd (cs := #[.int .i64 0, .int .i64 0, .bool false]) (t := 49) ?hr ?_; (case hd => rfl); (case hg => rfl); (case hr => first | (go_simp; done) | (go_simp; rfl))
       intro gb184 hg w26 hbox hb
       have HS0_ := (hb.cell (World.block_lt_of_cell? _ _ (hHeld.1))).trans (hHeld.1)
       have HS1_ := (hb.cell (World.block_lt_of_cell? _ _ (hHeld.2))).trans (hHeld.2)
       have n0_ := Aside0.mk (Kd.R_below (Kd.R_elderB (by (with_reducible repeat (first | apply Kd.R_alloc | apply Kd.R_drewN | apply Kd.R_drew)); exact HO_5.out) gb184 (Nat.le_of_eq hg.symm)) hb)
       have n1_ := Aside0.mk (Kd.R_below (by (with_reducible repeat (first | apply Kd.R_alloc | apply Kd.R_drewN | apply Kd.R_drew)); exact HO_6.out) hb)
       have n2_ := Aside0.mk (Kd.R_below (by (with_reducible repeat (first | apply Kd.R_alloc | apply Kd.R_drewN | apply Kd.R_drew)); exact HO_7.out) hb)
       have n3_ := Aside0.mk (Kd.R_below (by (with_reducible repeat (first | apply Kd.R_alloc | apply Kd.R_drewN | apply Kd.R_drew)); exact HO_9.out) hb)
       have n4_ := Aside0.mk (below_step (by repeat (first | (with_reducible first | exact HB.out | apply below_alloc | apply pw_below_drewN | apply below_drew1) | exact HB.out)) hb)
       have n5_ := Aside0.mk (hbox)
       have n6_ := Aside0.mk ((by rw [hg]; exact (below_size (by repeat (first | (with_reducible first | exact HB.out | apply below_alloc | apply pw_below_drewN | apply below_drew1) | exact HB.out))) : w.heap.size ≤ gb184))
       have n7_ := Aside0.mk ((by rw [hg]; exact (below_size (by repeat (first | (with_reducible first | exact HB.out | apply below_alloc | apply pw_below_drewN | apply below_drew1) | exact HB.out))) : w.heap.size ≤ gb184))
       clear HO_5
       clear HO_6
       clear HO_7
       clear HO_9
       clear HB
       have HO_5 := n0_
       have HO_6 := n1_
       have HO_7 := n2_
       have HO_9 := n3_
       have HB := n4_
       have BK184 := n5_
       have GW184 := n6_
       have GE184 := n7_
       clear n0_ n1_ n2_ n3_ n4_ n5_ n6_ n7_
       clear hb hbox hg
       refine hK.out _ _ ⟨HS0_, HS1_⟩ (fun hHeld => ?_)
       clear hK K
       refine norm_ (a' := ?_) ?_ ?_
       rotate_left
       ·show Act.put _ (some 11) _ = _
        simp only [Act.put, sl0, sl1, sl2, i64_w, i32_w]
        rfl
       exact norm_ (by simp only [putAll, Act.put, sl0, sl1, sl2]) (hCont (gb184) _ ⟨hHeld, (by (with_reducible repeat (first | apply Kd.R_alloc | apply Kd.R_drewN | apply Kd.R_drew)); exact Kd.R_mono HO_5.out (fun _ hk => hk.2)), (by (with_reducible repeat (first | apply Kd.R_alloc | apply Kd.R_drewN | apply Kd.R_drew)); exact HO_6.out), (by (with_reducible repeat (first | apply Kd.R_alloc | apply Kd.R_drewN | apply Kd.R_drew)); exact HO_7.out), (by (with_reducible repeat (first | apply Kd.R_alloc | apply Kd.R_drewN | apply Kd.R_drew)); exact HO_9.out), (by (with_reducible repeat (first | refine blk_drewN ?_ _ | refine blk_drew ?_ | refine blk_alloc ?_ _)); exact BK184.out), GW184.out, GE184.out, (by repeat (first | (with_reducible first | exact HB.out | apply below_alloc | apply pw_below_drewN | apply below_drew1 | refine below_set ?_ GE184.out) | exact HB.out))⟩)
      skip
      refine box_step ?hg (N := 11) ?hd (cs := #[.int .i64 0, .int .i64 0, .bool false]) (t := 49) ?hr ?_; (case hd => rfl); (case hg => rfl); (case hr => first | (go_simp; done) | (go_simp; rfl))
      intro gb184 hg w26 hbox hb
      have HS0_ := (hb.cell (World.block_lt_of_cell? _ _ (hHeld.1))).trans (hHeld.1)
      have HS1_ := (hb.cell (World.block_lt_of_cell? _ _ (hHeld.2))).trans (hHeld.2)
      have n0_ := Aside0.mk (Kd.R_below (Kd.R_elderB (by (with_reducible repeat (first | apply Kd.R_alloc | apply Kd.R_drewN | apply Kd.R_drew)); exact HO_5.out) gb184 (Nat.le_of_eq hg.symm)) hb)
      have n1_ := Aside0.mk (Kd.R_below (by (with_reducible repeat (first | apply Kd.R_alloc | apply Kd.R_drewN | apply Kd.R_drew)); exact HO_6.out) hb)
      have n2_ := Aside0.mk (Kd.R_below (by (with_reducible repeat (first | apply Kd.R_alloc | apply Kd.R_drewN | apply Kd.R_drew)); exact HO_7.out) hb)
      have n3_ := Aside0.mk (Kd.R_below (by (with_reducible repeat (first | apply Kd.R_alloc | apply Kd.R_drewN | apply Kd.R_drew)); exact HO_9.out) hb)
      have n4_ := Aside0.mk (below_step (by repeat (first | (with_reducible first | exact HB.out | apply below_alloc | apply pw_below_drewN | apply below_drew1) | exact HB.out)) hb)
      have n5_ := Aside0.mk (hbox)
      have n6_ := Aside0.mk ((by rw [hg]; exact (below_size (by repeat (first | (with_reducible first | exact HB.out | apply below_alloc | apply pw_below_drewN | apply below_drew1) | exact HB.out))) : w.heap.size ≤ gb184))
      have n7_ := Aside0.mk ((by rw [hg]; exact (below_size (by repeat (first | (with_reducible first | exact HB.out | apply below_alloc | apply pw_below_drewN | apply below_drew1) | exact HB.out))) : w.heap.size ≤ gb184))
      clear HO_5
      clear HO_6
      clear HO_7
      clear HO_9
      clear HB
      have HO_5 := n0_
      have HO_6 := n1_
      have HO_7 := n2_
      have HO_9 := n3_
      have HB := n4_
      have BK184 := n5_
      have GW184 := n6_
      have GE184 := n7_
      clear n0_ n1_ n2_ n3_ n4_ n5_ n6_ n7_
      clear hb hbox hg
      refine hK.out _ _ ⟨HS0_, HS1_⟩ (fun hHeld => ?_)
      clear hK K
      refine norm_ (a' := ?_) ?_ ?_
      rotate_left
      ·show Act.put _ (some 11) _ = _
       simp only [Act.put, sl0, sl1, sl2, i64_w, i32_w]
       rfl
      refine one_ (i := 13) (N := some 60) #[Y,Y,Y,Y,Y,Y,Y,Y,Y,Y,Y,Y,Y,Y,Z,Z,Y,Z] rfl rfl (one_of HT_.out (by kernel_rfl)) (by decide) (fun K hK => ?_)
      refine goes_ Try.func52 (by kernel_rfl) rfl #[.int .i64 (wrap64 (Int.tdiv x10_13 4)), .int .i64 2] (by rfl) rfl rfl (by (try simp only [List.map_toArray, List.map_cons, List.map_nil]); first | done | rfl | (simp only [List.length_drop, List.length_take]; rfl)) ?_
      with_reducible refine (hypercubelaw10_within.calls (wrap64 (Int.tdiv x10_13 4)) 2 t183 _ A24.out).mono ?_
      rintro e w' ⟨rfl, ⟨nd, rfl⟩⟩
      refine ⟨_, rfl, ?_⟩
      refine hK.out _ _ ⟨hHeld.1, hHeld.2⟩ (fun hHeld => ?_)
      clear hK K
      refine norm_ (a' := ?_) ?_ ?_
      rotate_left
      ·show Act.put _ (some 60) _ = _
       simp only [Act.put, sl0, sl1, sl2, i64_w, i32_w]
       rfl
      refine pure_ (i := 14) (N := some 61) (v := ?_) (a' := ?_) #[Y,Y,Y,Y,Y,Y,Y,Y,Y,Y,Y,Y,Y,Y,Y,Z,Y,Z] rfl rfl (any_of HT_.out (by kernel_rfl)) (fun _ _ _ h => h) (Or.inl ⟨by rfl, ?_⟩) ?_ ?_
      rotate_left
      ·intro w'
       go_simp
       with_reducible rfl
      rotate_left
      ·simp only [Act.put, sl0, sl1, sl2, i64_w, i32_w]
       rfl
      refine pure_ (i := 15) (N := some 62) (v := ?_) (a' := ?_) (fl_ 17 1) rfl rfl (any_of HT_.out (by kernel_rfl)) (fun _ _ _ h => h) (Or.inl ⟨by rfl, ?_⟩) ?_ ?_
      rotate_left
      ·intro w'
       go_simp
       with_reducible rfl
      rotate_left
      ·simp only [Act.put, sl0, sl1, sl2, i64_w, i32_w]
       rfl
      exact norm_ (by simp only [putAll, Act.put, sl0, sl1, sl2]) (hCont (gb184) _ ⟨hHeld, (by (with_reducible repeat (first | apply Kd.R_alloc | apply Kd.R_drewN | apply Kd.R_drew)); exact Kd.R_mono HO_5.out (fun _ hk => hk.2)), (by (with_reducible repeat (first | apply Kd.R_alloc | apply Kd.R_drewN | apply Kd.R_drew)); exact HO_6.out), (by (with_reducible repeat (first | apply Kd.R_alloc | apply Kd.R_drewN | apply Kd.R_drew)); exact HO_7.out), (by (with_reducible repeat (first | apply Kd.R_alloc | apply Kd.R_drewN | apply Kd.R_drew)); exact HO_9.out), (by (with_reducible repeat (first | refine blk_drewN ?_ _ | refine blk_drew ?_ | refine blk_alloc ?_ _)); exact BK184.out), GW184.out, GE184.out, (by repeat (first | (with_reducible first | exact HB.out | apply below_alloc | apply pw_below_drewN | apply below_drew1 | refine below_set ?_ GE184.out) | exact HB.out))⟩)
     rintro gb184 w27 ⟨hS_, h0_, h1_, h2_, h3_, h4_, h5_, h6_, h7_⟩
     have n0_ : Aside0 (Kd.R k49 49 w27 w.heap.size (fun k_ => k_ ≠ gb184) u5 x5_1) := ⟨h0_⟩
     have n1_ : Aside0 (Kd.R (Kd.int .i64) 3 w27 w.heap.size (fun k_ => some k_ ≠ (u7 : Value).ownBlock ∧ some k_ ≠ (.slice (some ad182) t172.length co17 : Value).ownBlock) (.slice (some ad171) t168.length co15) t168) := ⟨h1_⟩
     have n2_ : Aside0 (Kd.R (Kd.int .i64) 3 w27 w.heap.size (fun k_ => some k_ ≠ (.slice (some ad171) t168.length co15 : Value).ownBlock ∧ some k_ ≠ (.slice (some ad182) t172.length co17 : Value).ownBlock) u7 x7_1) := ⟨h2_⟩
     have n3_ : Aside0 (Kd.R (Kd.int .i64) 3 w27 w.heap.size (fun k_ => some k_ ≠ (.slice (some ad171) t168.length co15 : Value).ownBlock ∧ some k_ ≠ (u7 : Value).ownBlock) (.slice (some ad182) t172.length co17) t172) := ⟨h3_⟩
     have n4_ : Aside0 (w27.heap[gb184]? = some (.cells #[.int .i64 0, .int .i64 0, .bool false] 49 (0, 0))) := ⟨h4_⟩
     have n5_ : Aside0 (w.heap.size ≤ gb184) := ⟨h5_⟩
     have n6_ : Aside0 (w.heap.size ≤ gb184) := ⟨h6_⟩
     have n7_ : Aside0 (Below w.heap.size w w27) := ⟨h7_⟩
     clear HO_5
     clear HO_6
     clear HO_7
     clear HO_9
     clear HB
     clear h0_ h1_ h2_ h3_ h4_ h5_ h6_ h7_
     have HO_5 := n0_
     have HO_6 := n1_
     have HO_7 := n2_
     have HO_9 := n3_
     have BK184 := n4_
     have GW184 := n5_
     have GE184 := n6_
     have HB := n7_
     clear n0_ n1_ n2_ n3_ n4_ n5_ n6_ n7_
     have hHeld : w27.cell? (ad171.add (x8_1).toNat) = some (.int .i64 (rd t168 x8_1)) ∧ w27.cell? (ad182.add (t181).toNat) = some (.int .i64 (rd t172 t181)) := hS_
     refine norm_ (a' := ?_) ?_ ?_
     rotate_left
     ·simp only [putAll, Act.put, sl0, sl1, sl2]
      rfl
     refine one_ (i := 17) (N := none) (fl_ 18 0) rfl rfl (one_of HT_.out (by kernel_rfl)) (by decide) (fun K hK => ?_)
     have hs28 : w27.cell? ⟨gb184, 0, none⟩ = some (.int .i64 0) := (blk_cell BK184.out 0).trans rfl
     have hfs28 := blk_frozen BK184.out 0
     have hs29 : w27.cell? ⟨gb184, 1, none⟩ = some (.int .i64 0) := (blk_cell BK184.out 1).trans rfl
     have hfs29 := blk_frozen BK184.out 1
     have hs30 : w27.cell? ⟨gb184, 2, none⟩ = some (.bool false) := (blk_cell BK184.out 2).trans rfl
     have hfs30 := blk_frozen BK184.out 2
     refine skip_ (w1 := ?_) (by rfl) rfl ?_ ?_
     rotate_left
     ·go_simp
      rfl
     refine hK.out _ _ ⟨((cell_far (p := ⟨gb184, _, none⟩) (by first | exact Kd.own_blk (Kd.R_ne HO_6.out BK184.out (by decide)) | (rw [add_block]; exact Kd.own_blk (Kd.R_ne HO_6.out BK184.out (by decide))) | (show (Addr.add _ _).block ≠ _; rw [add_block]; exact Kd.own_blk (Kd.R_ne HO_6.out BK184.out (by decide))) | (dsimp only; exact Kd.own_blk (Kd.R_ne HO_6.out BK184.out (by decide)))) _).trans (((cell_far (p := ⟨gb184, _, none⟩) (by first | exact Kd.own_blk (Kd.R_ne HO_6.out BK184.out (by decide)) | (rw [add_block]; exact Kd.own_blk (Kd.R_ne HO_6.out BK184.out (by decide))) | (show (Addr.add _ _).block ≠ _; rw [add_block]; exact Kd.own_blk (Kd.R_ne HO_6.out BK184.out (by decide))) | (dsimp only; exact Kd.own_blk (Kd.R_ne HO_6.out BK184.out (by decide)))) _).trans (((cell_far (p := ⟨gb184, _, none⟩) (by first | exact Kd.own_blk (Kd.R_ne HO_6.out BK184.out (by decide)) | (rw [add_block]; exact Kd.own_blk (Kd.R_ne HO_6.out BK184.out (by decide))) | (show (Addr.add _ _).block ≠ _; rw [add_block]; exact Kd.own_blk (Kd.R_ne HO_6.out BK184.out (by decide))) | (dsimp only; exact Kd.own_blk (Kd.R_ne HO_6.out BK184.out (by decide)))) _).trans (hHeld.1)))))), ((cell_far (p := ⟨gb184, _, none⟩) (by first | exact Kd.own_blk (Kd.R_ne HO_9.out BK184.out (by decide)) | (rw [add_block]; exact Kd.own_blk (Kd.R_ne HO_9.out BK184.out (by decide))) | (show (Addr.add _ _).block ≠ _; rw [add_block]; exact Kd.own_blk (Kd.R_ne HO_9.out BK184.out (by decide))) | (dsimp only; exact Kd.own_blk (Kd.R_ne HO_9.out BK184.out (by decide)))) _).trans (((cell_far (p := ⟨gb184, _, none⟩) (by first | exact Kd.own_blk (Kd.R_ne HO_9.out BK184.out (by decide)) | (rw [add_block]; exact Kd.own_blk (Kd.R_ne HO_9.out BK184.out (by decide))) | (show (Addr.add _ _).block ≠ _; rw [add_block]; exact Kd.own_blk (Kd.R_ne HO_9.out BK184.out (by decide))) | (dsimp only; exact Kd.own_blk (Kd.R_ne HO_9.out BK184.out (by decide)))) _).trans (((cell_far (p := ⟨gb184, _, none⟩) (by first | exact Kd.own_blk (Kd.R_ne HO_9.out BK184.out (by decide)) | (rw [add_block]; exact Kd.own_blk (Kd.R_ne HO_9.out BK184.out (by decide))) | (show (Addr.add _ _).block ≠ _; rw [add_block]; exact Kd.own_blk (Kd.R_ne HO_9.out BK184.out (by decide))) | (dsimp only; exact Kd.own_blk (Kd.R_ne HO_9.out BK184.out (by decide)))) _).trans (hHeld.2))))))⟩ (fun hHeld => ?_)
     clear hK K
     refine done_ (done_of HT_.out (by kernel_rfl)) ?_
     try go_wp2
     go_loopg [12] kj13 (fun kq v12 w' => ∃ (x12_3 : Int) (x185002_3 : Bool), v12 = .int .i64 x12_3 ∧ Aside0 (hypercubelaw10_Other.l1 kq a0 l1 x5_1 t168 x7_1 x8_1 x12_3 (rd t168 x8_1) (rd t172 t181) x185002_3 = some r) ∧ Aside0 (kq ≤ kj13) ∧ Aside0 (Kd.R k49 49 w' w.heap.size (fun k_ => k_ ≠ gb184) u5 x5_1) ∧ Aside0 (Kd.R (Kd.int .i64) 3 w' w.heap.size (fun k_ => some k_ ≠ (u7 : Value).ownBlock) (.slice (some ad171) t168.length co15) t168) ∧ Aside0 (Kd.R (Kd.int .i64) 3 w' w.heap.size (fun k_ => some k_ ≠ ((.slice (some ad171) t168.length co15) : Value).ownBlock) u7 x7_1) ∧ Aside0 (w'.heap[gb184]? = some (.cells #[.int .i64 (rd t168 x8_1), .int .i64 (rd t172 t181), .bool x185002_3] 49 (0, 0))) ∧ Aside0 (Below w.heap.size w w'))
     case atStart => exact ⟨(0), ((t183 == 0)), (by first | rfl | (simp; done) | (simp [*]; done)), H', ⟨Nat.le_refl _⟩, ⟨by (with_reducible repeat (first | apply Kd.R_alloc | apply Kd.R_drewN | apply Kd.R_drew)); exact Kd.R_mono (Kd.R_far (p := ⟨gb184, 2, none⟩) (Kd.R_far (p := ⟨gb184, 1, none⟩) (Kd.R_far (p := ⟨gb184, 0, none⟩) (Kd.R_mono HO_5.out (fun k_ hk => (⟨hk, hk⟩ : _ ∧ k_ ≠ gb184))) (fun _ hk => hk.2) (.int .i64 (rd t168 x8_1))) (fun _ hk => hk.2) (.int .i64 (rd t172 t181))) (fun _ hk => hk.2) (.bool (t183 == 0))) (fun _ hk => hk.1)⟩, ⟨by (with_reducible repeat (first | apply Kd.R_alloc | apply Kd.R_drewN | apply Kd.R_drew)); exact Kd.R_mono (Kd.R_far (p := ⟨gb184, 2, none⟩) (Kd.R_far (p := ⟨gb184, 1, none⟩) (Kd.R_far (p := ⟨gb184, 0, none⟩) (Kd.R_types HO_6.out BK184.out (by decide)) (fun _ hk => hk.2) (.int .i64 (rd t168 x8_1))) (fun _ hk => hk.2) (.int .i64 (rd t172 t181))) (fun _ hk => hk.2) (.bool (t183 == 0))) (fun _ hk => hk.1.1)⟩, ⟨by (with_reducible repeat (first | apply Kd.R_alloc | apply Kd.R_drewN | apply Kd.R_drew)); exact Kd.R_mono (Kd.R_far (p := ⟨gb184, 2, none⟩) (Kd.R_far (p := ⟨gb184, 1, none⟩) (Kd.R_far (p := ⟨gb184, 0, none⟩) (Kd.R_types HO_7.out BK184.out (by decide)) (fun _ hk => hk.2) (.int .i64 (rd t168 x8_1))) (fun _ hk => hk.2) (.int .i64 (rd t172 t181))) (fun _ hk => hk.2) (.bool (t183 == 0))) (fun _ hk => hk.1.1)⟩, ⟨by (with_reducible repeat (first | refine blk_drewN ?_ _ | refine blk_drew ?_ | refine blk_alloc ?_ _)); refine blk_put (cs := #[.int .i64 (rd t168 x8_1), .int .i64 (rd t172 t181), .bool false]) ?_ 2 _ rfl; (with_reducible repeat (first | refine blk_drewN ?_ _ | refine blk_drew ?_ | refine blk_alloc ?_ _)); refine blk_put (cs := #[.int .i64 (rd t168 x8_1), .int .i64 0, .bool false]) ?_ 1 _ rfl; (with_reducible repeat (first | refine blk_drewN ?_ _ | refine blk_drew ?_ | refine blk_alloc ?_ _)); refine blk_put (cs := #[.int .i64 0, .int .i64 0, .bool false]) ?_ 0 _ rfl; (with_reducible repeat (first | refine blk_drewN ?_ _ | refine blk_drew ?_ | refine blk_alloc ?_ _)); exact BK184.out⟩, ⟨by repeat (first | (with_reducible first | exact HB.out | apply below_alloc | apply pw_below_drewN | apply below_drew1 | refine below_set ?_ GE184.out) | exact HB.out)⟩⟩
     case round =>
      clear H'
      try clear c1
      try clear p1
      try clear q1
      try clear hx1
      try clear c2
      try clear p2
      try clear c4
      try clear c5
      try clear c5b0
      try clear c6
      try clear c6b0
      try clear p6
      try clear c8
      try clear c8b0
      try clear c8b1
      try clear c8b2
      try clear c9
      try clear p17
      try clear q17
      try clear hx17
      try clear c18
      try clear c18b0
      try clear p18
      try clear q18
      try clear hx18
      try clear c19
      try clear c19b0
      try clear c20
      try clear c20b0
      try clear c22
      try clear c22b0
      try clear c23
      try clear c23b0
      try clear hx171_0
      try clear hx175_0
      try clear hx179_0
      try clear hx180_0
      try clear hx182_0
      try clear p1
      try clear p17
      try clear p171
      try clear p175
      try clear p179
      try clear p180
      try clear p182
      try clear p2
      try clear p6
      try clear q1
      try clear q17
      try clear q171
      try clear q175
      try clear q179
      try clear q180
      try clear q182
      obtain ⟨x12_3, x185002_3, rfl, HA, HK3, HO_5, HO_6, HO_7, BK184, HB⟩ := hrel
      cases gk with
      | zero => exact absurd HA.out (by simp [hypercubelaw10_Other.l1])
      | succ k3 =>
       have H := HA.out
       clear HA
       simp only [hypercubelaw10_Other.l1] at H
       by_cases c31 : x12_3 < (x7_1.length : Int)
       rotate_left
       ·rw [if_neg c31] at H
        have c31b0 : decide (x12_3 < (x7_1.length : Int)) = false := decide_eq_false c31
        clear c31
        by_cases c39 : x185002_3 = true
        rotate_left
        ·replace c39 := Bool.eq_false_iff.mpr c39
         subst c39
         have H1 : (if x5_1.length < 5864062014805 then (hypercubelaw10_Other.l0 k3 a0 l1 (x5_1 ++ [(⟨(rd t168 x8_1), (rd t172 t181), false⟩ : S49)]) t168 x7_1 (wrap64 (x8_1 + 1))) else (none)) = some r := by rw [if_neg (show ¬ (false = true) by decide)] at H; exact H
         clear H
         have H := H1
         clear H1
         by_cases c47 : x5_1.length < 5864062014805
         rotate_left
         ·rw [if_neg c47] at H
          exact absurd H (by simp)
         rw [if_pos c47] at H
         have LMc47 := Aside0.mk c47
         clear c47
         obtain ⟨y192, hy192⟩ : ∃ y_ : List (S49), y_ = (x5_1 ++ [(⟨(rd t168 x8_1), (rd t172 t181), false⟩ : S49)]) := ⟨_, rfl⟩
         replace H : (hypercubelaw10_Other.l0 k3 a0 l1 y192 t168 x7_1 (wrap64 (x8_1 + 1))) = some r := by first | (rw [hy192]; with_reducible exact H) | (have H2_ := (Option.bind_some _ _).symm.trans H; rw [hy192]; with_reducible exact H2_) | (have H2_ := (Option.bind_some _ _).symm.trans H; with_reducible exact H2_) | with_reducible exact H | (rw [hy192]; exact H) | exact H
         have Ny192 := Aside0.mk hy192
         clear hy192
         have H' := Aside0.mk H
         clear H
         obtain ⟨Ao48, co48, eo48⟩ := Kd.R_slice HO_7.out
         subst eo48
         have hcz49_0 : wr.cell? ⟨gb184, 0, none⟩ = some (.int .i64 (rd t168 x8_1)) := (blk_cell BK184.out 0).trans rfl
         have hcz49_1 : wr.cell? ⟨gb184, 1, none⟩ = some (.int .i64 (rd t172 t181)) := (blk_cell BK184.out 1).trans rfl
         have hcz49_2 : wr.cell? ⟨gb184, 2, none⟩ = some (.bool false) := (blk_cell BK184.out 2).trans rfl
         have hfz49_0 := blk_frozen BK184.out 0
         have hfz49_1 := blk_frozen BK184.out 1
         have hfz49_2 := blk_frozen BK184.out 2
         go_wp2_with (first | ((with_reducible refine gate_builtin (b := .append) (xs := #[.tmp 84, .tmp 86]) rfl ?_); at_builtin; refine Kd.R_append k49 (w0 := w) w.heap.size rfl (.tmp 84) (.tmp 86) 43 49 (.agg #[(.int .i64 0), (.int .i64 0), (.bool false)]) 24 rfl Try.underlying43 info49 rfl (by decide) (by omega) u5 x5_1 (⟨(rd t168 x8_1), (rd t172 t181), false⟩ : S49) [.int .i64 (rd t168 x8_1), .int .i64 (rd t172 t181), .bool false] (fun k_ => k_ ≠ gb184) (fun _ => False) rfl rfl ?aP (fun _ hk => hk.elim) ?aF ?aO ?aB ?aS ?aL ?_; (case aP => exact k49_mkM _ _ _ (⟨(rd t168 x8_1), (rd t172 t181), false⟩ : S49)); (case aB => exact (by repeat (first | (with_reducible first | exact HB.out | apply below_alloc | apply pw_below_drewN | apply below_drew1 | refine below_set ?_ GE184.out) | exact HB.out))); (case aF => exact (fun k_ hk => Kd.freshB (g := gb184) (o := .cells #[.int .i64 (rd t168 x8_1), .int .i64 (rd t172 t181), .bool false] 49 (0, 0)) (by (with_reducible repeat (first | refine blk_drewN ?_ _ | refine blk_drew ?_ | refine blk_alloc ?_ _)); exact BK184.out) k_ hk)); (case aO => exact (by (with_reducible repeat (first | apply Kd.R_alloc | apply Kd.R_drewN | apply Kd.R_drew)); exact HO_5.out)); (case aS => exact (below_size (by repeat (first | (with_reducible first | exact HB.out | apply below_alloc | apply pw_below_drewN | apply below_drew1 | refine below_set ?_ GE184.out) | exact HB.out)))); (case aL => have := LMc47.out; omega); intro v193 w50 ho hb hg hat; rw [← Ny192.out] at ho; have n0_ := Aside0.mk (Kd.R_over' (by (with_reducible repeat (first | apply Kd.R_alloc | apply Kd.R_drewN | apply Kd.R_drew)); exact HO_6.out) (Kd.R_typed (by (with_reducible repeat (first | apply Kd.R_alloc | apply Kd.R_drewN | apply Kd.R_drew)); exact HO_5.out)) (by decide) hg); have n1_ := Aside0.mk (Kd.R_over' (by (with_reducible repeat (first | apply Kd.R_alloc | apply Kd.R_drewN | apply Kd.R_drew)); exact HO_7.out) (Kd.R_typed (by (with_reducible repeat (first | apply Kd.R_alloc | apply Kd.R_drewN | apply Kd.R_drew)); exact HO_5.out)) (by decide) hg); have n2_ := Aside0.mk (blk_grown (g := gb184) (o := .cells #[.int .i64 (rd t168 x8_1), .int .i64 (rd t172 t181), .bool false] 49 (0, 0)) (by (with_reducible repeat (first | refine blk_drewN ?_ _ | refine blk_drew ?_ | refine blk_alloc ?_ _)); exact BK184.out) hg (Kd.R_away HO_5.out (fun _ hk => hk))); have n3_ := Aside0.mk (hb); have n4_ := Aside0.mk (ho); clear HO_6; clear HO_7; clear BK184; clear HB; clear HO_5; have HO_6 := n0_; have HO_7 := n1_; have BK184 := n2_; have HB := n3_; have HO194 := n4_; clear n0_ n1_ n2_ n3_ n4_; clear ho hb hg hat))
         go_roundg k3
         case measure => have := HK1.out; have := HJ13.out; have := HK3.out; omega
         case rel => exact ⟨(y192), (x7_1), (wrap64 (x8_1 + 1)), (by first | rfl | (simp; done) | (simp [*]; done)), H', ⟨by have := HK1.out; have := HJ13.out; have := HK3.out; omega⟩, ⟨by (with_reducible repeat (first | apply Kd.R_alloc | apply Kd.R_drewN | apply Kd.R_drew)); exact Kd.R_mono HO194.out (fun _ hk => trivial)⟩, ⟨by (with_reducible repeat (first | apply Kd.R_alloc | apply Kd.R_drewN | apply Kd.R_drew)); exact HO_6.out⟩, ⟨by (with_reducible repeat (first | apply Kd.R_alloc | apply Kd.R_drewN | apply Kd.R_drew)); exact HO_7.out⟩, ⟨by repeat (first | (with_reducible first | exact HB.out | apply below_alloc | apply pw_below_drewN | apply below_drew1 | refine below_set ?_ GE184.out) | exact HB.out)⟩⟩
        subst c39
        have H1 : (if x7_1.length < 17592186044416 then (if x5_1.length < 5864062014805 then (hypercubelaw10_Other.l0 k3 a0 l1 (x5_1 ++ [(⟨(rd t168 x8_1), (rd t172 t181), true⟩ : S49)]) t168 (x7_1 ++ [(rd t172 t181)]) (wrap64 (x8_1 + 1))) else (none)) else (none)) = some r := by rw [if_pos rfl] at H; exact H
        clear H
        have H := H1
        clear H1
        by_cases c40 : x7_1.length < 17592186044416
        rotate_left
        ·rw [if_neg c40] at H
         exact absurd H (by simp)
        rw [if_pos c40] at H
        have LMc40 := Aside0.mk c40
        clear c40
        obtain ⟨y186, hy186⟩ : ∃ y_ : List Int, y_ = (x7_1 ++ [(rd t172 t181)]) := ⟨_, rfl⟩
        replace H : (if x5_1.length < 5864062014805 then (hypercubelaw10_Other.l0 k3 a0 l1 (x5_1 ++ [(⟨(rd t168 x8_1), (rd t172 t181), true⟩ : S49)]) t168 y186 (wrap64 (x8_1 + 1))) else (none)) = some r := by first | (rw [hy186]; with_reducible exact H) | (have H2_ := (Option.bind_some _ _).symm.trans H; rw [hy186]; with_reducible exact H2_) | (have H2_ := (Option.bind_some _ _).symm.trans H; with_reducible exact H2_) | with_reducible exact H | (rw [hy186]; exact H) | exact H
        have Ny186 := Aside0.mk hy186
        clear hy186
        by_cases c41 : x5_1.length < 5864062014805
        rotate_left
        ·rw [if_neg c41] at H
         exact absurd H (by simp)
        rw [if_pos c41] at H
        have LMc41 := Aside0.mk c41
        clear c41
        obtain ⟨y189, hy189⟩ : ∃ y_ : List (S49), y_ = (x5_1 ++ [(⟨(rd t168 x8_1), (rd t172 t181), true⟩ : S49)]) := ⟨_, rfl⟩
        replace H : (hypercubelaw10_Other.l0 k3 a0 l1 y189 t168 y186 (wrap64 (x8_1 + 1))) = some r := by first | (rw [hy189]; with_reducible exact H) | (have H2_ := (Option.bind_some _ _).symm.trans H; rw [hy189]; with_reducible exact H2_) | (have H2_ := (Option.bind_some _ _).symm.trans H; with_reducible exact H2_) | with_reducible exact H | (rw [hy189]; exact H) | exact H
        have Ny189 := Aside0.mk hy189
        clear hy189
        have H' := Aside0.mk H
        clear H
        obtain ⟨Ao42, co42, eo42⟩ := Kd.R_slice HO_7.out
        subst eo42
        have hcz43_0 : wr.cell? ⟨gb184, 0, none⟩ = some (.int .i64 (rd t168 x8_1)) := (blk_cell BK184.out 0).trans rfl
        have hcz43_1 : wr.cell? ⟨gb184, 1, none⟩ = some (.int .i64 (rd t172 t181)) := (blk_cell BK184.out 1).trans rfl
        have hcz43_2 : wr.cell? ⟨gb184, 2, none⟩ = some (.bool true) := (blk_cell BK184.out 2).trans rfl
        have hfz43_0 := blk_frozen BK184.out 0
        have hfz43_1 := blk_frozen BK184.out 1
        have hfz43_2 := blk_frozen BK184.out 2
        go_wp2_with (first | ((with_reducible refine gate_builtin (b := .append) (xs := #[.tmp 79, .tmp 82]) rfl ?_); at_builtin; refine Kd.R_append (Kd.int .i64) (w0 := w) w.heap.size rfl (.tmp 79) (.tmp 82) 24 3 (.int .i64 0) 8 rfl Try.underlying24 info3 rfl (by decide) (by omega) (.slice Ao42 x7_1.length co42) x7_1 (rd t172 t181) [.int .i64 (rd t172 t181)] (fun k_ => some k_ ≠ (.slice (some ad171) t168.length co15 : Value).ownBlock) (fun _ => False) rfl rfl ?aP (fun _ hk => hk.elim) ?aF ?aO ?aB ?aS ?aL ?_; (case aP => exact rfl); (case aB => exact (by repeat (first | (with_reducible first | exact HB.out | apply below_alloc | apply pw_below_drewN | apply below_drew1 | refine below_set ?_ GE184.out) | exact HB.out))); (case aF => exact (fun k_ hk => Kd.fresh' (Kd.R_lt (by (with_reducible repeat (first | apply Kd.R_alloc | apply Kd.R_drewN | apply Kd.R_drew)); exact HO_6.out)) k_ hk)); (case aO => exact (by (with_reducible repeat (first | apply Kd.R_alloc | apply Kd.R_drewN | apply Kd.R_drew)); exact HO_7.out)); (case aS => exact (below_size (by repeat (first | (with_reducible first | exact HB.out | apply below_alloc | apply pw_below_drewN | apply below_drew1 | refine below_set ?_ GE184.out) | exact HB.out)))); (case aL => have := LMc40.out; omega); intro v187 w44 ho hb hg hat; rw [← Ny186.out] at ho; have n0_ := Aside0.mk (Kd.R_over' (by (with_reducible repeat (first | apply Kd.R_alloc | apply Kd.R_drewN | apply Kd.R_drew)); exact HO_5.out) (Kd.R_typed (by (with_reducible repeat (first | apply Kd.R_alloc | apply Kd.R_drewN | apply Kd.R_drew)); exact HO_7.out)) (by decide) hg); have n1_ := Aside0.mk (Kd.R_after (ok := (fun _ => True)) (by (with_reducible repeat (first | apply Kd.R_alloc | apply Kd.R_drewN | apply Kd.R_drew)); exact Kd.R_mono HO_6.out (fun _ hk => ⟨trivial, hk⟩)) hg hat); have n2_ := Aside0.mk (blk_grown (g := gb184) (o := .cells #[.int .i64 (rd t168 x8_1), .int .i64 (rd t172 t181), .bool true] 49 (0, 0)) (by (with_reducible repeat (first | refine blk_drewN ?_ _ | refine blk_drew ?_ | refine blk_alloc ?_ _)); exact BK184.out) hg (Kd.R_ne HO_7.out BK184.out (by decide))); have n3_ := Aside0.mk (hb); have n4_ := Aside0.mk (ho); clear HO_5; clear HO_6; clear BK184; clear HB; clear HO_7; have HO_5 := n0_; have HO_6 := n1_; have BK184 := n2_; have HB := n3_; have HO188 := n4_; clear n0_ n1_ n2_ n3_ n4_; clear ho hb hg hat; have hcz45_0 : w44.cell? ⟨gb184, 0, none⟩ = some (.int .i64 (rd t168 x8_1)) := (blk_cell BK184.out 0).trans rfl; have hcz45_1 : w44.cell? ⟨gb184, 1, none⟩ = some (.int .i64 (rd t172 t181)) := (blk_cell BK184.out 1).trans rfl; have hcz45_2 : w44.cell? ⟨gb184, 2, none⟩ = some (.bool true) := (blk_cell BK184.out 2).trans rfl; have hfz45_0 := blk_frozen BK184.out 0; have hfz45_1 := blk_frozen BK184.out 1; have hfz45_2 := blk_frozen BK184.out 2) | ((with_reducible refine gate_builtin (b := .append) (xs := #[.tmp 84, .tmp 86]) rfl ?_); at_builtin; refine Kd.R_append k49 (w0 := w) w.heap.size rfl (.tmp 84) (.tmp 86) 43 49 (.agg #[(.int .i64 0), (.int .i64 0), (.bool false)]) 24 rfl Try.underlying43 info49 rfl (by decide) (by omega) u5 x5_1 (⟨(rd t168 x8_1), (rd t172 t181), true⟩ : S49) [.int .i64 (rd t168 x8_1), .int .i64 (rd t172 t181), .bool true] (fun k_ => k_ ≠ gb184) (fun _ => False) rfl rfl ?aP (fun _ hk => hk.elim) ?aF ?aO ?aB ?aS ?aL ?_; (case aP => exact k49_mkM _ _ _ (⟨(rd t168 x8_1), (rd t172 t181), true⟩ : S49)); (case aB => exact (by repeat (first | (with_reducible first | exact HB.out | apply below_alloc | apply pw_below_drewN | apply below_drew1 | refine below_set ?_ GE184.out) | exact HB.out))); (case aF => exact (fun k_ hk => Kd.freshB (g := gb184) (o := .cells #[.int .i64 (rd t168 x8_1), .int .i64 (rd t172 t181), .bool true] 49 (0, 0)) (by (with_reducible repeat (first | refine blk_drewN ?_ _ | refine blk_drew ?_ | refine blk_alloc ?_ _)); exact BK184.out) k_ hk)); (case aO => exact (by (with_reducible repeat (first | apply Kd.R_alloc | apply Kd.R_drewN | apply Kd.R_drew)); exact HO_5.out)); (case aS => exact (below_size (by repeat (first | (with_reducible first | exact HB.out | apply below_alloc | apply pw_below_drewN | apply below_drew1 | refine below_set ?_ GE184.out) | exact HB.out)))); (case aL => have := LMc41.out; omega); intro v190 w46 ho hb hg hat; rw [← Ny189.out] at ho; have n0_ := Aside0.mk (Kd.R_over' (by (with_reducible repeat (first | apply Kd.R_alloc | apply Kd.R_drewN | apply Kd.R_drew)); exact HO_6.out) (Kd.R_typed (by (with_reducible repeat (first | apply Kd.R_alloc | apply Kd.R_drewN | apply Kd.R_drew)); exact HO_5.out)) (by decide) hg); have n1_ := Aside0.mk (blk_grown (g := gb184) (o := .cells #[.int .i64 (rd t168 x8_1), .int .i64 (rd t172 t181), .bool true] 49 (0, 0)) (by (with_reducible repeat (first | refine blk_drewN ?_ _ | refine blk_drew ?_ | refine blk_alloc ?_ _)); exact BK184.out) hg (Kd.R_away HO_5.out (fun _ hk => hk))); have n2_ := Aside0.mk (Kd.R_over' (by (with_reducible repeat (first | apply Kd.R_alloc | apply Kd.R_drewN | apply Kd.R_drew)); exact HO188.out) (Kd.R_typed (by (with_reducible repeat (first | apply Kd.R_alloc | apply Kd.R_drewN | apply Kd.R_drew)); exact HO_5.out)) (by decide) hg); have n3_ := Aside0.mk (hb); have n4_ := Aside0.mk (ho); clear HO_6; clear BK184; clear HO188; clear HB; clear HO_5; have HO_6 := n0_; have BK184 := n1_; have HO188 := n2_; have HB := n3_; have HO191 := n4_; clear n0_ n1_ n2_ n3_ n4_; clear ho hb hg hat))
        go_roundg k3
        case measure => have := HK1.out; have := HJ13.out; have := HK3.out; omega
        case rel => exact ⟨(y189), (y186), (wrap64 (x8_1 + 1)), (by first | rfl | (simp; done) | (simp [*]; done)), H', ⟨by have := HK1.out; have := HJ13.out; have := HK3.out; omega⟩, ⟨by (with_reducible repeat (first | apply Kd.R_alloc | apply Kd.R_drewN | apply Kd.R_drew)); exact Kd.R_mono HO191.out (fun _ hk => trivial)⟩, ⟨by (with_reducible repeat (first | apply Kd.R_alloc | apply Kd.R_drewN | apply Kd.R_drew)); exact Kd.R_mono HO_6.out (fun _ hk => hk.2)⟩, ⟨by (with_reducible repeat (first | apply Kd.R_alloc | apply Kd.R_drewN | apply Kd.R_drew)); exact HO188.out⟩, ⟨by repeat (first | (with_reducible first | exact HB.out | apply below_alloc | apply pw_below_drewN | apply below_drew1 | refine below_set ?_ GE184.out) | exact HB.out)⟩⟩
       rw [if_pos c31] at H
       have c31b0 : decide (x12_3 < (x7_1.length : Int)) = true := decide_eq_true c31
       clear c31
       by_cases c32 : 0 ≤ x12_3
       rotate_left
       ·rw [if_neg c32] at H
        exact absurd H (by simp)
       rw [if_pos c32] at H
       have c32b0 : decide (0 ≤ x12_3) = true := decide_eq_true c32
       clear c32
       by_cases c33 : (rd x7_1 x12_3) = (rd t172 t181)
       rotate_left
       ·rw [if_neg c33] at H
        have c33b0 : ((rd x7_1 x12_3) == (rd t172 t181)) = false := beq_eq_false_iff_ne.mpr c33
        have c33b1 : ((rd x7_1 x12_3) != (rd t172 t181)) = true := bne_iff_ne.mpr c33
        have H' := Aside0.mk H
        clear H
        obtain ⟨Ao37, co37, eo37⟩ := Kd.R_slice HO_7.out
        subst eo37
        try go_wp2
        have n0_ := Aside0.mk (Kd.R_drew HO_5.out)
        have n1_ := Aside0.mk (Kd.R_drew HO_6.out)
        have n2_ := Aside0.mk (Kd.R_drew HO_7.out)
        have n3_ := Aside0.mk (blk_drew BK184.out)
        have n4_ := Aside0.mk (below_drew1 HB.out)
        clear HO_5
        clear HO_6
        clear HO_7
        clear BK184
        clear HB
        have HO_5 := n0_
        have HO_6 := n1_
        have HO_7 := n2_
        have BK184 := n3_
        have HB := n4_
        clear n0_ n1_ n2_ n3_ n4_
        have p185 : 0 ≤ (x12_3 : Int) := od_
        have q185 : x12_3 < (x7_1.length : Int) := od_
        obtain ⟨ad185, e185, hx185_0⟩ := Kd.at_int (Kd.R_reads' HO_7.out).2.2 x12_3 p185 q185
        cases e185
        replace p185 := eq_true p185
        replace q185 := eq_true q185
        refine start_ (n := 7) (S := fun w' => w'.cell? ⟨gb184, 0, none⟩ = some (.int .i64 (rd t168 x8_1)) ∧ w'.cell? ⟨gb184, 1, none⟩ = some (.int .i64 (rd t172 t181)) ∧ w'.cell? ⟨gb184, 2, none⟩ = some (.bool x185002_3) ∧ w'.cell? (ad185.add (x12_3).toNat) = some (.int .i64 (rd x7_1 x12_3))) (ds := []) (fl_ 0 7) (by kernel_rfl) rfl rfl ⟨(blk_cell BK184.out 0).trans rfl, (blk_cell BK184.out 1).trans rfl, (blk_cell BK184.out 2).trans rfl, hx185_0⟩ (fun hHeld => ?_)
        generalize wr.drew = w38 at HO_5 HO_6 HO_7 BK184 HB hx185_0 hHeld ⊢
        refine pure_ (i := 0) (N := some 69) (v := ?_) (a' := ?_) (fl_ 1 6) rfl rfl (by kernel_rfl) (fun _ _ _ h => h) (Or.inl ⟨by rfl, ?_⟩) ?_ ?_
        rotate_left
        ·intro w'
         go_simp
         with_reducible rfl
        rotate_left
        ·simp only [Act.put, sl0, sl1, sl2, i64_w, i32_w]
         rfl
        refine pure_ (i := 1) (N := some 70) (v := ?_) (a' := ?_) (fl_ 2 5) rfl rfl (by kernel_rfl) (fun _ _ _ h => h) (Or.inl ⟨by rfl, ?_⟩) ?_ ?_
        rotate_left
        ·intro w'
         go_simp
         with_reducible rfl
        rotate_left
        ·simp only [Act.put, sl0, sl1, sl2, i64_w, i32_w]
         rfl
        refine pure_ (i := 2) (N := some 71) (v := ?_) (a' := ?_) (fl_ 3 4) rfl rfl (by kernel_rfl) (fun _ _ _ h => h) (Or.inl ⟨by rfl, ?_⟩) ?_ ?_
        rotate_left
        ·intro w'
         go_simp
         with_reducible rfl
        rotate_left
        ·simp only [Act.put, sl0, sl1, sl2, i64_w, i32_w]
         rfl
        refine pure_ (i := 4) (N := some 73) (v := ?_) (a' := ?_) #[Y,Y,Y,Z,Y,Z,Z] rfl rfl (by kernel_rfl) (fun _ _ _ h => h) (Or.inl ⟨by rfl, ?_⟩) ?_ ?_
        rotate_left
        ·intro w'
         go_simp
         with_reducible rfl
        rotate_left
        ·simp only [Act.put, sl0, sl1, sl2, i64_w, i32_w]
         rfl
        refine take_ (i := 3) (N := some 72) (v := ?_) (a' := ?_) (fl_ 5 2) rfl rfl (by kernel_rfl) (fun _ _ _ h => h) (Or.inl ⟨by rfl, ?_⟩) hHeld ?_ ?_
        rotate_left
        ·rintro w' ⟨s0, s1, s2, s3⟩
         go_simp
         with_reducible rfl
        rotate_left
        ·simp only [Act.put, sl0, sl1, sl2, i64_w, i32_w]
         rfl
        refine take_ (i := 5) (N := some 74) (v := ?_) (a' := ?_) (fl_ 6 1) rfl rfl (by kernel_rfl) (fun _ _ _ h => h) (Or.inl ⟨by rfl, ?_⟩) hHeld ?_ ?_
        rotate_left
        ·rintro w' ⟨s0, s1, s2, s3⟩
         go_simp
         with_reducible rfl
        rotate_left
        ·simp only [Act.put, sl0, sl1, sl2, i64_w, i32_w]
         rfl
        refine pure_ (i := 6) (N := some 75) (v := ?_) (a' := ?_) (fl_ 7 0) rfl rfl (by kernel_rfl) (fun _ _ _ h => h) (Or.inl ⟨by rfl, ?_⟩) ?_ ?_
        rotate_left
        ·intro w'
         go_simp
         with_reducible rfl
        rotate_left
        ·simp only [Act.put, sl0, sl1, sl2, i64_w, i32_w]
         rfl
        refine done_ (by kernel_rfl) ?_
        try go_wp2
        go_roundg k3
        case measure => have := HK1.out; have := HJ13.out; have := HK3.out; omega
        case rel => exact ⟨(wrap64 (x12_3 + 1)), (x185002_3), (by first | rfl | (simp; done) | (simp [*]; done)), H', ⟨by have := HK1.out; have := HJ13.out; have := HK3.out; omega⟩, ⟨by (with_reducible repeat (first | apply Kd.R_alloc | apply Kd.R_drewN | apply Kd.R_drew)); exact HO_5.out⟩, ⟨by (with_reducible repeat (first | apply Kd.R_alloc | apply Kd.R_drewN | apply Kd.R_drew)); exact HO_6.out⟩, ⟨by (with_reducible repeat (first | apply Kd.R_alloc | apply Kd.R_drewN | apply Kd.R_drew)); exact HO_7.out⟩, ⟨by (with_reducible repeat (first | refine blk_drewN ?_ _ | refine blk_drew ?_ | refine blk_alloc ?_ _)); exact BK184.out⟩, ⟨by repeat (first | (with_reducible first | exact HB.out | apply below_alloc | apply pw_below_drewN | apply below_drew1 | refine below_set ?_ GE184.out) | exact HB.out)⟩⟩
       rw [if_pos c33] at H
       have c33b0 : ((rd x7_1 x12_3) == (rd t172 t181)) = true := beq_iff_eq.mpr c33
       have c33b1 : ((rd x7_1 x12_3) != (rd t172 t181)) = false := bne_eq_false_iff_eq.mpr c33
       clear c33
       have H' := Aside0.mk H
       clear H
       obtain ⟨Ao34, co34, eo34⟩ := Kd.R_slice HO_7.out
       subst eo34
       try go_wp2
       have n0_ := Aside0.mk (Kd.R_drew HO_5.out)
       have n1_ := Aside0.mk (Kd.R_drew HO_6.out)
       have n2_ := Aside0.mk (Kd.R_drew HO_7.out)
       have n3_ := Aside0.mk (blk_drew BK184.out)
       have n4_ := Aside0.mk (below_drew1 HB.out)
       clear HO_5
       clear HO_6
       clear HO_7
       clear BK184
       clear HB
       have HO_5 := n0_
       have HO_6 := n1_
       have HO_7 := n2_
       have BK184 := n3_
       have HB := n4_
       clear n0_ n1_ n2_ n3_ n4_
       have p185 : 0 ≤ (x12_3 : Int) := od_
       have q185 : x12_3 < (x7_1.length : Int) := od_
       obtain ⟨ad185, e185, hx185_0⟩ := Kd.at_int (Kd.R_reads' HO_7.out).2.2 x12_3 p185 q185
       cases e185
       replace p185 := eq_true p185
       replace q185 := eq_true q185
       refine start_ (n := 7) (S := fun w' => w'.cell? ⟨gb184, 0, none⟩ = some (.int .i64 (rd t168 x8_1)) ∧ w'.cell? ⟨gb184, 1, none⟩ = some (.int .i64 (rd t172 t181)) ∧ w'.cell? ⟨gb184, 2, none⟩ = some (.bool x185002_3) ∧ w'.cell? (ad185.add (x12_3).toNat) = some (.int .i64 (rd x7_1 x12_3))) (ds := []) (fl_ 0 7) (by kernel_rfl) rfl rfl ⟨(blk_cell BK184.out 0).trans rfl, (blk_cell BK184.out 1).trans rfl, (blk_cell BK184.out 2).trans rfl, hx185_0⟩ (fun hHeld => ?_)
       generalize wr.drew = w35 at HO_5 HO_6 HO_7 BK184 HB hx185_0 hHeld ⊢
       refine pure_ (i := 0) (N := some 69) (v := ?_) (a' := ?_) (fl_ 1 6) rfl rfl (by kernel_rfl) (fun _ _ _ h => h) (Or.inl ⟨by rfl, ?_⟩) ?_ ?_
       rotate_left
       ·intro w'
        go_simp
        with_reducible rfl
       rotate_left
       ·simp only [Act.put, sl0, sl1, sl2, i64_w, i32_w]
        rfl
       refine pure_ (i := 1) (N := some 70) (v := ?_) (a' := ?_) (fl_ 2 5) rfl rfl (by kernel_rfl) (fun _ _ _ h => h) (Or.inl ⟨by rfl, ?_⟩) ?_ ?_
       rotate_left
       ·intro w'
        go_simp
        with_reducible rfl
       rotate_left
       ·simp only [Act.put, sl0, sl1, sl2, i64_w, i32_w]
        rfl
       refine pure_ (i := 2) (N := some 71) (v := ?_) (a' := ?_) (fl_ 3 4) rfl rfl (by kernel_rfl) (fun _ _ _ h => h) (Or.inl ⟨by rfl, ?_⟩) ?_ ?_
       rotate_left
       ·intro w'
        go_simp
        with_reducible rfl
       rotate_left
       ·simp only [Act.put, sl0, sl1, sl2, i64_w, i32_w]
        rfl
       refine pure_ (i := 4) (N := some 73) (v := ?_) (a' := ?_) #[Y,Y,Y,Z,Y,Z,Z] rfl rfl (by kernel_rfl) (fun _ _ _ h => h) (Or.inl ⟨by rfl, ?_⟩) ?_ ?_
       rotate_left
       ·intro w'
        go_simp
        with_reducible rfl
       rotate_left
       ·simp only [Act.put, sl0, sl1, sl2, i64_w, i32_w]
        rfl
       refine take_ (i := 3) (N := some 72) (v := ?_) (a' := ?_) (fl_ 5 2) rfl rfl (by kernel_rfl) (fun _ _ _ h => h) (Or.inl ⟨by rfl, ?_⟩) hHeld ?_ ?_
       rotate_left
       ·rintro w' ⟨s0, s1, s2, s3⟩
        go_simp
        with_reducible rfl
       rotate_left
       ·simp only [Act.put, sl0, sl1, sl2, i64_w, i32_w]
        rfl
       refine take_ (i := 5) (N := some 74) (v := ?_) (a' := ?_) (fl_ 6 1) rfl rfl (by kernel_rfl) (fun _ _ _ h => h) (Or.inl ⟨by rfl, ?_⟩) hHeld ?_ ?_
       rotate_left
       ·rintro w' ⟨s0, s1, s2, s3⟩
        go_simp
        with_reducible rfl
       rotate_left
       ·simp only [Act.put, sl0, sl1, sl2, i64_w, i32_w]
        rfl
       refine pure_ (i := 6) (N := some 75) (v := ?_) (a' := ?_) (fl_ 7 0) rfl rfl (by kernel_rfl) (fun _ _ _ h => h) (Or.inl ⟨by rfl, ?_⟩) ?_ ?_
       rotate_left
       ·intro w'
        go_simp
        with_reducible rfl
       rotate_left
       ·simp only [Act.put, sl0, sl1, sl2, i64_w, i32_w]
        rfl
       refine done_ (by kernel_rfl) ?_
       have hcz36_0 : w35.cell? ⟨gb184, 0, none⟩ = some (.int .i64 (rd t168 x8_1)) := (blk_cell BK184.out 0).trans rfl
       have hcz36_1 : w35.cell? ⟨gb184, 1, none⟩ = some (.int .i64 (rd t172 t181)) := (blk_cell BK184.out 1).trans rfl
       have hcz36_2 : w35.cell? ⟨gb184, 2, none⟩ = some (.bool x185002_3) := (blk_cell BK184.out 2).trans rfl
       have hfz36_0 := blk_frozen BK184.out 0
       have hfz36_1 := blk_frozen BK184.out 1
       have hfz36_2 := blk_frozen BK184.out 2
       try go_wp2
       go_roundg k3
       case measure => have := HK1.out; have := HJ13.out; have := HK3.out; omega
       case rel => exact ⟨(wrap64 (x12_3 + 1)), (false), (by first | rfl | (simp; done) | (simp [*]; done)), H', ⟨by have := HK1.out; have := HJ13.out; have := HK3.out; omega⟩, ⟨by (with_reducible repeat (first | apply Kd.R_alloc | apply Kd.R_drewN | apply Kd.R_drew)); exact Kd.R_mono (Kd.R_far (p := ⟨gb184, 2, none⟩) (Kd.R_mono HO_5.out (fun k_ hk => (⟨hk, hk⟩ : _ ∧ k_ ≠ gb184))) (fun _ hk => hk.2) (.bool false)) (fun _ hk => hk.1)⟩, ⟨by (with_reducible repeat (first | apply Kd.R_alloc | apply Kd.R_drewN | apply Kd.R_drew)); exact Kd.R_mono (Kd.R_far (p := ⟨gb184, 2, none⟩) (Kd.R_types HO_6.out BK184.out (by decide)) (fun _ hk => hk.2) (.bool false)) (fun _ hk => hk.1)⟩, ⟨by (with_reducible repeat (first | apply Kd.R_alloc | apply Kd.R_drewN | apply Kd.R_drew)); exact Kd.R_mono (Kd.R_far (p := ⟨gb184, 2, none⟩) (Kd.R_types HO_7.out BK184.out (by decide)) (fun _ hk => hk.2) (.bool false)) (fun _ hk => hk.1)⟩, ⟨by (with_reducible repeat (first | refine blk_drewN ?_ _ | refine blk_drew ?_ | refine blk_alloc ?_ _)); refine blk_put (cs := #[.int .i64 (rd t168 x8_1), .int .i64 (rd t172 t181), .bool x185002_3]) ?_ 2 _ rfl; (with_reducible repeat (first | refine blk_drewN ?_ _ | refine blk_drew ?_ | refine blk_alloc ?_ _)); exact BK184.out⟩, ⟨by repeat (first | (with_reducible first | exact HB.out | apply below_alloc | apply pw_below_drewN | apply below_drew1 | refine below_set ?_ GE184.out) | exact HB.out)⟩⟩

end Go.Proofs.Ytlplaidcdocbmaa.PSortsOrders
