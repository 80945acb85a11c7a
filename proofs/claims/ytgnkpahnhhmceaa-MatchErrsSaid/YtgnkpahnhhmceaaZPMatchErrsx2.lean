-- Cut by pack.py, a program of this session; not trusted: Lean checks it.
import Derived.Test.YtgnkpahnhhmceaaZPMatchErrsx0
import Derived.Test.YtgnkpahnhhmceaaZPMatchErrsx1
namespace Go.Proofs.Ytgnkpahnhhmceaa.PMatchErrs
open Go.RowKit Go.Proofs.YtgnkpahnhhmceaaW.PrintWords Go.Proofs.YtgnkpahnhhmceaaW.PrintLast Go.Proofs.YtgnkpahnhhmceaaW.PrintMore
private abbrev fl_ (a b : Nat) : Array Bool := (List.replicate a true ++ List.replicate b false).toArray
private abbrev Y : Bool := true
private abbrev Z : Bool := false
open List renaming setIfInBounds_toArray → sl0, set_cons_zero → sl1, set_cons_succ → sl2
private theorem od_ {p : Prop} [Decidable p] (h : decide p = true := by first | (with_reducible assumption) | assumption) : p := of_decide_eq_true h
attribute [local go_sem] max2_int min2_int max_two min_two max_three min_three max_four min_four   -- for this text's walks alone
set_option linter.unusedVariables false
set_option linter.unusedSimpArgs false

noncomputable section
/-- The rows of a made row, as they stand made. -/
theorem R_rowsM {e base n cap : Nat} {ok : Nat → Prop} {W : World} {A : Option Addr} {α : Type} {d : Kd α} {xs : List α} (h : d.R e W base ok (.slice A n cap) xs) : ReadsRow (d.M W base ok) d.sz W A n xs := by
 obtain ⟨hn, hc, hC⟩ := Kd.R_reads' h
 refine ⟨hn.symm, by have := hC.2.1; omega, fun hp => ?_⟩
 obtain ⟨ad, hA, _⟩ := hC.2.2 (by omega)
 subst hA
 refine ⟨ad, rfl, fun j p hj => ?_⟩
 have hjl : j < xs.length := by
  rcases Nat.lt_or_ge j xs.length with hh | hh
  ·exact hh
  rw [List.getElem?_eq_none hh] at hj; cases hj
 obtain ⟨c, h1, h2, h3⟩ := Kd.R_get h p (j : Int) (by omega) (by omega)
 have e : xs.getD (j : Int).toNat p = p := by
  rw [Int.toNat_natCast, List.getD_eq_getElem?_getD, hj]; rfl
 rw [e] at h2
 rw [Int.toNat_natCast] at h3
 exact ⟨c, h1, d.M_mono (fun k hk => hk.1) h2, h3⟩
/-! ### hypercubelaw9_MatchErrs: function 5 -/
mutual
def hypercubelaw9_MatchErrs.l0 : Nat → List (List Int) → Int → Int → List Int → Int → Int → Int → Option (Bool)
 | 0, _, _, _, _, _, _, _ => none
 | k + 1, x0, x1, x2, x3, x4, x5, x13 => if x13 < (x0.length : Int) then (if 0 ≤ x13 then (if ((rd_L1 x0 x13).length : Int) > 20 then (some true) else (hypercubelaw9_MatchErrs.l0 k x0 x1 x2 x3 x4 x5 (wrap64 (x13 + 1)))) else (none)) else ((hypercubelaw9_within.f x1 4).bind fun t145 => ((hypercubelaw9_Costs.f (wrap64 (1 + t145)) x2 x3 9).bind fun t146 => (if (t146.length : Int) > 0 then ((hypercubelaw9_within.f x4 5).bind fun t149 => (if t149 = 0 then (if 0 < (t146.length : Int) then (if (rd_L1 t146 0).length < 17592186044416 then (hypercubelaw9_MatchErrs.j3 k x0 (t146.set (0 : Int).toNat ((rd_L1 t146 0) ++ [1]))) else (none)) else (none)) else (if t149 = 1 then (if 0 ≤ (wrap64 ((t146.length : Int) - 1)) then (if (wrap64 ((t146.length : Int) - 1)) < (t146.length : Int) then ((some (([(-1), 1000000, 1000001, x5] : List Int) : List Int)).bind fun y156 => ((hypercubelaw9_within.f x5 4).bind fun t159 => (if 0 ≤ t159 then (if t159 < (y156.length : Int) then (if 0 < ((rd_L1 t146 (wrap64 ((t146.length : Int) - 1))).length : Int) then (hypercubelaw9_MatchErrs.j3 k x0 (t146.set ((wrap64 ((t146.length : Int) - 1)) : Int).toNat ((rd_L1 t146 (wrap64 ((t146.length : Int) - 1))).set (0 : Int).toNat (rd y156 t159)))) else (none)) else (none)) else (none)))) else (none)) else (none)) else (if t149 = 2 then (if 0 < (t146.length : Int) then (if t146.length < 1000 then (hypercubelaw9_MatchErrs.j3 k x0 (t146 ++ [rd_L1 t146 0, rd_L1 t146 0, rd_L1 t146 0, rd_L1 t146 0, rd_L1 t146 0])) else (none)) else (none)) else (if t149 = 3 then (hypercubelaw9_MatchErrs.l1 k x0 x5 t146) else (hypercubelaw9_MatchErrs.j3 k x0 t146)))))) else (hypercubelaw9_MatchErrs.j3 k x0 t146))))
def hypercubelaw9_MatchErrs.j3 : Nat → List (List Int) → List (List Int) → Option (Bool)
 | 0, _, _ => none
 | k + 1, x0, x14 => (match_Assign.f x14).bind fun bt171 => ((hypercuberef9_Assign.f x14).bind fun bt176 => ((match_Assign.f x0).bind fun bt181 => ((hypercuberef9_Assign.f x0).bind fun bt186 => (if (bt171.2.2 == bt176.2.2) = true then (if bt171.2.1 = bt176.2.1 then ((hypercuberef1_Ints.f bt171.1 bt176.1).bind fun t191 => (if t191 = true then (if (bt181.2.2 == bt186.2.2) = true then (if bt181.2.1 = bt186.2.1 then ((hypercuberef1_Ints.f bt181.1 bt186.1).bind fun t192 => (some t192)) else (some false)) else (some false)) else (some false))) else (some false)) else (some false)))))
def hypercubelaw9_MatchErrs.l1 : Nat → List (List Int) → Int → List (List Int) → Option (Bool)
 | 0, _, _, _ => none
 | k + 1, x0, x5, x14 => if 0 < (x14.length : Int) then ((hypercubelaw9_within.f x5 3).bind fun t165 => (if ((rd_L1 x14 0).length : Int) < (wrap64 (11 + t165)) then (hypercubelaw9_MatchErrs.l2 k x0 x5 x14 0) else (hypercubelaw9_MatchErrs.j3 k x0 x14))) else (none)
def hypercubelaw9_MatchErrs.l2 : Nat → List (List Int) → Int → List (List Int) → Int → Option (Bool)
 | 0, _, _, _, _ => none
 | k + 1, x0, x5, x14, x15 => if x15 < (x14.length : Int) then (if 0 ≤ x15 then (if (rd_L1 x14 x15).length < 17592186044416 then (hypercubelaw9_MatchErrs.l2 k x0 x5 (x14.set (x15 : Int).toNat ((rd_L1 x14 x15) ++ [4])) (wrap64 (x15 + 1))) else (none)) else (none)) else (hypercubelaw9_MatchErrs.l1 k x0 x5 x14)
end
def hypercubelaw9_MatchErrs.f (k : Nat) (l0 : List (List Int)) (a1 : Int) (a2 : Int) (l3 : List Int) (a4 : Int) (a5 : Int) : Option (Bool) := (hypercubelaw9_known.f).bind fun t143 => (if t143 = true then (if (l0.length : Int) > 20 then (some true) else (hypercubelaw9_MatchErrs.l0 k l0 a1 a2 l3 a4 a5 0)) else (some false))
theorem hypercubelaw9_MatchErrs.mono_l : ∀ k, (∀ y0 y1 y2 y3 y4 y5 y6, LeO (hypercubelaw9_MatchErrs.l0 k y0 y1 y2 y3 y4 y5 y6) (hypercubelaw9_MatchErrs.l0 (k + 1) y0 y1 y2 y3 y4 y5 y6)) ∧ (∀ y0 y1, LeO (hypercubelaw9_MatchErrs.j3 k y0 y1) (hypercubelaw9_MatchErrs.j3 (k + 1) y0 y1)) ∧ (∀ y0 y1 y2, LeO (hypercubelaw9_MatchErrs.l1 k y0 y1 y2) (hypercubelaw9_MatchErrs.l1 (k + 1) y0 y1 y2)) ∧ (∀ y0 y1 y2 y3, LeO (hypercubelaw9_MatchErrs.l2 k y0 y1 y2 y3) (hypercubelaw9_MatchErrs.l2 (k + 1) y0 y1 y2 y3))
 | 0 => ⟨fun _ _ _ _ _ _ _ r h => by simp [hypercubelaw9_MatchErrs.l0] at h, fun _ _ r h => by simp [hypercubelaw9_MatchErrs.j3] at h, fun _ _ _ r h => by simp [hypercubelaw9_MatchErrs.l1] at h, fun _ _ _ _ r h => by simp [hypercubelaw9_MatchErrs.l2] at h⟩
 | k + 1 => by
  obtain ⟨ih0, ih1, ih2, ih3⟩ := hypercubelaw9_MatchErrs.mono_l k
  refine ⟨?_, ?_, ?_, ?_⟩
  ·intro y0 y1 y2 y3 y4 y5 y6
   unfold hypercubelaw9_MatchErrs.l0
   repeat' first
   | (with_reducible exact ih0 _ _ _ _ _ _ _)
   | (with_reducible exact ih1 _ _)
   | (with_reducible exact ih2 _ _ _)
   | (with_reducible exact ih3 _ _ _ _)
   | (with_reducible exact LeO.refl _)
   | (with_reducible exact LeO.none _)
   | (with_reducible refine LeO.ite ?_ ?_)
   | (with_reducible refine LeO.bind ?_ (fun _ => ?_))
   | exact ih0 _ _ _ _ _ _ _
   | exact ih1 _ _
   | exact ih2 _ _ _
   | exact ih3 _ _ _ _
   | exact LeO.none _
   | refine LeO.ite ?_ ?_
   | refine LeO.bind ?_ (fun _ => ?_)
  ·intro y0 y1
   unfold hypercubelaw9_MatchErrs.j3
   repeat' first
   | (with_reducible exact ih0 _ _ _ _ _ _ _)
   | (with_reducible exact ih1 _ _)
   | (with_reducible exact ih2 _ _ _)
   | (with_reducible exact ih3 _ _ _ _)
   | (with_reducible exact LeO.refl _)
   | (with_reducible exact LeO.none _)
   | (with_reducible refine LeO.ite ?_ ?_)
   | (with_reducible refine LeO.bind ?_ (fun _ => ?_))
   | exact ih0 _ _ _ _ _ _ _
   | exact ih1 _ _
   | exact ih2 _ _ _
   | exact ih3 _ _ _ _
   | exact LeO.none _
   | refine LeO.ite ?_ ?_
   | refine LeO.bind ?_ (fun _ => ?_)
  ·intro y0 y1 y2
   unfold hypercubelaw9_MatchErrs.l1
   repeat' first
   | (with_reducible exact ih0 _ _ _ _ _ _ _)
   | (with_reducible exact ih1 _ _)
   | (with_reducible exact ih2 _ _ _)
   | (with_reducible exact ih3 _ _ _ _)
   | (with_reducible exact LeO.refl _)
   | (with_reducible exact LeO.none _)
   | (with_reducible refine LeO.ite ?_ ?_)
   | (with_reducible refine LeO.bind ?_ (fun _ => ?_))
   | exact ih0 _ _ _ _ _ _ _
   | exact ih1 _ _
   | exact ih2 _ _ _
   | exact ih3 _ _ _ _
   | exact LeO.none _
   | refine LeO.ite ?_ ?_
   | refine LeO.bind ?_ (fun _ => ?_)
  intro y0 y1 y2 y3
  unfold hypercubelaw9_MatchErrs.l2
  repeat' first
  | (with_reducible exact ih0 _ _ _ _ _ _ _)
  | (with_reducible exact ih1 _ _)
  | (with_reducible exact ih2 _ _ _)
  | (with_reducible exact ih3 _ _ _ _)
  | (with_reducible exact LeO.refl _)
  | (with_reducible exact LeO.none _)
  | (with_reducible refine LeO.ite ?_ ?_)
  | (with_reducible refine LeO.bind ?_ (fun _ => ?_))
  | exact ih0 _ _ _ _ _ _ _
  | exact ih1 _ _
  | exact ih2 _ _ _
  | exact ih3 _ _ _ _
  | exact LeO.none _
  | refine LeO.ite ?_ ?_
  | refine LeO.bind ?_ (fun _ => ?_)
def hypercubelaw9_MatchErrs.T16 : Bool × List (List Nat × List Nat) := (true, [([], []), ([], []), ([1], [1]), ([2], [2]), ([0, 3], [0, 3]), ([4], [4]), ([], []), ([6], [6]), ([], []), ([8], [8]), ([7, 9], [7, 9]), ([10], [10]), ([5, 0, 1, 2, 3, 4, 5, 6, 7, 8, 9, 10, 11], [5]), ([12, 11, 9, 0, 1, 2, 3, 4, 5, 6, 7, 8, 9, 10, 11], [11, 12])])
def hypercubelaw9_MatchErrs.B16 : List Nat := [0, 0, 2, 6, 15, 31, 0, 64, 0, 256, 960, 1984, 4095, 8191]
theorem hypercubelaw9_MatchErrs.tab16 : rtab .any (opsOf Try.f5 16) = hypercubelaw9_MatchErrs.T16 := by kernel_rfl
theorem hypercubelaw9_MatchErrs.bits16 : waitsOk hypercubelaw9_MatchErrs.T16.2 hypercubelaw9_MatchErrs.B16 = true := by kernel_rfl
def hypercubelaw9_MatchErrs.T20 : Bool × List (List Nat × List Nat) := (true, [([], []), ([0], [0]), ([1], [1]), ([2], [2]), ([], []), ([4], [4]), ([5], [5]), ([3, 6], [3, 6])])
def hypercubelaw9_MatchErrs.B20 : List Nat := [0, 1, 3, 7, 0, 16, 48, 127]
theorem hypercubelaw9_MatchErrs.tab20 : rtab .any (opsOf Try.f5 20) = hypercubelaw9_MatchErrs.T20 := by kernel_rfl
theorem hypercubelaw9_MatchErrs.bits20 : waitsOk hypercubelaw9_MatchErrs.T20.2 hypercubelaw9_MatchErrs.B20 = true := by kernel_rfl
set_option maxHeartbeats 8000000 in
set_option maxRecDepth 100000 in
theorem hypercubelaw9_MatchErrs.calls (k : Nat) (A0 : Option Addr) (c0 : Nat) (l0 : List (List Int)) (a1 : Int) (a2 : Int) (A3 : Option Addr) (c3 : Nat) (l3 : List Int) (a4 : Int) (a5 : Int) (r : Bool) (w : World) (hr0 : Kd.C (Kd.slice 3 (Kd.int .i64)) w A0 l0.length l0) (hc0 : l0.length ≤ c0) (hr3 : Kd.C (Kd.int .i64) w A3 l3.length l3) (hc3 : l3.length ≤ c3) (h : hypercubelaw9_MatchErrs.f k l0 a1 a2 l3 a4 a5 = some r) :
 Calls Try.prog 5 #[.slice A0 l0.length c0, .int .i64 a1, .int .i64 a2, .slice A3 l3.length c3, .int .i64 a4, .int .i64 a5] w fun e w' => e = .returned (.bool r) ∧ Below w.heap.size w w' := by
 have HR0 := Aside0.mk hr0
 have HC0 := Aside0.mk hc0
 clear hr0 hc0
 have HR3 := Aside0.mk hr3
 have HC3 := Aside0.mk hc3
 clear hr3 hc3
 have HB := Aside0.mk (Below.refl w.heap.size w)
 have H : ((hypercubelaw9_known.f).bind fun t143 => (if t143 = true then (if (l0.length : Int) > 20 then (some true) else (hypercubelaw9_MatchErrs.l0 k l0 a1 a2 l3 a4 a5 0)) else (some false))) = some r := h
 clear h
 replace H := Option.bind_eq_some_iff.mp H
 obtain ⟨t143, A70, H⟩ := H
 replace H : (if t143 = true then (if (l0.length : Int) > 20 then (some true) else (hypercubelaw9_MatchErrs.l0 k l0 a1 a2 l3 a4 a5 0)) else (some false)) = some r := H
 have A7 := Aside0.mk A70
 clear A70
 by_cases c8 : t143 = true
 rotate_left
 ·replace c8 := Bool.eq_false_iff.mpr c8
  subst c8
  have H1 : (some false) = some r := by rw [if_neg (show ¬ (false = true) by decide)] at H; exact H
  clear H
  have H := H1
  clear H1
  obtain rfl := Option.some.inj H
  go_enter Try.func5, Try.ntmps5
  go_wp2_with (first | ((with_reducible refine gate_callee (f := 13) rfl ?_); refine goesL_ (some 28) rfl rfl Try.func13 (by kernel_rfl) rfl #[] rfl (by (try simp only [List.map_toArray, List.map_cons, List.map_nil]); first | done | rfl | (simp only [List.length_drop, List.length_take]; rfl)) ?_; (with_reducible refine (hypercubelaw9_known.calls  false _ A7.out).mono ?_); rintro e w130 ⟨rfl, hb⟩; refine ⟨_, rfl, ?_⟩; have n0_ := Aside0.mk (below_step (by repeat (first | (with_reducible first | exact HB.out | apply below_alloc | apply pw_below_drewN | apply below_drew1) | exact HB.out)) hb); clear HB; have HB := n0_; clear n0_; (try clear hb); (try clear hb2); (try clear hk); (try clear hi)))
  go_ret
  exact ⟨by first | rfl | (simp [errW_none, errW_some] <;> rfl) | (simp [*, errW_none, errW_some] <;> rfl), by repeat (first | (with_reducible first | exact HB.out | apply below_alloc | apply pw_below_drewN | apply below_drew1) | exact HB.out)⟩
 subst c8
 have H1 : (if (l0.length : Int) > 20 then (some true) else (hypercubelaw9_MatchErrs.l0 k l0 a1 a2 l3 a4 a5 0)) = some r := by rw [if_pos rfl] at H; exact H
 clear H
 have H := H1
 clear H1
 by_cases c9 : (l0.length : Int) > 20
 ·rw [if_pos c9] at H
  have c9b0 : decide (20 < (l0.length : Int)) = true := decide_eq_true c9
  have c9b1 : decide (20 < l0.length) = true := decide_eq_true (by omega)
  clear c9
  obtain rfl := Option.some.inj H
  go_enter Try.func5, Try.ntmps5
  go_wp2_with (first | ((with_reducible refine gate_callee (f := 13) rfl ?_); refine goesL_ (some 28) rfl rfl Try.func13 (by kernel_rfl) rfl #[] rfl (by (try simp only [List.map_toArray, List.map_cons, List.map_nil]); first | done | rfl | (simp only [List.length_drop, List.length_take]; rfl)) ?_; (with_reducible refine (hypercubelaw9_known.calls  true _ A7.out).mono ?_); rintro e w10 ⟨rfl, hb⟩; refine ⟨_, rfl, ?_⟩; have n0_ := Aside0.mk (below_step (by repeat (first | (with_reducible first | exact HB.out | apply below_alloc | apply pw_below_drewN | apply below_drew1) | exact HB.out)) hb); clear HB; have HB := n0_; clear n0_; (try clear hb); (try clear hb2); (try clear hk); (try clear hi)))
  go_ret
  exact ⟨by first | rfl | (simp [errW_none, errW_some] <;> rfl) | (simp [*, errW_none, errW_some] <;> rfl), by repeat (first | (with_reducible first | exact HB.out | apply below_alloc | apply pw_below_drewN | apply below_drew1) | exact HB.out)⟩
 rw [if_neg c9] at H
 have c9b0 : decide (20 < (l0.length : Int)) = false := decide_eq_false c9
 have c9b1 : decide (20 < l0.length) = false := decide_eq_false (by omega)
 clear c9
 have H' := Aside0.mk H
 clear H
 go_enter Try.func5, Try.ntmps5
 go_wp2_with (first | ((with_reducible refine gate_callee (f := 13) rfl ?_); refine goesL_ (some 28) rfl rfl Try.func13 (by kernel_rfl) rfl #[] rfl (by (try simp only [List.map_toArray, List.map_cons, List.map_nil]); first | done | rfl | (simp only [List.length_drop, List.length_take]; rfl)) ?_; (with_reducible refine (hypercubelaw9_known.calls  true _ A7.out).mono ?_); rintro e w11 ⟨rfl, hb⟩; refine ⟨_, rfl, ?_⟩; have n0_ := Aside0.mk (below_step (by repeat (first | (with_reducible first | exact HB.out | apply below_alloc | apply pw_below_drewN | apply below_drew1) | exact HB.out)) hb); clear HB; have HB := n0_; clear n0_; (try clear hb); (try clear hb2); (try clear hk); (try clear hi)))
 go_loopg [13] k (fun kq v13 w' => ∃ (x13_1 : Int), v13 = .int .i64 x13_1 ∧ Aside0 (hypercubelaw9_MatchErrs.l0 kq l0 a1 a2 l3 a4 a5 x13_1 = some r) ∧ Aside0 (kq ≤ k) ∧ Aside0 (Below w.heap.size w w'))
 case atStart => exact ⟨(0), (by first | rfl | (simp; done) | (simp [*]; done)), H', ⟨Nat.le_refl _⟩, ⟨by repeat (first | (with_reducible first | exact HB.out | apply below_alloc | apply pw_below_drewN | apply below_drew1) | exact HB.out)⟩⟩
 case round =>
  clear H'
  try clear c1
  try clear p2
  try clear c3
  try clear c5
  try clear c8
  try clear c9
  try clear c9b0
  try clear c9b1
  obtain ⟨x13_1, rfl, HA, HK1, HB⟩ := hrel
  cases gk with
  | zero => exact absurd HA.out (by simp [hypercubelaw9_MatchErrs.l0])
  | succ k1 =>
   have H := HA.out
   clear HA
   simp only [hypercubelaw9_MatchErrs.l0] at H
   by_cases c12 : x13_1 < (l0.length : Int)
   ·rw [if_pos c12] at H
    have c12b0 : decide (x13_1 < (l0.length : Int)) = true := decide_eq_true c12
    clear c12
    by_cases c13 : 0 ≤ x13_1
    rotate_left
    ·rw [if_neg c13] at H
     exact absurd H (by simp)
    rw [if_pos c13] at H
    have c13b0 : decide (0 ≤ x13_1) = true := decide_eq_true c13
    clear c13
    by_cases c14 : ((rd_L1 l0 x13_1).length : Int) > 20
    ·rw [if_pos c14] at H
     have c14b0 : decide (20 < ((rd_L1 l0 x13_1).length : Int)) = true := decide_eq_true c14
     have c14b1 : decide (20 < (rd_L1 l0 x13_1).length) = true := decide_eq_true (by omega)
     clear c14
     obtain rfl := Option.some.inj H
     have p144 : 0 ≤ (x13_1 : Int) := od_
     have q144 : x13_1 < (l0.length : Int) := od_
     obtain ⟨ad144, A144_0, c144_0, e144, hx144_0, hl144_0, hi144_0⟩ := at_L1 HR0.out x13_1 p144 q144
     cases e144
     replace hx144_0 := (HB.out.cell (World.block_lt_of_cell? w _ hx144_0)).trans hx144_0
     have HR144_0 := Aside0.mk hi144_0
     have HC144_0 := Aside0.mk hl144_0
     clear hi144_0 hl144_0
     replace p144 := eq_true p144
     replace q144 := eq_true q144
     go_wp2
     go_ret
     exact ⟨by first | rfl | (simp [errW_none, errW_some] <;> rfl) | (simp [*, errW_none, errW_some] <;> rfl), by repeat (first | (with_reducible first | exact HB.out | apply below_alloc | apply pw_below_drewN | apply below_drew1) | exact HB.out)⟩
    rw [if_neg c14] at H
    have c14b0 : decide (20 < ((rd_L1 l0 x13_1).length : Int)) = false := decide_eq_false c14
    have c14b1 : decide (20 < (rd_L1 l0 x13_1).length) = false := decide_eq_false (by omega)
    clear c14
    have H' := Aside0.mk H
    clear H
    have p144 : 0 ≤ (x13_1 : Int) := od_
    have q144 : x13_1 < (l0.length : Int) := od_
    obtain ⟨ad144, A144_0, c144_0, e144, hx144_0, hl144_0, hi144_0⟩ := at_L1 HR0.out x13_1 p144 q144
    cases e144
    replace hx144_0 := (HB.out.cell (World.block_lt_of_cell? w _ hx144_0)).trans hx144_0
    have HR144_0 := Aside0.mk hi144_0
    have HC144_0 := Aside0.mk hl144_0
    clear hi144_0 hl144_0
    replace p144 := eq_true p144
    replace q144 := eq_true q144
    go_wp2
    go_roundg k1
    case measure => have := HK1.out; omega
    case rel => exact ⟨(wrap64 (x13_1 + 1)), (by first | rfl | (simp; done) | (simp [*]; done)), H', ⟨by have := HK1.out; omega⟩, ⟨by repeat (first | (with_reducible first | exact HB.out | apply below_alloc | apply pw_below_drewN | apply below_drew1) | exact HB.out)⟩⟩
   rw [if_neg c12] at H
   have c12b0 : decide (x13_1 < (l0.length : Int)) = false := decide_eq_false c12
   clear c12
   replace H := Option.bind_eq_some_iff.mp H
   obtain ⟨t145, A150, H⟩ := H
   replace H : ((hypercubelaw9_Costs.f (wrap64 (1 + t145)) a2 l3 9).bind fun t146 => (if (t146.length : Int) > 0 then ((hypercubelaw9_within.f a4 5).bind fun t149 => (if t149 = 0 then (if 0 < (t146.length : Int) then (if (rd_L1 t146 0).length < 17592186044416 then (hypercubelaw9_MatchErrs.j3 k1 l0 (t146.set (0 : Int).toNat ((rd_L1 t146 0) ++ [1]))) else (none)) else (none)) else (if t149 = 1 then (if 0 ≤ (wrap64 ((t146.length : Int) - 1)) then (if (wrap64 ((t146.length : Int) - 1)) < (t146.length : Int) then ((some (([(-1), 1000000, 1000001, a5] : List Int) : List Int)).bind fun y156 => ((hypercubelaw9_within.f a5 4).bind fun t159 => (if 0 ≤ t159 then (if t159 < (y156.length : Int) then (if 0 < ((rd_L1 t146 (wrap64 ((t146.length : Int) - 1))).length : Int) then (hypercubelaw9_MatchErrs.j3 k1 l0 (t146.set ((wrap64 ((t146.length : Int) - 1)) : Int).toNat ((rd_L1 t146 (wrap64 ((t146.length : Int) - 1))).set (0 : Int).toNat (rd y156 t159)))) else (none)) else (none)) else (none)))) else (none)) else (none)) else (if t149 = 2 then (if 0 < (t146.length : Int) then (if t146.length < 1000 then (hypercubelaw9_MatchErrs.j3 k1 l0 (t146 ++ [rd_L1 t146 0, rd_L1 t146 0, rd_L1 t146 0, rd_L1 t146 0, rd_L1 t146 0])) else (none)) else (none)) else (if t149 = 3 then (hypercubelaw9_MatchErrs.l1 k1 l0 a5 t146) else (hypercubelaw9_MatchErrs.j3 k1 l0 t146)))))) else (hypercubelaw9_MatchErrs.j3 k1 l0 t146))) = some r := H
   have A15 := Aside0.mk A150
   clear A150
   replace H := Option.bind_eq_some_iff.mp H
   obtain ⟨t146, A160, H⟩ := H
   replace H : (if (t146.length : Int) > 0 then ((hypercubelaw9_within.f a4 5).bind fun t149 => (if t149 = 0 then (if 0 < (t146.length : Int) then (if (rd_L1 t146 0).length < 17592186044416 then (hypercubelaw9_MatchErrs.j3 k1 l0 (t146.set (0 : Int).toNat ((rd_L1 t146 0) ++ [1]))) else (none)) else (none)) else (if t149 = 1 then (if 0 ≤ (wrap64 ((t146.length : Int) - 1)) then (if (wrap64 ((t146.length : Int) - 1)) < (t146.length : Int) then ((some (([(-1), 1000000, 1000001, a5] : List Int) : List Int)).bind fun y156 => ((hypercubelaw9_within.f a5 4).bind fun t159 => (if 0 ≤ t159 then (if t159 < (y156.length : Int) then (if 0 < ((rd_L1 t146 (wrap64 ((t146.length : Int) - 1))).length : Int) then (hypercubelaw9_MatchErrs.j3 k1 l0 (t146.set ((wrap64 ((t146.length : Int) - 1)) : Int).toNat ((rd_L1 t146 (wrap64 ((t146.length : Int) - 1))).set (0 : Int).toNat (rd y156 t159)))) else (none)) else (none)) else (none)))) else (none)) else (none)) else (if t149 = 2 then (if 0 < (t146.length : Int) then (if t146.length < 1000 then (hypercubelaw9_MatchErrs.j3 k1 l0 (t146 ++ [rd_L1 t146 0, rd_L1 t146 0, rd_L1 t146 0, rd_L1 t146 0, rd_L1 t146 0])) else (none)) else (none)) else (if t149 = 3 then (hypercubelaw9_MatchErrs.l1 k1 l0 a5 t146) else (hypercubelaw9_MatchErrs.j3 k1 l0 t146)))))) else (hypercubelaw9_MatchErrs.j3 k1 l0 t146)) = some r := H
   have A16 := Aside0.mk A160
   clear A160
   have HC17 := Aside0.mk H
   clear H
   go_upto_if 53 with (first | ((with_reducible refine gate_callee (f := 18) rfl ?_); refine goesL_ (some 46) rfl rfl Try.func18 (by kernel_rfl) rfl #[.int .i64 a1, .int .i64 4] rfl (by (try simp only [List.map_toArray, List.map_cons, List.map_nil]); first | done | rfl | (simp only [List.length_drop, List.length_take]; rfl)) ?_; (with_reducible refine (hypercubelaw9_within.calls a1 4 t145 _ A15.out).mono ?_); rintro e w18 ⟨rfl, hb⟩; refine ⟨_, rfl, ?_⟩; have n0_ := Aside0.mk (below_step (by repeat (first | (with_reducible first | exact HB.out | apply below_alloc | apply pw_below_drewN | apply below_drew1) | exact HB.out)) hb); clear HB; have HB := n0_; clear n0_; (try clear hb); (try clear hb2); (try clear hk); (try clear hi)) | ((with_reducible refine gate_callee (f := 14) rfl ?_); refine goesL_ (some 50) rfl rfl Try.func14 (by kernel_rfl) rfl #[.int .i64 (wrap64 (1 + t145)), .int .i64 a2, .slice A3 l3.length c3, .int .i64 9] rfl (by (try simp only [List.map_toArray, List.map_cons, List.map_nil]); first | done | rfl | (simp only [List.length_drop, List.length_take]; rfl)) ?_; (with_reducible refine (hypercubelaw9_Costs.calls (wrap64 (1 + t145)) a2 _ _ l3 9 t146 _ ?side1 ?side2 A16.out).mono ?_); (case side1 => repeat (first | exact (Kd.C_below HR3.out HB.out) | (with_reducible refine Kd.C_alloc ?_ _) | (with_reducible refine Kd.C_drewN ?_ _) | (with_reducible refine Kd.C_drew ?_))); (case side2 => exact HC3.out); rintro e w19 ⟨v147, rfl, ho0, hb⟩; refine ⟨_, rfl, ?_⟩; have n0_ := Aside0.mk (Kd.S_lower ho0 (below_size (by repeat (first | (with_reducible first | exact HB.out | apply below_alloc | apply pw_below_drewN | apply below_drew1) | exact HB.out)))); have n1_ := Aside0.mk (below_step (by repeat (first | (with_reducible first | exact HB.out | apply below_alloc | apply pw_below_drewN | apply below_drew1) | exact HB.out)) hb); clear HB; have HO148 := n0_; have HB := n1_; clear n0_ n1_; (try clear hb); (try clear hb2); (try clear hk); (try clear hi); (try clear ho0); obtain ⟨Ao20, co20, eo20⟩ := Kd.S_slice HO148.out; subst eo20))
   (try simp only [Act.put, sl0, sl1, sl2])
   go_cut [14] (fun v14 wc => ∃ (kq : Nat) (x14_16 : List (List Int)), Aside0 (hypercubelaw9_MatchErrs.j3 kq l0 x14_16 = some r) ∧ Aside0 (kq ≤ k1) ∧ Aside0 (Kd.R (Kd.slice 3 (Kd.int .i64)) 22 wc w.heap.size (fun _ => True) v14 x14_16) ∧ Aside0 (Below w.heap.size w wc))
   case first =>
    have H := HC17.out
    clear HC17
    by_cases c21 : (t146.length : Int) > 0
    rotate_left
    ·rw [if_neg c21] at H
     have c21b0 : decide (0 < (t146.length : Int)) = false := decide_eq_false c21
     have c21b1 : decide (0 < t146.length) = false := decide_eq_false (by omega)
     clear c21
     (first | rw [c21b0] | rw [c21b1] | (simp only [i64_w, i32_w]; rw [c21b0]) | skip)
     have H' := Aside0.mk H
     clear H
     go_wp2
     go_meet
     case rel => exact ⟨_, (t146), H', ⟨by have := HK1.out; first | omega | exact Nat.le_refl _⟩, ⟨by refine Kd.S_R ?_; (with_reducible repeat (first | apply Kd.S_alloc | apply Kd.S_drewN | apply Kd.S_drew)); exact HO148.out⟩, ⟨by repeat (first | (with_reducible first | exact HB.out | apply below_alloc | apply pw_below_drewN | apply below_drew1) | exact HB.out)⟩⟩
    rw [if_pos c21] at H
    have c21b0 : decide (0 < (t146.length : Int)) = true := decide_eq_true c21
    have c21b1 : decide (0 < t146.length) = true := decide_eq_true (by omega)
    clear c21
    (first | rw [c21b0] | rw [c21b1] | (simp only [i64_w, i32_w]; rw [c21b0]) | skip)
    replace H := Option.bind_eq_some_iff.mp H
    obtain ⟨t149, A220, H⟩ := H
    replace H : (if t149 = 0 then (if 0 < (t146.length : Int) then (if (rd_L1 t146 0).length < 17592186044416 then (hypercubelaw9_MatchErrs.j3 k1 l0 (t146.set (0 : Int).toNat ((rd_L1 t146 0) ++ [1]))) else (none)) else (none)) else (if t149 = 1 then (if 0 ≤ (wrap64 ((t146.length : Int) - 1)) then (if (wrap64 ((t146.length : Int) - 1)) < (t146.length : Int) then ((some (([(-1), 1000000, 1000001, a5] : List Int) : List Int)).bind fun y156 => ((hypercubelaw9_within.f a5 4).bind fun t159 => (if 0 ≤ t159 then (if t159 < (y156.length : Int) then (if 0 < ((rd_L1 t146 (wrap64 ((t146.length : Int) - 1))).length : Int) then (hypercubelaw9_MatchErrs.j3 k1 l0 (t146.set ((wrap64 ((t146.length : Int) - 1)) : Int).toNat ((rd_L1 t146 (wrap64 ((t146.length : Int) - 1))).set (0 : Int).toNat (rd y156 t159)))) else (none)) else (none)) else (none)))) else (none)) else (none)) else (if t149 = 2 then (if 0 < (t146.length : Int) then (if t146.length < 1000 then (hypercubelaw9_MatchErrs.j3 k1 l0 (t146 ++ [rd_L1 t146 0, rd_L1 t146 0, rd_L1 t146 0, rd_L1 t146 0, rd_L1 t146 0])) else (none)) else (none)) else (if t149 = 3 then (hypercubelaw9_MatchErrs.l1 k1 l0 a5 t146) else (hypercubelaw9_MatchErrs.j3 k1 l0 t146))))) = some r := H
    have A22 := Aside0.mk A220
    clear A220
    by_cases c23 : t149 = 0
    ·rw [if_pos c23] at H
     have c23b0 : (t149 == 0) = true := beq_iff_eq.mpr c23
     have c23b1 : (t149 != 0) = false := bne_eq_false_iff_eq.mpr c23
     clear c23
     by_cases c24 : 0 < (t146.length : Int)
     rotate_left
     ·rw [if_neg c24] at H
      exact absurd H (by simp)
     rw [if_pos c24] at H
     have c24b0 : decide (0 < (t146.length : Int)) = true := decide_eq_true c24
     have c24b1 : decide (0 < t146.length) = true := decide_eq_true (by omega)
     clear c24
     by_cases c25 : (rd_L1 t146 0).length < 17592186044416
     rotate_left
     ·rw [if_neg c25] at H
      exact absurd H (by simp)
     rw [if_pos c25] at H
     have LMc25 := Aside0.mk c25
     clear c25
     obtain ⟨y151, hy151⟩ : ∃ y_ : List Int, y_ = ((rd_L1 t146 0) ++ [1]) := ⟨_, rfl⟩
     replace H : (hypercubelaw9_MatchErrs.j3 k1 l0 (t146.set (0 : Int).toNat y151)) = some r := by first | (rw [hy151]; with_reducible exact H) | (have H2_ := (Option.bind_some _ _).symm.trans H; rw [hy151]; with_reducible exact H2_) | (have H2_ := (Option.bind_some _ _).symm.trans H; with_reducible exact H2_) | with_reducible exact H | (rw [hy151]; exact H) | exact H
     have Ny151 := Aside0.mk hy151
     clear hy151
     obtain ⟨y154, hy154⟩ : ∃ y_ : List (List Int), y_ = (t146.set (0 : Int).toNat y151) := ⟨_, rfl⟩
     replace H : (hypercubelaw9_MatchErrs.j3 k1 l0 y154) = some r := by first | (rw [hy154]; with_reducible exact H) | (have H2_ := (Option.bind_some _ _).symm.trans H; rw [hy154]; with_reducible exact H2_) | (have H2_ := (Option.bind_some _ _).symm.trans H; with_reducible exact H2_) | with_reducible exact H | (rw [hy154]; exact H) | exact H
     have Ny154 := Aside0.mk hy154
     clear hy154
     have H' := Aside0.mk H
     clear H
     go_wp2_with (first | ((with_reducible refine gate_callee (f := 18) rfl ?_); refine goesL_ (some 55) rfl rfl Try.func18 (by kernel_rfl) rfl #[.int .i64 a4, .int .i64 5] rfl (by (try simp only [List.map_toArray, List.map_cons, List.map_nil]); first | done | rfl | (simp only [List.length_drop, List.length_take]; rfl)) ?_; (with_reducible refine (hypercubelaw9_within.calls a4 5 t149 _ A22.out).mono ?_); rintro e w27 ⟨rfl, hb⟩; refine ⟨_, rfl, ?_⟩; have n0_ := Aside0.mk (Kd.S_below (by (with_reducible repeat (first | apply Kd.S_alloc | apply Kd.S_drewN | apply Kd.S_drew)); exact HO148.out) hb); have n1_ := Aside0.mk (below_step (by repeat (first | (with_reducible first | exact HB.out | apply below_alloc | apply pw_below_drewN | apply below_drew1) | exact HB.out)) hb); clear HO148; clear HB; have HO148 := n0_; have HB := n1_; clear n0_ n1_; (try clear hb); (try clear hb2); (try clear hk); (try clear hi); have p150 : 0 ≤ (0 : Int) := (by omega); have q150 : 0 < (t146.length : Int) := of_decide_eq_true (by first | (with_reducible assumption) | assumption); obtain ⟨ad150, A150_0, c150_0, e150, hx150_0, hl150_0, hi150_0⟩ := at_L1 (Kd.S_reads' HO148.out).2.2 0 p150 q150; cases e150; obtain ⟨ce150, hce150, hMe150, hcc150⟩ := Kd.S_get HO148.out [] 0 p150 (by first | exact q150 | exact of_decide_eq_true (by first | (with_reducible assumption) | assumption) | (have e_ := (Kd.S_reads' HO148.out).1; omega)); obtain ⟨ve150_0, rfl, ge150_0⟩ := hMe150; have hv150_0 := hcc150 0 _ rfl; rw [Nat.add_zero, show ((Kd.slice 3 (Kd.int .i64))).sz = 1 from rfl, Nat.mul_one] at hv150_0; replace hv150_0 := Option.some.inj (hv150_0.symm.trans hx150_0); rw [hv150_0] at ge150_0; have HL150_0 := Aside0.mk (show Kd.R (Kd.int .i64) 3 _ _ _ _ (rd_L1 t146 0) from ge150_0); clear hv150_0 ge150_0; have HX150_0 := Aside0.mk hx150_0; clear hcc150 hce150; have qi150 : (0 < t146.length) = True := eq_true (by omega); (try rw [show ((0 : Int)).toNat = 0 from rfl] at hx150_0); (try rw [Addr.add_zero'] at hx150_0); have HR150_0 := Aside0.mk hi150_0; have HC150_0 := Aside0.mk hl150_0; clear hi150_0 hl150_0; replace p150 := eq_true p150; replace q150 := eq_true q150; obtain ⟨go28, co28, eo28, gb28, gl28, cl28, HG28⟩ := Kd.S_form HO148.out (by have h_ : (0 : Int) < ((t146.length : Int) : Int) := of_decide_eq_true (by first | (with_reducible assumption) | assumption); have h2_ : 0 ≤ (0 : Int) := (by omega); omega); (first | cases eo28 | (injection eo28 with ea_ en_ ec_; (first | subst ea_ | (injection ea_ with ea_; subst ea_)); subst ec_; clear en_)); have GB28 := Aside0.mk gb28; have GG28 := Aside0.mk HG28; clear gb28 gl28 HG28; (first | simp only [add_plain] at hx150_0 | skip); obtain ⟨oki28, ce28, hcl28, hM28, hcc28, _, _, hH28⟩ := Kd.S_elem HO148.out [] (0 : Int) (by omega) (by have h_ : (0 : Int) < ((t146.length : Int) : Int) := of_decide_eq_true (by first | (with_reducible assumption) | assumption); first | exact h_ | (have e_ := (Kd.S_reads' HO148.out).1; omega) | simpa using h_); obtain ⟨ve28_0, rfl, ge28_0⟩ := hM28; have hv28 := hcc28 0 _ rfl; have hX28 := HX150_0.out; (try simp only [add_plain] at hX28); (try simp only [Nat.add_zero] at hv28); (try rw [show ((Kd.slice 3 (Kd.int .i64))).sz = 1 from rfl, Nat.mul_one] at hv28); replace hv28 := Option.some.inj (hv28.symm.trans hX28); subst hv28; clear hX28 hcc28 hcl28; have UU28 := Aside0.mk (show Kd.R (Kd.int .i64) 3 _ w.heap.size oki28 (.slice A150_0 (rd_L1 t146 0).length c150_0) (rd_L1 t146 0) from ge28_0); have HH28 := Aside0.mk hH28; have HN28 := Aside0.mk (Kd.S_reads' HO148.out).1; clear hH28 ge28_0) | ((with_reducible refine gate_builtin (b := .append) (xs := #[.tmp 61, .tmp 62]) rfl ?_); at_builtin; refine Kd.R_append (Kd.int .i64) (w0 := w) w.heap.size rfl (.tmp 61) (.tmp 62) 22 3 (.int .i64 0) 8 rfl Try.underlying22 info3 rfl (by decide) (by omega) (.slice A150_0 (rd_L1 t146 0).length c150_0) (rd_L1 t146 0) 1 [.int .i64 1] (fun k_ => oki28 k_ ∨ ((fun _ => True)) k_ ∧ w27.heap.size ≤ k_) (fun _ => False) rfl rfl ?aP (fun _ hk => hk.elim) ?aF ?aO ?aB ?aS ?aL ?_; (case aP => exact rfl); (case aB => exact (by repeat (first | (with_reducible first | exact HB.out | apply below_alloc | apply pw_below_drewN | apply below_drew1) | exact HB.out))); (case aF => exact (fun k_ hk => .inr ⟨trivial, hk⟩)); (case aO => exact (by (with_reducible repeat (first | apply Kd.R_alloc | apply Kd.R_drewN | apply Kd.R_drew)); exact Kd.R_mono UU28.out (fun _ hk => .inl hk))); (case aS => exact (below_size (by repeat (first | (with_reducible first | exact HB.out | apply below_alloc | apply pw_below_drewN | apply below_drew1) | exact HB.out)))); (case aL => have := LMc25.out; omega); intro v152 w29 ho hb hg hat; rw [← Ny151.out] at ho; have n0_ := Aside0.mk (hb); have n1_ := Aside0.mk (Kd.H_grown (Kd.H_widen (by repeat (first | exact HH28.out | refine Kd.H_alloc ?_ _ | refine Kd.H_drewN ?_ _ | refine Kd.H_drew ?_))) hg (fun k_ e_ => .inl (UU28.out.1 k_ e_))); have n2_ := Aside0.mk (ho); clear HB; clear HH28; clear HO148; clear UU28; clear HL150_0; have HB := n0_; have HH28 := n1_; have HO153 := n2_; clear n0_ n1_ n2_; clear ho hb hg hat; have p26 : 0 ≤ (0 : Int) := (by omega); have q26 : (0 : Int) < ((t146.length : Int) : Int) := of_decide_eq_true (by first | (with_reducible assumption) | assumption); replace p26 := eq_true p26; replace q26 := eq_true q26; obtain ⟨Ao32, co32, eo32⟩ := Kd.R_slice HO153.out; subst eo32; obtain ⟨_, _, hraw30, _, _, hcc30, _⟩ := Kd.H_raw HH28.out (by omega) (by have h_ : (0 : Int) < ((t146.length : Int) : Int) := of_decide_eq_true (by first | (with_reducible assumption) | assumption); first | exact h_ | (have e_ := (HN28.out); omega) | simpa using h_); obtain ⟨_, hfr30⟩ := Kd.H_at HH28.out (by omega) (by have h_ : (0 : Int) < ((t146.length : Int) : Int) := of_decide_eq_true (by first | (with_reducible assumption) | assumption); first | exact h_ | (have e_ := (HN28.out); omega) | simpa using h_); have hx30_0 := hcc30 0 _ rfl; have hf30_0 := hfr30 0; (try simp only [Nat.add_zero] at hx30_0 hf30_0); (try rw [show ((Kd.slice 3 (Kd.int .i64))).sz = 1 from rfl, Nat.mul_one] at hx30_0); (try rw [show ((Kd.slice 3 (Kd.int .i64))).sz = 1 from rfl, Nat.mul_one] at hf30_0); (try rw [show ((0 : Int)).toNat = 0 from rfl] at hx30_0); (try simp only [Nat.reduceMul, Nat.zero_mul, Nat.zero_add, Nat.reduceAdd] at hx30_0); (try rw [show ((0 : Int)).toNat = 0 from rfl] at hf30_0); (try simp only [Nat.reduceMul, Nat.zero_mul, Nat.zero_add, Nat.reduceAdd] at hf30_0); have HP30 := Kd.S_seg0 HH28.out (by omega) (by have h_ : (0 : Int) < ((t146.length : Int) : Int) := of_decide_eq_true (by first | (with_reducible assumption) | assumption); first | exact h_ | (have e_ := (HN28.out); omega) | simpa using h_) (seg := [.slice Ao32 y151.length co32]) (j := 0) (show 1 ≤ 1 from by decide) (x' := y151) (Kd.M_row HO153.out) (fun _ hk => hk); (try simp only [show ((Kd.slice 3 (Kd.int .i64))).sz = 1 from rfl, Nat.mul_one, Nat.add_zero] at HP30); clear hcc30 hfr30) | ((with_reducible refine gate_store (t := 22) (p := 64) rfl ?_); refine store_event (t := 22) (p := 64) (v := ?vo_w31) (w1 := (w29.setCell ⟨go28, (0 : Int).toNat, none⟩ (.slice Ao32 y151.length co32))) ?hg ?ho ?hn ?hr ?_; (case ho => rfl); (case hg => rfl); (case hn => rfl); (case hr => first | (go_simp; done) | (go_simp; rfl)); intro w31 hw; have hg : w29.grownBy w31 (some go28) := (by rw [hw]; exact HP30.2); have hp_ : Kd.S (Kd.slice 3 (Kd.int .i64)) 22 w31 w.heap.size (fun _ => True) (.slice (some ⟨go28, 0, none⟩) t146.length co20) y154 := (by rw [hw, Ny154.out]; exact HP30.1); clear HP30; have n0_ := Aside0.mk ((by rw [hw]; exact below_set HB.out GB28.out : Below w.heap.size w w31)); have n1_ := Aside0.mk (hp_); clear HB; clear HO153; clear HH28; have HB := n0_; have HO148 := n1_; clear n0_ n1_; clear hg hw hp_ hraw30))
     go_meet
     case rel => exact ⟨_, (y154), H', ⟨by have := HK1.out; first | omega | exact Nat.le_refl _⟩, ⟨by refine Kd.S_R ?_; (with_reducible repeat (first | apply Kd.S_alloc | apply Kd.S_drewN | apply Kd.S_drew)); exact HO148.out⟩, ⟨by repeat (first | (with_reducible first | exact HB.out | apply below_alloc | apply pw_below_drewN | apply below_drew1) | exact HB.out)⟩⟩
    rw [if_neg c23] at H
    have c23b0 : (t149 == 0) = false := beq_eq_false_iff_ne.mpr c23
    have c23b1 : (t149 != 0) = true := bne_iff_ne.mpr c23
    by_cases c33 : t149 = 1
    ·rw [if_pos c33] at H
     have c33b0 : (t149 == 1) = true := beq_iff_eq.mpr c33
     have c33b1 : (t149 != 1) = false := bne_eq_false_iff_eq.mpr c33
     clear c33
     obtain ⟨ji34, hji34⟩ : ∃ j_ : Int, (wrap64 ((t146.length : Int) - 1)) = j_ := ⟨_, rfl⟩
     replace H : (if 0 ≤ (ji34) then (if (ji34) < (t146.length : Int) then ((some (([(-1), 1000000, 1000001, a5] : List Int) : List Int)).bind fun y156 => ((hypercubelaw9_within.f a5 4).bind fun t159 => (if 0 ≤ t159 then (if t159 < (y156.length : Int) then (if 0 < ((rd_L1 t146 (ji34)).length : Int) then (hypercubelaw9_MatchErrs.j3 k1 l0 (t146.set ((ji34) : Int).toNat ((rd_L1 t146 (ji34)).set (0 : Int).toNat (rd y156 t159)))) else (none)) else (none)) else (none)))) else (none)) else (none)) = some r := by first | (rw [hji34] at H; exact H) | (simp only [hji34] at H ⊢; exact H)
     (try rw [hji34] at A22)
     have hji34w : (IntKind.i64.wrap ((t146.length : Int) - 1)) = ji34 := (i64_w _).trans hji34
     by_cases c35 : 0 ≤ (ji34)
     rotate_left
     ·rw [if_neg c35] at H
      exact absurd H (by simp)
     rw [if_pos c35] at H
     have c35b0 : decide (0 ≤ (ji34)) = true := decide_eq_true c35
     clear c35
     by_cases c36 : (ji34) < (t146.length : Int)
     rotate_left
     ·rw [if_neg c36] at H
      exact absurd H (by simp)
     rw [if_pos c36] at H
     have c36b0 : decide ((ji34) < (t146.length : Int)) = true := decide_eq_true c36
     clear c36
     obtain ⟨y156, hy156⟩ : ∃ y_ : List Int, y_ = (([(-1), 1000000, 1000001, a5] : List Int)) := ⟨_, rfl⟩
     replace H : ((hypercubelaw9_within.f a5 4).bind fun t159 => (if 0 ≤ t159 then (if t159 < (y156.length : Int) then (if 0 < ((rd_L1 t146 (ji34)).length : Int) then (hypercubelaw9_MatchErrs.j3 k1 l0 (t146.set ((ji34) : Int).toNat ((rd_L1 t146 (ji34)).set (0 : Int).toNat (rd y156 t159)))) else (none)) else (none)) else (none))) = some r := by first | (rw [hy156]; with_reducible exact H) | (have H2_ := (Option.bind_some _ _).symm.trans H; rw [hy156]; with_reducible exact H2_) | (have H2_ := (Option.bind_some _ _).symm.trans H; with_reducible exact H2_) | with_reducible exact H | (rw [hy156]; exact H) | exact H
     have Ny156 := Aside0.mk hy156
     clear hy156
     replace H := Option.bind_eq_some_iff.mp H
     obtain ⟨t159, A370, H⟩ := H
     replace H : (if 0 ≤ t159 then (if t159 < (y156.length : Int) then (if 0 < ((rd_L1 t146 (ji34)).length : Int) then (hypercubelaw9_MatchErrs.j3 k1 l0 (t146.set ((ji34) : Int).toNat ((rd_L1 t146 (ji34)).set (0 : Int).toNat (rd y156 t159)))) else (none)) else (none)) else (none)) = some r := H
     have A37 := Aside0.mk A370
     clear A370
     by_cases c38 : 0 ≤ t159
     rotate_left
     ·rw [if_neg c38] at H
      exact absurd H (by simp)
     rw [if_pos c38] at H
     have c38b0 : decide (0 ≤ t159) = true := decide_eq_true c38
     clear c38
     by_cases c39 : t159 < (y156.length : Int)
     rotate_left
     ·rw [if_neg c39] at H
      exact absurd H (by simp)
     rw [if_pos c39] at H
     have c39b0 : decide (t159 < (y156.length : Int)) = true := decide_eq_true c39
     clear c39
     by_cases c40 : 0 < ((rd_L1 t146 (ji34)).length : Int)
     rotate_left
     ·rw [if_neg c40] at H
      exact absurd H (by simp)
     rw [if_pos c40] at H
     have c40b0 : decide (0 < ((rd_L1 t146 (ji34)).length : Int)) = true := decide_eq_true c40
     have c40b1 : decide (0 < (rd_L1 t146 (ji34)).length) = true := decide_eq_true (by omega)
     clear c40
     obtain ⟨y161, hy161⟩ : ∃ y_ : List Int, y_ = ((rd_L1 t146 (ji34)).set (0 : Int).toNat (rd y156 t159)) := ⟨_, rfl⟩
     replace H : (hypercubelaw9_MatchErrs.j3 k1 l0 (t146.set ((ji34) : Int).toNat y161)) = some r := by first | (rw [hy161]; with_reducible exact H) | (have H2_ := (Option.bind_some _ _).symm.trans H; rw [hy161]; with_reducible exact H2_) | (have H2_ := (Option.bind_some _ _).symm.trans H; with_reducible exact H2_) | with_reducible exact H | (rw [hy161]; exact H) | exact H
     have Ny161 := Aside0.mk hy161
     clear hy161
     obtain ⟨y163, hy163⟩ : ∃ y_ : List (List Int), y_ = (t146.set ((ji34) : Int).toNat y161) := ⟨_, rfl⟩
     replace H : (hypercubelaw9_MatchErrs.j3 k1 l0 y163) = some r := by first | (rw [hy163]; with_reducible exact H) | (have H2_ := (Option.bind_some _ _).symm.trans H; rw [hy163]; with_reducible exact H2_) | (have H2_ := (Option.bind_some _ _).symm.trans H; with_reducible exact H2_) | with_reducible exact H | (rw [hy163]; exact H) | exact H
     have Ny163 := Aside0.mk hy163
     clear hy163
     have H' := Aside0.mk H
     clear H
     try go_wp2_with (first | ((with_reducible refine gate_callee (f := 18) rfl ?_); refine goesL_ (some 55) rfl rfl Try.func18 (by kernel_rfl) rfl #[.int .i64 a4, .int .i64 5] rfl (by (try simp only [List.map_toArray, List.map_cons, List.map_nil]); first | done | rfl | (simp only [List.length_drop, List.length_take]; rfl)) ?_; (with_reducible refine (hypercubelaw9_within.calls a4 5 t149 _ A22.out).mono ?_); rintro e w42 ⟨rfl, hb⟩; refine ⟨_, rfl, ?_⟩; have n0_ := Aside0.mk (Kd.S_below (by (with_reducible repeat (first | apply Kd.S_alloc | apply Kd.S_drewN | apply Kd.S_drew)); exact HO148.out) hb); have n1_ := Aside0.mk (below_step (by repeat (first | (with_reducible first | exact HB.out | apply below_alloc | apply pw_below_drewN | apply below_drew1) | exact HB.out)) hb); clear HO148; clear HB; have HO148 := n0_; have HB := n1_; clear n0_ n1_; (try clear hb); (try clear hb2); (try clear hk); (try clear hi)))
     have pi160 : (0 ≤ (t159 : Int)) = True := eq_true (of_decide_eq_true (by first | (with_reducible assumption) | assumption))
     have qi160 : (t159 < (y156.length : Int)) = True := eq_true (of_decide_eq_true (by first | (with_reducible assumption) | assumption))
     have n0_ := Aside0.mk (Kd.S_drew HO148.out)
     have n1_ := Aside0.mk (below_drew1 HB.out)
     clear HO148
     clear HB
     have HO148 := n0_
     have HB := n1_
     clear n0_ n1_
     have p155 : 0 ≤ ((ji34) : Int) := od_
     have q155 : (ji34) < (t146.length : Int) := od_
     obtain ⟨ad155, A155_0, c155_0, e155, hx155_0, hl155_0, hi155_0⟩ := at_L1 (Kd.S_reads' HO148.out).2.2 (ji34) p155 q155
     cases e155
     obtain ⟨ce155, hce155, hMe155, hcc155⟩ := Kd.S_get HO148.out [] (ji34) p155 (by first | exact q155 | exact of_decide_eq_true (by first | (with_reducible assumption) | assumption) | (have e_ := (Kd.S_reads' HO148.out).1; omega))
     obtain ⟨ve155_0, rfl, ge155_0⟩ := hMe155
     have hv155_0 := hcc155 0 _ rfl
     rw [Nat.add_zero, show ((Kd.slice 3 (Kd.int .i64))).sz = 1 from rfl, Nat.mul_one] at hv155_0
     replace hv155_0 := Option.some.inj (hv155_0.symm.trans hx155_0)
     rw [hv155_0] at ge155_0
     have HL155_0 := Aside0.mk (show Kd.R (Kd.int .i64) 3 _ _ _ _ (rd_L1 t146 (ji34)) from ge155_0)
     clear hv155_0 ge155_0
     have HX155_0 := Aside0.mk hx155_0
     clear hcc155 hce155
     have HR155_0 := Aside0.mk hi155_0
     have HC155_0 := Aside0.mk hl155_0
     clear hi155_0 hl155_0
     replace p155 := eq_true p155
     replace q155 := eq_true q155
     refine start_ (n := 14) (S := fun w' => w'.cell? (ad155.add ((ji34)).toNat) = some (.slice A155_0 (rd_L1 t146 (ji34)).length c155_0)) (ds := [13]) (fl_ 0 14) (by kernel_rfl) rfl rfl (hx155_0) (fun hHeld => ?_); refine with_tabW hypercubelaw9_MatchErrs.tab16 hypercubelaw9_MatchErrs.bits16 (fun HT_ HW_ => ?_)
     generalize w42.drew = w43 at HO148 HB HL155_0 HR155_0 HX155_0 hx155_0 hHeld ⊢
     refine pure_ (i := 0) (N := some 67) (v := ?_) (a' := ?_) (fl_ 1 13) rfl rfl (any_of HT_.out (by kernel_rfl)) (fun _ _ _ h => h) (Or.inl ⟨by rfl, ?_⟩) ?_ ?_
     rotate_left
     ·intro w'
      go_simp
      with_reducible rfl
     rotate_left
     ·simp only [Act.put, sl0, sl1, sl2, i64_w, i32_w]
      rfl
     refine pure_ (i := 1) (N := some 68) (v := ?_) (a' := ?_) (fl_ 2 12) rfl rfl (any_of HT_.out (by kernel_rfl)) (fun _ _ _ h => h) (Or.inl ⟨by rfl, ?_⟩) ?_ ?_
     rotate_left
     ·intro w'
      go_simp
      with_reducible rfl
     rotate_left
     ·simp only [Act.put, sl0, sl1, sl2, i64_w, i32_w]
      rfl
     refine pure_ (i := 2) (N := some 69) (v := ?_) (a' := ?_) (fl_ 3 11) rfl rfl (any_of HT_.out (by kernel_rfl)) (fun _ _ _ h => h) (Or.inl ⟨by rfl, ?_⟩) ?_ ?_
     rotate_left
     ·intro w'
      go_simp
      with_reducible rfl
     rotate_left
     ·simp only [Act.put, sl0, sl1, sl2, i64_w, i32_w]
      rfl
     refine pure_ (i := 3) (N := some 70) (v := ?_) (a' := ?_) (fl_ 4 10) rfl rfl (any_of HT_.out (by kernel_rfl)) (fun _ _ _ h => h) (Or.inl ⟨by rfl, ?_⟩) ?_ ?_
     rotate_left
     ·intro w'
      go_simp
      with_reducible rfl
     rotate_left
     ·simp only [Act.put, sl0, sl1, sl2, i64_w, i32_w]
      rfl
     refine pure_ (i := 4) (N := some 71) (v := ?_) (a' := ?_) (fl_ 5 9) rfl rfl (any_of HT_.out (by kernel_rfl)) (fun _ _ _ h => h) (Or.inl ⟨by rfl, ?_⟩) ?_ ?_
     rotate_left
     ·intro w'
      go_simp
      with_reducible rfl
     rotate_left
     ·simp only [Act.put, sl0, sl1, sl2, i64_w, i32_w]
      rfl
     refine pure_ (i := 6) (N := some 73) (v := ?_) (a' := ?_) #[Y,Y,Y,Y,Y,Z,Y,Z,Z,Z,Z,Z,Z,Z] rfl rfl (any_of HT_.out (by kernel_rfl)) (fun _ _ _ h => h) (Or.inl ⟨by rfl, ?_⟩) ?_ ?_
     rotate_left
     ·intro w'
      go_simp
      with_reducible rfl
     rotate_left
     ·simp only [Act.put, sl0, sl1, sl2, i64_w, i32_w]
      rfl
     refine pure_ (i := 8) (N := some 75) (v := ?_) (a' := ?_) #[Y,Y,Y,Y,Y,Z,Y,Z,Y,Z,Z,Z,Z,Z] rfl rfl (any_of HT_.out (by kernel_rfl)) (fun _ _ _ h => h) (Or.inl ⟨by rfl, ?_⟩) ?_ ?_
     rotate_left
     ·intro w'
      go_simp
      with_reducible rfl
     rotate_left
     ·simp only [Act.put, sl0, sl1, sl2, i64_w, i32_w]
      rfl
     refine take_ (i := 5) (N := some 72) (v := ?_) (a' := ?_) #[Y,Y,Y,Y,Y,Y,Y,Z,Y,Z,Z,Z,Z,Z] rfl rfl (take_ofW HT_.out HW_.out (by kernel_rfl)) (fun _ _ _ h => h) (Or.inl ⟨by rfl, ?_⟩) hHeld ?_ ?_
     rotate_left
     ·intro w' s0
      go_simp
      with_reducible rfl
     rotate_left
     ·simp only [Act.put, sl0, sl1, sl2, i64_w, i32_w]
      rfl
     refine join_ (σ := Value × Addr) 4 (fl_ 10 4) (fun s_ => [(74, s_.1), (76, .int .i64 t159)]) (fun s_ w' => (w'.cell? (ad155.add ((ji34)).toNat) = some (.slice A155_0 (rd_L1 t146 (ji34)).length c155_0)) ∧ (Kd.R (Kd.int .i64) 3 w' w.heap.size (fun k_ => some k_ ≠ (.slice (some ad155) t146.length co20 : Value).ownBlock ∧ some k_ ≠ (s_.1 : Value).ownBlock) (.slice A155_0 (rd_L1 t146 (ji34)).length c155_0) (rd_L1 t146 (ji34))) ∧ (Kd.S (Kd.slice 3 (Kd.int .i64)) 22 w' w.heap.size (fun k_ => some k_ ≠ (s_.1 : Value).ownBlock) (.slice (some ad155) t146.length co20) t146) ∧ (Kd.R (Kd.int .i64) 3 w' w.heap.size (fun k_ => some k_ ≠ (.slice A155_0 (rd_L1 t146 (ji34)).length c155_0 : Value).ownBlock) s_.1 y156) ∧ (∃ c_, (s_.1 : Value) = .slice (some s_.2) y156.length c_) ∧ (w'.cell? (ad155.add ((ji34)).toNat) = some (.slice A155_0 (rd_L1 t146 (ji34)).length c155_0)) ∧ (Below w.heap.size w w')) ?_ ?_
     rotate_left
     ·intro hCont
      refine two_ (i := 7) (j := 9) (Ni := some 74) (Nj := some 76) (fl_ 9 5) #[Y,Y,Y,Y,Y,Y,Y,Z,Y,Y,Z,Z,Z,Z] rfl rfl rfl rfl (two_of HT_.out (by kernel_rfl)) (by decide) (by decide) (fun K hK => ?_) (fun K hK => ?_)
      rotate_left
      ·skip
       refine goes_ Try.func18 (by kernel_rfl) rfl #[.int .i64 a5, .int .i64 4] (by rfl) rfl rfl (by (try simp only [List.map_toArray, List.map_cons, List.map_nil]); first | done | rfl | (simp only [List.length_drop, List.length_take]; rfl)) ?_
       with_reducible refine (hypercubelaw9_within.calls a5 4 t159 _ A37.out).mono ?_
       rintro e w44 ⟨rfl, hb⟩
       have HS0_ := (hb.cell (World.block_lt_of_cell? _ _ (hHeld))).trans (hHeld)
       refine ⟨_, rfl, ?_⟩
       have n0_ := Aside0.mk (Kd.S_below (by (with_reducible repeat (first | apply Kd.S_alloc | apply Kd.S_drewN | apply Kd.S_drew)); exact HO148.out) hb)
       have n1_ := Aside0.mk (Kd.R_below (by (with_reducible repeat (first | apply Kd.R_alloc | apply Kd.R_drewN | apply Kd.R_drew)); exact HL155_0.out) hb)
       have n2_ := Aside0.mk (Kd.C_below (by repeat (first | (with_reducible exact HR155_0.out) | (with_reducible refine Kd.C_alloc ?_ _) | (with_reducible refine Kd.C_drewN ?_ _) | (with_reducible refine Kd.C_drew ?_) | exact HR155_0.out)) hb)
       have n3_ := Aside0.mk (pw_cell_below hb HX155_0.out)
       have n4_ := Aside0.mk (below_step (by repeat (first | (with_reducible first | exact HB.out | apply below_alloc | apply pw_below_drewN | apply below_drew1) | exact HB.out)) hb)
       clear HO148
       clear HL155_0
       clear HR155_0
       clear HX155_0
       clear HB
       have HO148 := n0_
       have HL155_0 := n1_
       have HR155_0 := n2_
       have HX155_0 := n3_
       have HB := n4_
       clear n0_ n1_ n2_ n3_ n4_
       (try clear hb)
       (try clear hb2)
       (try clear hk)
       (try clear hi)
       refine hK.out _ _ (HS0_) (fun hHeld => ?_)
       clear hK K
       refine norm_ (a' := ?_) ?_ ?_
       rotate_left
       ·show Act.put _ (some 76) _ = _
        simp only [Act.put, sl0, sl1, sl2, i64_w, i32_w]
        rfl
       refine one_ (i := 7) (N := some 74) (fl_ 10 4) rfl rfl (one_of HT_.out (by kernel_rfl)) (by decide) (fun K hK => ?_)
       refine Kd.R_lit_step (Kd.int .i64) _ 3 ?hg (N := 74) ?hd (xs := ([(-1), 1000000, 1000001, a5] : List Int)) (inner := [.int .i64 (-1), .int .i64 1000000, .int .i64 1000001, .int .i64 a5]) (ok := fun _ => True) (okp := fun _ => True) ?hr ?hp (fun _ hk => hk) trivial (Below.refl _ _) (Nat.le_refl _) (by simp) ?_; (case hd => rfl); (case hg => rfl); (case hr => first | (go_simp; done) | (go_simp; rfl)); (case hp => exact (Reps.one (show Kd.M (Kd.int .i64) _ _ _ (-1) [.int .i64 (-1)] from rfl) (Reps.one (show Kd.M (Kd.int .i64) _ _ _ 1000000 [.int .i64 1000000] from rfl) (Reps.one (show Kd.M (Kd.int .i64) _ _ _ 1000001 [.int .i64 1000001] from rfl) (Reps.one (show Kd.M (Kd.int .i64) _ _ _ a5 [.int .i64 a5] from rfl) (Reps.none _ _))))))
       intro v157 w45 ho46 hb hg_ hnew_
       have HS0_ := (hb.cell (World.block_lt_of_cell? _ _ (hHeld))).trans (hHeld)
       clear hg_ hnew_
       (first | rw [← Ny156.out] at ho46 | (simp only [Int.reduceToNat] at ho46; rw [← Ny156.out] at ho46))
       have n0_ := Aside0.mk (Kd.S_elder' (by (with_reducible repeat (first | apply Kd.S_alloc | apply Kd.S_drewN | apply Kd.S_drew)); exact HO148.out) (Kd.R_base ho46) hb)
       have n1_ := Aside0.mk (Kd.R_elder' (by (with_reducible repeat (first | apply Kd.R_alloc | apply Kd.R_drewN | apply Kd.R_drew)); exact HL155_0.out) (Kd.R_base ho46) hb)
       have n2_ := Aside0.mk (Kd.R_lower (Kd.R_new' ho46 (Kd.R_lt (by (with_reducible repeat (first | apply Kd.R_alloc | apply Kd.R_drewN | apply Kd.R_drew)); exact HL155_0.out))) (below_size (by repeat (first | (with_reducible first | exact HB.out | apply below_alloc | apply pw_below_drewN | apply below_drew1) | exact HB.out))))
       have n3_ := Aside0.mk (Kd.C_below (by repeat (first | (with_reducible exact HR155_0.out) | (with_reducible refine Kd.C_alloc ?_ _) | (with_reducible refine Kd.C_drewN ?_ _) | (with_reducible refine Kd.C_drew ?_) | exact HR155_0.out)) hb)
       have n4_ := Aside0.mk (pw_cell_below hb HX155_0.out)
       have n5_ := Aside0.mk (below_step (by repeat (first | (with_reducible first | exact HB.out | apply below_alloc | apply pw_below_drewN | apply below_drew1) | exact HB.out)) hb)
       clear HO148
       clear HL155_0
       clear HR155_0
       clear HX155_0
       clear HB
       have HO148 := n0_
       have HL155_0 := n1_
       have HO158 := n2_
       have HR155_0 := n3_
       have HX155_0 := n4_
       have HB := n5_
       clear n0_ n1_ n2_ n3_ n4_ n5_
       clear hb ho46
       obtain ⟨Ao47, co47, eo47⟩ := Kd.R_slice HO158.out
       subst eo47
       obtain ⟨ado47, fo47, _⟩ := Kd.at_int (Kd.R_reads' HO158.out).2.2 0 (by decide) (by rw [Ny156.out]; simp)
       cases fo47
       refine hK.out _ _ (HS0_) (fun hHeld => ?_)
       clear hK K
       refine norm_ (a' := ?_) ?_ ?_
       rotate_left
       ·show Act.put _ (some 74) _ = _
        simp only [Act.put, sl0, sl1, sl2, i64_w, i32_w]
        rfl
       exact norm_ (by simp only [putAll, Act.put, sl0, sl1, sl2]) (hCont (.slice (some ado47) y156.length co47, ado47) _ ⟨hHeld, (by (with_reducible repeat (first | apply Kd.R_alloc | apply Kd.R_drewN | apply Kd.R_drew)); exact Kd.R_mono HL155_0.out (fun _ hk => ⟨hk.1.2, hk.2⟩)), (by (with_reducible repeat (first | apply Kd.S_alloc | apply Kd.S_drewN | apply Kd.S_drew)); exact Kd.S_mono HO148.out (fun _ hk => hk.2)), (by (with_reducible repeat (first | apply Kd.R_alloc | apply Kd.R_drewN | apply Kd.R_drew)); exact Kd.R_mono HO158.out (fun _ hk => hk.2)), ⟨_, rfl⟩, HX155_0.out, (by repeat (first | (with_reducible first | exact HB.out | apply below_alloc | apply pw_below_drewN | apply below_drew1) | exact HB.out))⟩)
      skip
      refine Kd.R_lit_step (Kd.int .i64) _ 3 ?hg (N := 74) ?hd (xs := ([(-1), 1000000, 1000001, a5] : List Int)) (inner := [.int .i64 (-1), .int .i64 1000000, .int .i64 1000001, .int .i64 a5]) (ok := fun _ => True) (okp := fun _ => True) ?hr ?hp (fun _ hk => hk) trivial (Below.refl _ _) (Nat.le_refl _) (by simp) ?_; (case hd => rfl); (case hg => rfl); (case hr => first | (go_simp; done) | (go_simp; rfl)); (case hp => exact (Reps.one (show Kd.M (Kd.int .i64) _ _ _ (-1) [.int .i64 (-1)] from rfl) (Reps.one (show Kd.M (Kd.int .i64) _ _ _ 1000000 [.int .i64 1000000] from rfl) (Reps.one (show Kd.M (Kd.int .i64) _ _ _ 1000001 [.int .i64 1000001] from rfl) (Reps.one (show Kd.M (Kd.int .i64) _ _ _ a5 [.int .i64 a5] from rfl) (Reps.none _ _))))))
      intro v157 w44 ho45 hb hg_ hnew_
      have HS0_ := (hb.cell (World.block_lt_of_cell? _ _ (hHeld))).trans (hHeld)
      clear hg_ hnew_
      (first | rw [← Ny156.out] at ho45 | (simp only [Int.reduceToNat] at ho45; rw [← Ny156.out] at ho45))
      have n0_ := Aside0.mk (Kd.S_elder' (by (with_reducible repeat (first | apply Kd.S_alloc | apply Kd.S_drewN | apply Kd.S_drew)); exact HO148.out) (Kd.R_base ho45) hb)
      have n1_ := Aside0.mk (Kd.R_elder' (by (with_reducible repeat (first | apply Kd.R_alloc | apply Kd.R_drewN | apply Kd.R_drew)); exact HL155_0.out) (Kd.R_base ho45) hb)
      have n2_ := Aside0.mk (Kd.R_lower (Kd.R_new' ho45 (Kd.R_lt (by (with_reducible repeat (first | apply Kd.R_alloc | apply Kd.R_drewN | apply Kd.R_drew)); exact HL155_0.out))) (below_size (by repeat (first | (with_reducible first | exact HB.out | apply below_alloc | apply pw_below_drewN | apply below_drew1) | exact HB.out))))
      have n3_ := Aside0.mk (Kd.C_below (by repeat (first | (with_reducible exact HR155_0.out) | (with_reducible refine Kd.C_alloc ?_ _) | (with_reducible refine Kd.C_drewN ?_ _) | (with_reducible refine Kd.C_drew ?_) | exact HR155_0.out)) hb)
      have n4_ := Aside0.mk (pw_cell_below hb HX155_0.out)
      have n5_ := Aside0.mk (below_step (by repeat (first | (with_reducible first | exact HB.out | apply below_alloc | apply pw_below_drewN | apply below_drew1) | exact HB.out)) hb)
      clear HO148
      clear HL155_0
      clear HR155_0
      clear HX155_0
      clear HB
      have HO148 := n0_
      have HL155_0 := n1_
      have HO158 := n2_
      have HR155_0 := n3_
      have HX155_0 := n4_
      have HB := n5_
      clear n0_ n1_ n2_ n3_ n4_ n5_
      clear hb ho45
      obtain ⟨Ao46, co46, eo46⟩ := Kd.R_slice HO158.out
      subst eo46
      obtain ⟨ado46, fo46, _⟩ := Kd.at_int (Kd.R_reads' HO158.out).2.2 0 (by decide) (by rw [Ny156.out]; simp)
      cases fo46
      refine hK.out _ _ (HS0_) (fun hHeld => ?_)
      clear hK K
      refine norm_ (a' := ?_) ?_ ?_
      rotate_left
      ·show Act.put _ (some 74) _ = _
       simp only [Act.put, sl0, sl1, sl2, i64_w, i32_w]
       rfl
      refine one_ (i := 9) (N := some 76) (fl_ 10 4) rfl rfl (one_of HT_.out (by kernel_rfl)) (by decide) (fun K hK => ?_)
      refine goes_ Try.func18 (by kernel_rfl) rfl #[.int .i64 a5, .int .i64 4] (by rfl) rfl rfl (by (try simp only [List.map_toArray, List.map_cons, List.map_nil]); first | done | rfl | (simp only [List.length_drop, List.length_take]; rfl)) ?_
      with_reducible refine (hypercubelaw9_within.calls a5 4 t159 _ A37.out).mono ?_
      rintro e w47 ⟨rfl, hb⟩
      have HS0_ := (hb.cell (World.block_lt_of_cell? _ _ (hHeld))).trans (hHeld)
      refine ⟨_, rfl, ?_⟩
      have n0_ := Aside0.mk (Kd.S_below (by (with_reducible repeat (first | apply Kd.S_alloc | apply Kd.S_drewN | apply Kd.S_drew)); exact HO148.out) hb)
      have n1_ := Aside0.mk (Kd.R_below (by (with_reducible repeat (first | apply Kd.R_alloc | apply Kd.R_drewN | apply Kd.R_drew)); exact HL155_0.out) hb)
      have n2_ := Aside0.mk (Kd.R_below (by (with_reducible repeat (first | apply Kd.R_alloc | apply Kd.R_drewN | apply Kd.R_drew)); exact HO158.out) hb)
      have n3_ := Aside0.mk (Kd.C_below (by repeat (first | (with_reducible exact HR155_0.out) | (with_reducible refine Kd.C_alloc ?_ _) | (with_reducible refine Kd.C_drewN ?_ _) | (with_reducible refine Kd.C_drew ?_) | exact HR155_0.out)) hb)
      have n4_ := Aside0.mk (pw_cell_below hb HX155_0.out)
      have n5_ := Aside0.mk (below_step (by repeat (first | (with_reducible first | exact HB.out | apply below_alloc | apply pw_below_drewN | apply below_drew1) | exact HB.out)) hb)
      clear HO148
      clear HL155_0
      clear HO158
      clear HR155_0
      clear HX155_0
      clear HB
      have HO148 := n0_
      have HL155_0 := n1_
      have HO158 := n2_
      have HR155_0 := n3_
      have HX155_0 := n4_
      have HB := n5_
      clear n0_ n1_ n2_ n3_ n4_ n5_
      (try clear hb)
      (try clear hb2)
      (try clear hk)
      (try clear hi)
      refine hK.out _ _ (HS0_) (fun hHeld => ?_)
      clear hK K
      refine norm_ (a' := ?_) ?_ ?_
      rotate_left
      ·show Act.put _ (some 76) _ = _
       simp only [Act.put, sl0, sl1, sl2, i64_w, i32_w]
       rfl
      exact norm_ (by simp only [putAll, Act.put, sl0, sl1, sl2]) (hCont (.slice (some ado46) y156.length co46, ado46) _ ⟨hHeld, (by (with_reducible repeat (first | apply Kd.R_alloc | apply Kd.R_drewN | apply Kd.R_drew)); exact Kd.R_mono HL155_0.out (fun _ hk => ⟨hk.1.2, hk.2⟩)), (by (with_reducible repeat (first | apply Kd.S_alloc | apply Kd.S_drewN | apply Kd.S_drew)); exact Kd.S_mono HO148.out (fun _ hk => hk.2)), (by (with_reducible repeat (first | apply Kd.R_alloc | apply Kd.R_drewN | apply Kd.R_drew)); exact Kd.R_mono HO158.out (fun _ hk => hk.2)), ⟨_, rfl⟩, HX155_0.out, (by repeat (first | (with_reducible first | exact HB.out | apply below_alloc | apply pw_below_drewN | apply below_drew1) | exact HB.out))⟩)
     rintro ⟨v157, adz_v157⟩ w48 ⟨hS_, h0_, h1_, h2_, h3_, h4_, h5_⟩
     have n0_ : Aside0 (Kd.R (Kd.int .i64) 3 w48 w.heap.size (fun k_ => some k_ ≠ (.slice (some ad155) t146.length co20 : Value).ownBlock ∧ some k_ ≠ (v157 : Value).ownBlock) (.slice A155_0 (rd_L1 t146 (ji34)).length c155_0) (rd_L1 t146 (ji34))) := ⟨h0_⟩
     have n1_ : Aside0 (Kd.S (Kd.slice 3 (Kd.int .i64)) 22 w48 w.heap.size (fun k_ => some k_ ≠ (v157 : Value).ownBlock) (.slice (some ad155) t146.length co20) t146) := ⟨h1_⟩
     have n2_ : Aside0 (Kd.R (Kd.int .i64) 3 w48 w.heap.size (fun k_ => some k_ ≠ (.slice A155_0 (rd_L1 t146 (ji34)).length c155_0 : Value).ownBlock) v157 y156) := ⟨h2_⟩
     have n3_ : Aside0 (∃ c_, (v157 : Value) = .slice (some adz_v157) y156.length c_) := ⟨h3_⟩
     have n4_ : Aside0 (w48.cell? (ad155.add ((ji34)).toNat) = some (.slice A155_0 (rd_L1 t146 (ji34)).length c155_0)) := ⟨h4_⟩
     have n5_ : Aside0 (Below w.heap.size w w48) := ⟨h5_⟩
     clear HO148
     clear HB
     clear h0_ h1_ h2_ h3_ h4_ h5_
     have HL155_0 := n0_
     have HO148 := n1_
     have HO158 := n2_
     have HA_HO158 := n3_
     have HX155_0 := n4_
     have HB := n5_
     clear n0_ n1_ n2_ n3_ n4_ n5_
     have hHeld : w48.cell? (ad155.add ((ji34)).toNat) = some (.slice A155_0 (rd_L1 t146 (ji34)).length c155_0) := hS_
     obtain ⟨co49, eo49⟩ := HA_HO158.out
     clear HA_HO158
     subst eo49
     have p41 : 0 ≤ (0 : Int) := (by omega)
     have q41 : (0 : Int) < (((rd_L1 t146 (ji34)).length : Int) : Int) := od_
     have qi41 : (0 < (rd_L1 t146 (ji34)).length) = True := eq_true (by omega)
     obtain ⟨go41, co41, eo41, gb41, gl41, cl41, HG41⟩ := Kd.R_form HL155_0.out (by omega)
     (first | cases eo41 | (injection eo41 with ea_ en_ ec_; (first | subst ea_ | (injection ea_ with ea_; subst ea_)); subst ec_; clear en_))
     have GB41 := Aside0.mk gb41
     have GG41 := Aside0.mk HG41
     clear gb41 gl41 HG41
     obtain ⟨hx41_0, hf41_0⟩ := Kd.R_celln 0 HL155_0.out (0 : Int) p41 q41
     (try rw [show ((0 : Int)).toNat = 0 from rfl] at hx41_0)
     (try simp only [Nat.reduceMul, Nat.zero_mul, Nat.zero_add, Nat.reduceAdd] at hx41_0)
     (try rw [show ((0 : Int)).toNat = 0 from rfl] at hf41_0)
     (try simp only [Nat.reduceMul, Nat.zero_mul, Nat.zero_add, Nat.reduceAdd] at hf41_0)
     replace p41 := eq_true p41
     replace q41 := eq_true q41
     have hq50 : ((ji34) : Int) < (t146.length : Int) := (by have h_ : ((ji34) : Int) < ((t146.length : Int) : Int) := of_decide_eq_true (by first | (with_reducible assumption) | assumption); first | exact h_ | (have e_ := (Kd.S_reads' HO148.out).1; omega) | simpa only [List.length_set, List.length_set] using h_)
     obtain ⟨oki50, ce50, hcl50, hM50, hcc50, hok50, hbk50⟩ := Kd.S_borrow HO148.out [] ((ji34) : Int) (of_decide_eq_true (by first | (with_reducible assumption) | assumption)) hq50
     obtain ⟨ve50_0, rfl, ge50_0⟩ := hM50
     have hv50 := hcc50 0 _ rfl
     rw [Nat.add_zero, show ((Kd.slice 3 (Kd.int .i64))).sz = 1 from rfl, Nat.mul_one] at hv50
     replace hv50 := Option.some.inj (hv50.symm.trans HX155_0.out)
     subst hv50
     clear hcc50 hcl50
     replace ge50_0 := (show Kd.R (Kd.int .i64) 3 _ _ _ _ (rd_L1 t146 (ji34)) from ge50_0)
     have HP50 := Kd.R_putg ge50_0 (0 : Int) (rd y156 t159)
     rw [← Ny161.out] at HP50
     have HS50 := hbk50 HP50.2 (fun k_ e_ => by injection e_ with e_; subst e_; exact ge50_0.1 _ rfl) (x' := y161) (Kd.M_row HP50.1)
     rw [← Ny163.out] at HS50
     have HQ50 := Aside0.mk HS50
     clear HP50 HS50 hbk50 hok50
     refine norm_ (a' := ?_) ?_ ?_
     rotate_left
     ·simp only [putAll, Act.put, sl0, sl1, sl2]
      rfl
     refine pure_ (i := 10) (N := some 77) (v := ?_) (a' := ?_) (fl_ 11 3) rfl rfl (any_of HT_.out (by kernel_rfl)) (fun _ _ _ h => h) (Or.inl ⟨by rfl, ?_⟩) ?_ ?_
     rotate_left
     ·intro w'
      go_simp
      with_reducible rfl
     rotate_left
     ·simp only [Act.put, sl0, sl1, sl2, i64_w, i32_w]
      rfl
     refine one_ (i := 11) (N := some 78) (fl_ 12 2) rfl rfl (one_of HT_.out (by kernel_rfl)) (by decide) (fun K hK => ?_)
     (have p160 : 0 ≤ (t159 : Int) := of_decide_eq_true (by first | (with_reducible assumption) | assumption); have q160 : t159 < (y156.length : Int) := of_decide_eq_true (by first | (with_reducible assumption) | assumption); obtain ⟨ad160, e160, hx160_0⟩ := Kd.at_int (Kd.R_reads' HO158.out).2.2 t159 p160 q160; obtain rfl : adz_v157 = ad160 := (by injection e160))
     refine value_ (w1 := ?_) (v := ?_) (by rfl) rfl ?_ ?_
     rotate_left 2
     ·go_simp
      constructor
      ·rfl
      rfl
     clear hx160_0
     refine hK.out _ _ (hHeld) (fun hHeld => ?_)
     clear hK K
     refine norm_ (a' := ?_) ?_ ?_
     rotate_left
     ·show Act.put _ (some 78) _ = _
      simp only [Act.put, sl0, sl1, sl2, i64_w, i32_w]
      rfl
     refine pure_ (i := 12) (N := some 79) (v := ?_) (a' := ?_) (fl_ 13 1) rfl rfl (any_of HT_.out (by kernel_rfl)) (fun _ _ _ h => h) (Or.inl ⟨by rfl, ?_⟩) ?_ ?_
     rotate_left
     ·intro w'
      go_simp
      with_reducible rfl
     rotate_left
     ·simp only [Act.put, sl0, sl1, sl2, i64_w, i32_w]
      rfl
     refine last_ (i := 13) (N := none) (fl_ 14 0) rfl rfl (one_of HT_.out (by kernel_rfl)) (by decide) (fun K hK => ?_)
     refine skip_ (w1 := ?_) (by rfl) rfl ?_ ?_
     rotate_left
     ·go_simp
      rfl
     refine hK.out _ _ ?_
     clear hK K
     refine done_ (done_of HT_.out (by kernel_rfl)) ?_
     try go_wp2
     go_meet
     case rel => exact ⟨_, (y163), H', ⟨by have := HK1.out; first | omega | exact Nat.le_refl _⟩, ⟨by refine Kd.S_R ?_; (with_reducible repeat (first | apply Kd.S_alloc | apply Kd.S_drewN | apply Kd.S_drew)); exact Kd.S_mono HQ50.out (fun _ hk => trivial)⟩, ⟨by repeat (first | (with_reducible first | exact HB.out | apply below_alloc | apply pw_below_drewN | apply below_drew1 | refine below_set ?_ GB41.out) | exact HB.out)⟩⟩
    rw [if_neg c33] at H
    have c33b0 : (t149 == 1) = false := beq_eq_false_iff_ne.mpr c33
    have c33b1 : (t149 != 1) = true := bne_iff_ne.mpr c33
    by_cases c52 : t149 = 2
    ·rw [if_pos c52] at H
     have c52b0 : (t149 == 2) = true := beq_iff_eq.mpr c52
     have c52b1 : (t149 != 2) = false := bne_eq_false_iff_eq.mpr c52
     clear c52
     by_cases c53 : 0 < (t146.length : Int)
     rotate_left
     ·rw [if_neg c53] at H
      exact absurd H (by simp)
     rw [if_pos c53] at H
     by_cases c54 : t146.length < 1000
     rotate_left
     ·rw [if_neg c54] at H
      exact absurd H (by simp)
     rw [if_pos c54] at H
     have LMc54 := Aside0.mk c54
     clear c54
     obtain ⟨y85, hy85⟩ : ∃ y_ : List (List Int), y_ = (t146 ++ [rd_L1 t146 0, rd_L1 t146 0, rd_L1 t146 0, rd_L1 t146 0, rd_L1 t146 0]) := ⟨_, rfl⟩
     rw [← hy85] at H
     have Ny85 := Aside0.mk hy85
     clear hy85
     have H' := Aside0.mk H
     clear H
     go_wp2_with (first | ((with_reducible refine gate_callee (f := 18) rfl ?_); refine goesL_ (some 55) rfl rfl Try.func18 (by kernel_rfl) rfl #[.int .i64 a4, .int .i64 5] rfl (by (try simp only [List.map_toArray, List.map_cons, List.map_nil]); first | done | rfl | (simp only [List.length_drop, List.length_take]; rfl)) ?_; (with_reducible refine (hypercubelaw9_within.calls a4 5 t149 _ A22.out).mono ?_); rintro e w53 ⟨rfl, hb⟩; refine ⟨_, rfl, ?_⟩; have n0_ := Aside0.mk (Kd.S_below (by (with_reducible repeat (first | apply Kd.S_alloc | apply Kd.S_drewN | apply Kd.S_drew)); exact HO148.out) hb); have n1_ := Aside0.mk (below_step (by repeat (first | (with_reducible first | exact HB.out | apply below_alloc | apply pw_below_drewN | apply below_drew1) | exact HB.out)) hb); clear HO148; clear HB; have HO148 := n0_; have HB := n1_; clear n0_ n1_; (try clear hb); (try clear hb2); (try clear hk); (try clear hi)))
     have n0_ := Aside0.mk (Kd.S_R (Kd.S_drew HO148.out))
     have n1_ := Aside0.mk (below_drew1 HB.out)
     clear HO148
     clear HB
     have HO148 := n0_
     have HB := n1_
     clear n0_ n1_
     have p85 : 0 ≤ (0 : Int) := (by omega)
     have q85 : (0 : Int) < (t146.length : Int) := c53
     obtain ⟨ad85, A850, c850, e85, hx85, hl85, hi85⟩ := at_L1 (Kd.R_reads' HO148.out).2.2 0 p85 q85
     cases e85
     obtain ⟨ce85, hce85, hMe85, hcc85⟩ := Kd.R_get HO148.out [] 0 p85 q85
     obtain ⟨ve85, rfl, ge85⟩ := hMe85
     have hv85 := hcc85 0 _ rfl
     rw [Nat.add_zero, show ((Kd.slice 3 (Kd.int .i64))).sz = 1 from rfl, Nat.mul_one] at hv85
     replace hv85 := Option.some.inj (hv85.symm.trans hx85)
     rw [hv85] at ge85
     have HL85 := Aside0.mk (show Kd.R (Kd.int .i64) 3 _ _ _ _ (rd_L1 t146 0) from ge85)
     clear hv85 ge85 hcc85 hce85 hl85 hi85
     have qi85 : (0 < t146.length) = True := eq_true (by omega)
     (try rw [show ((0 : Int)).toNat = 0 from rfl] at hx85)
     (try rw [Addr.add_zero'] at hx85)
     replace p85 := eq_true p85
     replace q85 := eq_true q85
     clear c53
     refine start_ (n := 19) (S := fun w' => w'.cell? ad85 = some (.slice A850 (rd_L1 t146 0).length c850)) (ds := [17]) (fl_ 0 19) (by kernel_rfl) rfl rfl (hx85) (fun hHeld => ?_)
     generalize w53.drew = w54 at HO148 HB HL85 hx85 hHeld ⊢
     refine pure_ (i := 0) (N := some 82) (v := ?_) (a' := ?_) (fl_ 1 18) rfl rfl (by kernel_rfl) (fun _ _ _ h => h) (Or.inl ⟨by rfl, ?_⟩) ?_ ?_
     rotate_left
     ·intro w'
      go_simp
      with_reducible rfl
     rotate_left
     ·simp only [Act.put, sl0, sl1, sl2, i64_w, i32_w]
      rfl
     refine pure_ (i := 1) (N := some 83) (v := ?_) (a' := ?_) (fl_ 2 17) rfl rfl (by kernel_rfl) (fun _ _ _ h => h) (Or.inl ⟨by rfl, ?_⟩) ?_ ?_
     rotate_left
     ·intro w'
      go_simp
      with_reducible rfl
     rotate_left
     ·simp only [Act.put, sl0, sl1, sl2, i64_w, i32_w]
      rfl
     refine pure_ (i := 2) (N := some 84) (v := ?_) (a' := ?_) (fl_ 3 16) rfl rfl (by kernel_rfl) (fun _ _ _ h => h) (Or.inl ⟨by rfl, ?_⟩) ?_ ?_
     rotate_left
     ·intro w'
      go_simp
      with_reducible rfl
     rotate_left
     ·simp only [Act.put, sl0, sl1, sl2, i64_w, i32_w]
      rfl
     refine take_ (i := 3) (N := some 85) (v := ?_) (a' := ?_) (fl_ 4 15) rfl rfl (by kernel_rfl) (fun _ _ _ h => h) (Or.inl ⟨by rfl, ?_⟩) hHeld ?_ ?_
     rotate_left
     ·intro w' s0
      go_simp
      with_reducible rfl
     rotate_left
     ·simp only [Act.put, sl0, sl1, sl2, i64_w, i32_w]
      rfl
     refine pure_ (i := 4) (N := some 86) (v := ?_) (a' := ?_) (fl_ 5 14) rfl rfl (by kernel_rfl) (fun _ _ _ h => h) (Or.inl ⟨by rfl, ?_⟩) ?_ ?_
     rotate_left
     ·intro w'
      go_simp
      with_reducible rfl
     rotate_left
     ·simp only [Act.put, sl0, sl1, sl2, i64_w, i32_w]
      rfl
     refine pure_ (i := 5) (N := some 87) (v := ?_) (a' := ?_) (fl_ 6 13) rfl rfl (by kernel_rfl) (fun _ _ _ h => h) (Or.inl ⟨by rfl, ?_⟩) ?_ ?_
     rotate_left
     ·intro w'
      go_simp
      with_reducible rfl
     rotate_left
     ·simp only [Act.put, sl0, sl1, sl2, i64_w, i32_w]
      rfl
     refine take_ (i := 6) (N := some 88) (v := ?_) (a' := ?_) (fl_ 7 12) rfl rfl (by kernel_rfl) (fun _ _ _ h => h) (Or.inl ⟨by rfl, ?_⟩) hHeld ?_ ?_
     rotate_left
     ·intro w' s0
      go_simp
      with_reducible rfl
     rotate_left
     ·simp only [Act.put, sl0, sl1, sl2, i64_w, i32_w]
      rfl
     refine pure_ (i := 7) (N := some 89) (v := ?_) (a' := ?_) (fl_ 8 11) rfl rfl (by kernel_rfl) (fun _ _ _ h => h) (Or.inl ⟨by rfl, ?_⟩) ?_ ?_
     rotate_left
     ·intro w'
      go_simp
      with_reducible rfl
     rotate_left
     ·simp only [Act.put, sl0, sl1, sl2, i64_w, i32_w]
      rfl
     refine pure_ (i := 8) (N := some 90) (v := ?_) (a' := ?_) (fl_ 9 10) rfl rfl (by kernel_rfl) (fun _ _ _ h => h) (Or.inl ⟨by rfl, ?_⟩) ?_ ?_
     rotate_left
     ·intro w'
      go_simp
      with_reducible rfl
     rotate_left
     ·simp only [Act.put, sl0, sl1, sl2, i64_w, i32_w]
      rfl
     refine take_ (i := 9) (N := some 91) (v := ?_) (a' := ?_) (fl_ 10 9) rfl rfl (by kernel_rfl) (fun _ _ _ h => h) (Or.inl ⟨by rfl, ?_⟩) hHeld ?_ ?_
     rotate_left
     ·intro w' s0
      go_simp
      with_reducible rfl
     rotate_left
     ·simp only [Act.put, sl0, sl1, sl2, i64_w, i32_w]
      rfl
     refine pure_ (i := 10) (N := some 92) (v := ?_) (a' := ?_) (fl_ 11 8) rfl rfl (by kernel_rfl) (fun _ _ _ h => h) (Or.inl ⟨by rfl, ?_⟩) ?_ ?_
     rotate_left
     ·intro w'
      go_simp
      with_reducible rfl
     rotate_left
     ·simp only [Act.put, sl0, sl1, sl2, i64_w, i32_w]
      rfl
     refine pure_ (i := 11) (N := some 93) (v := ?_) (a' := ?_) (fl_ 12 7) rfl rfl (by kernel_rfl) (fun _ _ _ h => h) (Or.inl ⟨by rfl, ?_⟩) ?_ ?_
     rotate_left
     ·intro w'
      go_simp
      with_reducible rfl
     rotate_left
     ·simp only [Act.put, sl0, sl1, sl2, i64_w, i32_w]
      rfl
     refine take_ (i := 12) (N := some 94) (v := ?_) (a' := ?_) (fl_ 13 6) rfl rfl (by kernel_rfl) (fun _ _ _ h => h) (Or.inl ⟨by rfl, ?_⟩) hHeld ?_ ?_
     rotate_left
     ·intro w' s0
      go_simp
      with_reducible rfl
     rotate_left
     ·simp only [Act.put, sl0, sl1, sl2, i64_w, i32_w]
      rfl
     refine pure_ (i := 13) (N := some 95) (v := ?_) (a' := ?_) (fl_ 14 5) rfl rfl (by kernel_rfl) (fun _ _ _ h => h) (Or.inl ⟨by rfl, ?_⟩) ?_ ?_
     rotate_left
     ·intro w'
      go_simp
      with_reducible rfl
     rotate_left
     ·simp only [Act.put, sl0, sl1, sl2, i64_w, i32_w]
      rfl
     refine pure_ (i := 14) (N := some 96) (v := ?_) (a' := ?_) (fl_ 15 4) rfl rfl (by kernel_rfl) (fun _ _ _ h => h) (Or.inl ⟨by rfl, ?_⟩) ?_ ?_
     rotate_left
     ·intro w'
      go_simp
      with_reducible rfl
     rotate_left
     ·simp only [Act.put, sl0, sl1, sl2, i64_w, i32_w]
      rfl
     refine take_ (i := 15) (N := some 97) (v := ?_) (a' := ?_) (fl_ 16 3) rfl rfl (by kernel_rfl) (fun _ _ _ h => h) (Or.inl ⟨by rfl, ?_⟩) hHeld ?_ ?_
     rotate_left
     ·intro w' s0
      go_simp
      with_reducible rfl
     rotate_left
     ·simp only [Act.put, sl0, sl1, sl2, i64_w, i32_w]
      rfl
     refine one_ (i := 16) (N := some 98) (fl_ 17 2) rfl rfl (by kernel_rfl) (by decide) (fun K hK => ?_)
     refine Kd.R_lit_step (Kd.slice 3 (Kd.int .i64)) (w0 := w) w.heap.size 22 ?hg (N := 98) ?hd (xs := [rd_L1 t146 0, rd_L1 t146 0, rd_L1 t146 0, rd_L1 t146 0, rd_L1 t146 0]) (inner := [(.slice A850 (rd_L1 t146 0).length c850), (.slice A850 (rd_L1 t146 0).length c850), (.slice A850 (rd_L1 t146 0).length c850), (.slice A850 (rd_L1 t146 0).length c850), (.slice A850 (rd_L1 t146 0).length c850)]) (ok := fun k_ => some k_ ≠ (.slice (some ad85) t146.length co20 : Value).ownBlock) (okp := fun k_ => True ∧ some k_ ≠ (.slice (some ad85) t146.length co20 : Value).ownBlock) ?hr ?hp (fun _ hk => hk.2) ?hf HB.out (below_size HB.out) (by simp) ?_; (case hd => rfl); (case hg => rfl); (case hr => first | (go_simp; done) | (go_simp; rfl)); (case hp => exact (Reps.one (show Kd.M (Kd.slice 3 (Kd.int .i64)) _ _ _ (rd_L1 t146 0) [(.slice A850 (rd_L1 t146 0).length c850)] from ⟨_, rfl, HL85.out⟩) (Reps.one (show Kd.M (Kd.slice 3 (Kd.int .i64)) _ _ _ (rd_L1 t146 0) [(.slice A850 (rd_L1 t146 0).length c850)] from ⟨_, rfl, HL85.out⟩) (Reps.one (show Kd.M (Kd.slice 3 (Kd.int .i64)) _ _ _ (rd_L1 t146 0) [(.slice A850 (rd_L1 t146 0).length c850)] from ⟨_, rfl, HL85.out⟩) (Reps.one (show Kd.M (Kd.slice 3 (Kd.int .i64)) _ _ _ (rd_L1 t146 0) [(.slice A850 (rd_L1 t146 0).length c850)] from ⟨_, rfl, HL85.out⟩) (Reps.one (show Kd.M (Kd.slice 3 (Kd.int .i64)) _ _ _ (rd_L1 t146 0) [(.slice A850 (rd_L1 t146 0).length c850)] from ⟨_, rfl, HL85.out⟩) (Reps.none _ _))))))); (case hf => exact (fun he => by have := Kd.R_lt HO148.out _ he.symm; omega))
     intro v98 w55 ho85 hb85 hg85 hn85
     have hbl85 : Below w54.heap.size w54 w55 := ⟨hg85.os, hg85.tape, hg85.output, hg85.size, fun i hi => hg85.block i hi (by simp)⟩
     have HS0_ := (hbl85.cell (World.block_lt_of_cell? _ _ (hHeld))).trans (hHeld)
     have n0_ := Aside0.mk (Kd.R_below HO148.out hbl85)
     have n1_ := Aside0.mk hb85
     clear HO148
     clear HB
     have HO148 := n0_
     have HB := n1_
     clear n0_ n1_ hg85 hn85 hbl85 hb85 HL85
     obtain ⟨A98, c98, rfl⟩ := Kd.R_slice ho85
     have HO85 := Aside0.mk ho85
     clear ho85
     refine hK.out _ _ HS0_ (fun hHeld => ?_)
     clear hK K
     refine norm_ (a' := ?_) ?_ ?_
     rotate_left
     ·show Act.put _ (some 98) _ = _
      simp only [Act.put, sl0, sl1, sl2, i64_w, i32_w]
      rfl
     refine last_ (i := 17) (N := some 99) (fl_ 18 1) rfl rfl (by kernel_rfl) (by decide) (fun K hK => ?_)
     refine Kd.R_append_rows_step (Kd.slice 3 (Kd.int .i64)) (Rr := (Kd.slice 3 (Kd.int .i64)).M w55 w.heap.size (fun k_ => some k_ ≠ (.slice (some ad85) t146.length co20 : Value).ownBlock)) (w0 := w) w.heap.size ?hw (.tmp 82) (.tmp 98) 24 22 (.slice none 0 0) 24 rfl Try.underlying24 info22 rfl (by decide) (by omega) (.slice (some ad85) t146.length co20) t146 [rd_L1 t146 0, rd_L1 t146 0, rd_L1 t146 0, rd_L1 t146 0, rd_L1 t146 0] A98 5 c98 (fun _ => True) (fun k_ => some k_ ≠ (.slice (some ad85) t146.length co20 : Value).ownBlock) rfl rfl HO148.out (R_rowsM HO85.out) (fun _ _ h => h) (fun _ hk => ⟨trivial, hk⟩) (fun _ _ => trivial) HB.out (below_size HB.out) (by have := LMc54.out; omega) ?_
     case hw => rfl
     intro v99 w56 ho86 hb86 hg86 hn86
     rw [← Ny85.out] at ho86
     have n0_ := Aside0.mk ho86
     have n1_ := Aside0.mk hb86
     clear HO148
     clear HB
     have HO148 := n0_
     have HB := n1_
     clear n0_ n1_ ho86 hb86 hg86 hn86 HO85
     refine hK.out _ _ ?_
     clear hK K
     refine norm_ (a' := ?_) ?_ ?_
     rotate_left
     ·show Act.put _ (some 99) _ = _
      simp only [Act.put, sl0, sl1, sl2, i64_w, i32_w]
      rfl
     refine pure_ (i := 18) (N := some 14) (v := ?_) (a' := ?_) (fl_ 19 0) rfl rfl (by kernel_rfl) (fun _ _ _ h => h) (Or.inl ⟨by rfl, ?_⟩) ?_ ?_
     rotate_left
     ·intro w'
      go_simp
      with_reducible rfl
     rotate_left
     ·simp only [Act.put, sl0, sl1, sl2, i64_w, i32_w]
      rfl
     refine done_ (by kernel_rfl) ?_
     try go_wp2
     go_meet
     case rel => exact ⟨_, (y85), H', ⟨by have := HK1.out; first | omega | exact Nat.le_refl _⟩, ⟨by (with_reducible repeat (first | apply Kd.R_alloc | apply Kd.R_drewN | apply Kd.R_drew)); exact HO148.out⟩, ⟨by repeat (first | (with_reducible first | exact HB.out | apply below_alloc | apply pw_below_drewN | apply below_drew1) | exact HB.out)⟩⟩
    rw [if_neg c52] at H
    have c52b0 : (t149 == 2) = false := beq_eq_false_iff_ne.mpr c52
    have c52b1 : (t149 != 2) = true := bne_iff_ne.mpr c52
    by_cases c55 : t149 = 3
    rotate_left
    ·rw [if_neg c55] at H
     have c55b0 : (t149 == 3) = false := beq_eq_false_iff_ne.mpr c55
     have c55b1 : (t149 != 3) = true := bne_iff_ne.mpr c55
     have H' := Aside0.mk H
     clear H
     go_wp2_with (first | ((with_reducible refine gate_callee (f := 18) rfl ?_); refine goesL_ (some 55) rfl rfl Try.func18 (by kernel_rfl) rfl #[.int .i64 a4, .int .i64 5] rfl (by (try simp only [List.map_toArray, List.map_cons, List.map_nil]); first | done | rfl | (simp only [List.length_drop, List.length_take]; rfl)) ?_; (with_reducible refine (hypercubelaw9_within.calls a4 5 t149 _ A22.out).mono ?_); rintro e w73 ⟨rfl, hb⟩; refine ⟨_, rfl, ?_⟩; have n0_ := Aside0.mk (Kd.S_below (by (with_reducible repeat (first | apply Kd.S_alloc | apply Kd.S_drewN | apply Kd.S_drew)); exact HO148.out) hb); have n1_ := Aside0.mk (below_step (by repeat (first | (with_reducible first | exact HB.out | apply below_alloc | apply pw_below_drewN | apply below_drew1) | exact HB.out)) hb); clear HO148; clear HB; have HO148 := n0_; have HB := n1_; clear n0_ n1_; (try clear hb); (try clear hb2); (try clear hk); (try clear hi)))
     go_meet
     case rel => exact ⟨_, (t146), H', ⟨by have := HK1.out; first | omega | exact Nat.le_refl _⟩, ⟨by refine Kd.S_R ?_; (with_reducible repeat (first | apply Kd.S_alloc | apply Kd.S_drewN | apply Kd.S_drew)); exact HO148.out⟩, ⟨by repeat (first | (with_reducible first | exact HB.out | apply below_alloc | apply pw_below_drewN | apply below_drew1) | exact HB.out)⟩⟩
    rw [if_pos c55] at H
    have c55b0 : (t149 == 3) = true := beq_iff_eq.mpr c55
    have c55b1 : (t149 != 3) = false := bne_eq_false_iff_eq.mpr c55
    clear c55
    have H' := Aside0.mk H
    clear H
    go_wp2_with (first | ((with_reducible refine gate_callee (f := 18) rfl ?_); refine goesL_ (some 55) rfl rfl Try.func18 (by kernel_rfl) rfl #[.int .i64 a4, .int .i64 5] rfl (by (try simp only [List.map_toArray, List.map_cons, List.map_nil]); first | done | rfl | (simp only [List.length_drop, List.length_take]; rfl)) ?_; (with_reducible refine (hypercubelaw9_within.calls a4 5 t149 _ A22.out).mono ?_); rintro e w56 ⟨rfl, hb⟩; refine ⟨_, rfl, ?_⟩; have n0_ := Aside0.mk (Kd.S_below (by (with_reducible repeat (first | apply Kd.S_alloc | apply Kd.S_drewN | apply Kd.S_drew)); exact HO148.out) hb); have n1_ := Aside0.mk (below_step (by repeat (first | (with_reducible first | exact HB.out | apply below_alloc | apply pw_below_drewN | apply below_drew1) | exact HB.out)) hb); clear HO148; clear HB; have HO148 := n0_; have HB := n1_; clear n0_ n1_; (try clear hb); (try clear hb2); (try clear hk); (try clear hi)))
    go_loopg [] k1 (fun kq w' => ∃ (x14_2 : List (List Int)), Aside0 (hypercubelaw9_MatchErrs.l1 kq l0 a5 x14_2 = some r) ∧ Aside0 (kq ≤ k1) ∧ Aside0 (Kd.S (Kd.slice 3 (Kd.int .i64)) 22 w' w.heap.size (fun _ => True) (.slice Ao20 t146.length co20) x14_2) ∧ Aside0 (Below w.heap.size w w'))
    case atStart => exact ⟨(t146), H', ⟨Nat.le_refl _⟩, ⟨by (with_reducible repeat (first | apply Kd.S_alloc | apply Kd.S_drewN | apply Kd.S_drew)); exact HO148.out⟩, ⟨by repeat (first | (with_reducible first | exact HB.out | apply below_alloc | apply pw_below_drewN | apply below_drew1) | exact HB.out)⟩⟩
    case round =>
     clear H'
     try clear c1
     try clear p1
     try clear q1
     try clear hx1
     try clear qi1
     try clear c2
     try clear p2
     try clear q2
     try clear c3
     try clear hx3
     try clear c4
     try clear p4
     try clear q4
     try clear hx4
     try clear qi4
     try clear c5
     try clear q5
     try clear p6
     try clear c8
     try clear c9
     try clear c9b0
     try clear c9b1
     try clear c12
     try clear c12b0
     try clear c13
     try clear c13b0
     try clear c14
     try clear c14b0
     try clear c14b1
     try clear p14
     try clear q14
     try clear hx14
     try clear c15
     try clear p15
     try clear q15
     try clear hx15
     try clear qi15
     try clear p16
     try clear q16
     try clear hx16
     try clear qi16
     try clear c18
     try clear c21
     try clear c21b0
     try clear c21b1
     try clear c23
     try clear c23b0
     try clear c23b1
     try clear c24
     try clear c24b0
     try clear c24b1
     try clear c25
     try clear p26
     try clear q26
     try clear c28
     try clear c30
     try clear hx30
     try clear hf30
     try clear c33
     try clear c33b0
     try clear c33b1
     try clear c35
     try clear c35b0
     try clear c36
     try clear c36b0
     try clear c38
     try clear c38b0
     try clear c39
     try clear c39b0
     try clear c40
     try clear c40b0
     try clear c40b1
     try clear p41
     try clear q41
     try clear hx41
     try clear qi41
     try clear hf41
     try clear c50
     try clear q50
     try clear c52
     try clear c52b0
     try clear c52b1
     try clear c55
     try clear c55b0
     try clear c55b1
     try clear hx144_0
     try clear hx150_0
     try clear hx155_0
     try clear hx160_0
     try clear hx30_0
     try clear hx41_0
     try clear p144
     try clear p150
     try clear p155
     try clear p160
     try clear p2
     try clear p26
     try clear p41
     try clear q144
     try clear q150
     try clear q155
     try clear q160
     try clear q26
     try clear q41
     obtain ⟨x14_2, HA, HK2, HO_14, HB⟩ := hrel
     have hl14_2 := (Kd.S_reads' HO_14.out).1
     rw [hl14_2] at HO_14
     (try simp only [hl14_2])
     cases gk with
     | zero => exact absurd HA.out (by simp [hypercubelaw9_MatchErrs.l1])
     | succ k2 =>
      have H := HA.out
      clear HA
      simp only [hypercubelaw9_MatchErrs.l1] at H
      by_cases c57 : 0 < (x14_2.length : Int)
      rotate_left
      ·rw [if_neg c57] at H
       exact absurd H (by simp)
      rw [if_pos c57] at H
      have c57b0 : decide (0 < (x14_2.length : Int)) = true := decide_eq_true c57
      have c57b1 : decide (0 < x14_2.length) = true := decide_eq_true (by omega)
      clear c57
      replace H := Option.bind_eq_some_iff.mp H
      obtain ⟨t165, A580, H⟩ := H
      replace H : (if ((rd_L1 x14_2 0).length : Int) < (wrap64 (11 + t165)) then (hypercubelaw9_MatchErrs.l2 k2 l0 a5 x14_2 0) else (hypercubelaw9_MatchErrs.j3 k2 l0 x14_2)) = some r := H
      have A58 := Aside0.mk A580
      clear A580
      by_cases c59 : ((rd_L1 x14_2 0).length : Int) < (wrap64 (11 + t165))
      rotate_left
      ·rw [if_neg c59] at H
       have c59b0 : decide (((rd_L1 x14_2 0).length : Int) < (wrap64 (11 + t165))) = false := decide_eq_false c59
       clear c59
       have H' := Aside0.mk H
       clear H
       try go_wp2
       have n0_ := Aside0.mk (Kd.S_drew HO_14.out)
       have n1_ := Aside0.mk (below_drew1 HB.out)
       clear HO_14
       clear HB
       have HO_14 := n0_
       have HB := n1_
       clear n0_ n1_
       have p164 : 0 ≤ (0 : Int) := (by omega)
       have q164 : 0 < (x14_2.length : Int) := od_
       obtain ⟨ad164, A164_0, c164_0, e164, hx164_0, hl164_0, hi164_0⟩ := at_L1 (Kd.S_reads' HO_14.out).2.2 0 p164 q164
       cases e164
       obtain ⟨ce164, hce164, hMe164, hcc164⟩ := Kd.S_get HO_14.out [] 0 p164 (by first | exact q164 | exact of_decide_eq_true (by first | (with_reducible assumption) | assumption) | (have e_ := (Kd.S_reads' HO_14.out).1; omega))
       obtain ⟨ve164_0, rfl, ge164_0⟩ := hMe164
       have hv164_0 := hcc164 0 _ rfl
       rw [Nat.add_zero, show ((Kd.slice 3 (Kd.int .i64))).sz = 1 from rfl, Nat.mul_one] at hv164_0
       replace hv164_0 := Option.some.inj (hv164_0.symm.trans hx164_0)
       rw [hv164_0] at ge164_0
       have HL164_0 := Aside0.mk (show Kd.R (Kd.int .i64) 3 _ _ _ _ (rd_L1 x14_2 0) from ge164_0)
       clear hv164_0 ge164_0
       have HX164_0 := Aside0.mk hx164_0
       clear hcc164 hce164
       have qi164 : (0 < x14_2.length) = True := eq_true (by omega)
       (try rw [show ((0 : Int)).toNat = 0 from rfl] at hx164_0)
       (try rw [Addr.add_zero'] at hx164_0)
       have HR164_0 := Aside0.mk hi164_0
       have HC164_0 := Aside0.mk hl164_0
       clear hi164_0 hl164_0
       replace p164 := eq_true p164
       replace q164 := eq_true q164
       refine start_ (n := 8) (S := fun w' => w'.cell? ad164 = some (.slice A164_0 (rd_L1 x14_2 0).length c164_0)) (ds := []) (fl_ 0 8) (by kernel_rfl) rfl rfl (hx164_0) (fun hHeld => ?_); refine with_tabW hypercubelaw9_MatchErrs.tab20 hypercubelaw9_MatchErrs.bits20 (fun HT_ HW_ => ?_)
       generalize wr.drew = w71 at HO_14 HB HL164_0 HR164_0 HX164_0 hx164_0 hHeld ⊢
       refine pure_ (i := 0) (N := some 102) (v := ?_) (a' := ?_) (fl_ 1 7) rfl rfl (any_of HT_.out (by kernel_rfl)) (fun _ _ _ h => h) (Or.inl ⟨by rfl, ?_⟩) ?_ ?_
       rotate_left
       ·intro w'
        go_simp
        with_reducible rfl
       rotate_left
       ·simp only [Act.put, sl0, sl1, sl2, i64_w, i32_w]
        rfl
       refine pure_ (i := 1) (N := some 103) (v := ?_) (a' := ?_) (fl_ 2 6) rfl rfl (any_of HT_.out (by kernel_rfl)) (fun _ _ _ h => h) (Or.inl ⟨by rfl, ?_⟩) ?_ ?_
       rotate_left
       ·intro w'
        go_simp
        with_reducible rfl
       rotate_left
       ·simp only [Act.put, sl0, sl1, sl2, i64_w, i32_w]
        rfl
       refine pure_ (i := 4) (N := some 106) (v := ?_) (a' := ?_) #[Y,Y,Z,Z,Y,Z,Z,Z] rfl rfl (any_of HT_.out (by kernel_rfl)) (fun _ _ _ h => h) (Or.inl ⟨by rfl, ?_⟩) ?_ ?_
       rotate_left
       ·intro w'
        go_simp
        with_reducible rfl
       rotate_left
       ·simp only [Act.put, sl0, sl1, sl2, i64_w, i32_w]
        rfl
       refine take_ (i := 2) (N := some 104) (v := ?_) (a' := ?_) #[Y,Y,Y,Z,Y,Z,Z,Z] rfl rfl (take_ofW HT_.out HW_.out (by kernel_rfl)) (fun _ _ _ h => h) (Or.inl ⟨by rfl, ?_⟩) hHeld ?_ ?_
       rotate_left
       ·intro w' s0
        go_simp
        with_reducible rfl
       rotate_left
       ·simp only [Act.put, sl0, sl1, sl2, i64_w, i32_w]
        rfl
       refine pure_ (i := 3) (N := some 105) (v := ?_) (a' := ?_) (fl_ 5 3) rfl rfl (any_of HT_.out (by kernel_rfl)) (fun _ _ _ h => h) (Or.inl ⟨by rfl, ?_⟩) ?_ ?_
       rotate_left
       ·intro w'
        go_simp
        with_reducible rfl
       rotate_left
       ·simp only [Act.put, sl0, sl1, sl2, i64_w, i32_w]
        rfl
       refine one_ (i := 5) (N := some 107) (fl_ 6 2) rfl rfl (one_of HT_.out (by kernel_rfl)) (by decide) (fun K hK => ?_)
       refine goes_ Try.func18 (by kernel_rfl) rfl #[.int .i64 a5, .int .i64 3] (by rfl) rfl rfl (by (try simp only [List.map_toArray, List.map_cons, List.map_nil]); first | done | rfl | (simp only [List.length_drop, List.length_take]; rfl)) ?_
       with_reducible refine (hypercubelaw9_within.calls a5 3 t165 _ A58.out).mono ?_
       rintro e w72 ⟨rfl, hb⟩
       have HS0_ := (hb.cell (World.block_lt_of_cell? _ _ (hHeld))).trans (hHeld)
       refine ⟨_, rfl, ?_⟩
       have n0_ := Aside0.mk (Kd.S_below (by (with_reducible repeat (first | apply Kd.S_alloc | apply Kd.S_drewN | apply Kd.S_drew)); exact HO_14.out) hb)
       have n1_ := Aside0.mk (Kd.R_below (by (with_reducible repeat (first | apply Kd.R_alloc | apply Kd.R_drewN | apply Kd.R_drew)); exact HL164_0.out) hb)
       have n2_ := Aside0.mk (Kd.C_below (by repeat (first | (with_reducible exact HR164_0.out) | (with_reducible refine Kd.C_alloc ?_ _) | (with_reducible refine Kd.C_drewN ?_ _) | (with_reducible refine Kd.C_drew ?_) | exact HR164_0.out)) hb)
       have n3_ := Aside0.mk (pw_cell_below hb HX164_0.out)
       have n4_ := Aside0.mk (below_step (by repeat (first | (with_reducible first | exact HB.out | apply below_alloc | apply pw_below_drewN | apply below_drew1) | exact HB.out)) hb)
       clear HO_14
       clear HL164_0
       clear HR164_0
       clear HX164_0
       clear HB
       have HO_14 := n0_
       have HL164_0 := n1_
       have HR164_0 := n2_
       have HX164_0 := n3_
       have HB := n4_
       clear n0_ n1_ n2_ n3_ n4_
       (try clear hb)
       (try clear hb2)
       (try clear hk)
       (try clear hi)
       refine hK.out _ _ (HS0_) (fun hHeld => ?_)
       clear hK K
       refine norm_ (a' := ?_) ?_ ?_
       rotate_left
       ·show Act.put _ (some 107) _ = _
        simp only [Act.put, sl0, sl1, sl2, i64_w, i32_w]
        rfl
       refine pure_ (i := 6) (N := some 108) (v := ?_) (a' := ?_) (fl_ 7 1) rfl rfl (any_of HT_.out (by kernel_rfl)) (fun _ _ _ h => h) (Or.inl ⟨by rfl, ?_⟩) ?_ ?_
       rotate_left
       ·intro w'
        go_simp
        with_reducible rfl
       rotate_left
       ·simp only [Act.put, sl0, sl1, sl2, i64_w, i32_w]
        rfl
       refine pure_ (i := 7) (N := some 109) (v := ?_) (a' := ?_) (fl_ 8 0) rfl rfl (any_of HT_.out (by kernel_rfl)) (fun _ _ _ h => h) (Or.inl ⟨by rfl, ?_⟩) ?_ ?_
       rotate_left
       ·intro w'
        go_simp
        with_reducible rfl
       rotate_left
       ·simp only [Act.put, sl0, sl1, sl2, i64_w, i32_w]
        rfl
       refine done_ (done_of HT_.out (by kernel_rfl)) ?_
       try go_wp2
       (try simp only [← hl14_2])
       go_meet
       case rel => exact ⟨_, (x14_2), H', ⟨by have := HK1.out; have := HK2.out; first | omega | exact Nat.le_refl _⟩, ⟨by (try simp only [hl14_2]); refine Kd.S_R ?_; (with_reducible repeat (first | apply Kd.S_alloc | apply Kd.S_drewN | apply Kd.S_drew)); exact HO_14.out⟩, ⟨by repeat (first | (with_reducible first | exact HB.out | apply below_alloc | apply pw_below_drewN | apply below_drew1) | exact HB.out)⟩⟩
      rw [if_pos c59] at H
      have c59b0 : decide (((rd_L1 x14_2 0).length : Int) < (wrap64 (11 + t165))) = true := decide_eq_true c59
      clear c59
      have H' := Aside0.mk H
      clear H
      try go_wp2
      have n0_ := Aside0.mk (Kd.S_drew HO_14.out)
      have n1_ := Aside0.mk (below_drew1 HB.out)
      clear HO_14
      clear HB
      have HO_14 := n0_
      have HB := n1_
      clear n0_ n1_
      have p164 : 0 ≤ (0 : Int) := (by omega)
      have q164 : 0 < (x14_2.length : Int) := od_
      obtain ⟨ad164, A164_0, c164_0, e164, hx164_0, hl164_0, hi164_0⟩ := at_L1 (Kd.S_reads' HO_14.out).2.2 0 p164 q164
      cases e164
      obtain ⟨ce164, hce164, hMe164, hcc164⟩ := Kd.S_get HO_14.out [] 0 p164 (by first | exact q164 | exact of_decide_eq_true (by first | (with_reducible assumption) | assumption) | (have e_ := (Kd.S_reads' HO_14.out).1; omega))
      obtain ⟨ve164_0, rfl, ge164_0⟩ := hMe164
      have hv164_0 := hcc164 0 _ rfl
      rw [Nat.add_zero, show ((Kd.slice 3 (Kd.int .i64))).sz = 1 from rfl, Nat.mul_one] at hv164_0
      replace hv164_0 := Option.some.inj (hv164_0.symm.trans hx164_0)
      rw [hv164_0] at ge164_0
      have HL164_0 := Aside0.mk (show Kd.R (Kd.int .i64) 3 _ _ _ _ (rd_L1 x14_2 0) from ge164_0)
      clear hv164_0 ge164_0
      have HX164_0 := Aside0.mk hx164_0
      clear hcc164 hce164
      have qi164 : (0 < x14_2.length) = True := eq_true (by omega)
      (try rw [show ((0 : Int)).toNat = 0 from rfl] at hx164_0)
      (try rw [Addr.add_zero'] at hx164_0)
      have HR164_0 := Aside0.mk hi164_0
      have HC164_0 := Aside0.mk hl164_0
      clear hi164_0 hl164_0
      replace p164 := eq_true p164
      replace q164 := eq_true q164
      refine start_ (n := 8) (S := fun w' => w'.cell? ad164 = some (.slice A164_0 (rd_L1 x14_2 0).length c164_0)) (ds := []) (fl_ 0 8) (by kernel_rfl) rfl rfl (hx164_0) (fun hHeld => ?_); refine with_tabW hypercubelaw9_MatchErrs.tab20 hypercubelaw9_MatchErrs.bits20 (fun HT_ HW_ => ?_)
      generalize wr.drew = w60 at HO_14 HB HL164_0 HR164_0 HX164_0 hx164_0 hHeld ⊢
      refine pure_ (i := 0) (N := some 102) (v := ?_) (a' := ?_) (fl_ 1 7) rfl rfl (any_of HT_.out (by kernel_rfl)) (fun _ _ _ h => h) (Or.inl ⟨by rfl, ?_⟩) ?_ ?_
      rotate_left
      ·intro w'
       go_simp
       with_reducible rfl
      rotate_left
      ·simp only [Act.put, sl0, sl1, sl2, i64_w, i32_w]
       rfl
      refine pure_ (i := 1) (N := some 103) (v := ?_) (a' := ?_) (fl_ 2 6) rfl rfl (any_of HT_.out (by kernel_rfl)) (fun _ _ _ h => h) (Or.inl ⟨by rfl, ?_⟩) ?_ ?_
      rotate_left
      ·intro w'
       go_simp
       with_reducible rfl
      rotate_left
      ·simp only [Act.put, sl0, sl1, sl2, i64_w, i32_w]
       rfl
      refine pure_ (i := 4) (N := some 106) (v := ?_) (a' := ?_) #[Y,Y,Z,Z,Y,Z,Z,Z] rfl rfl (any_of HT_.out (by kernel_rfl)) (fun _ _ _ h => h) (Or.inl ⟨by rfl, ?_⟩) ?_ ?_
      rotate_left
      ·intro w'
       go_simp
       with_reducible rfl
      rotate_left
      ·simp only [Act.put, sl0, sl1, sl2, i64_w, i32_w]
       rfl
      refine take_ (i := 2) (N := some 104) (v := ?_) (a' := ?_) #[Y,Y,Y,Z,Y,Z,Z,Z] rfl rfl (take_ofW HT_.out HW_.out (by kernel_rfl)) (fun _ _ _ h => h) (Or.inl ⟨by rfl, ?_⟩) hHeld ?_ ?_
      rotate_left
      ·intro w' s0
       go_simp
       with_reducible rfl
      rotate_left
      ·simp only [Act.put, sl0, sl1, sl2, i64_w, i32_w]
       rfl
      refine pure_ (i := 3) (N := some 105) (v := ?_) (a' := ?_) (fl_ 5 3) rfl rfl (any_of HT_.out (by kernel_rfl)) (fun _ _ _ h => h) (Or.inl ⟨by rfl, ?_⟩) ?_ ?_
      rotate_left
      ·intro w'
       go_simp
       with_reducible rfl
      rotate_left
      ·simp only [Act.put, sl0, sl1, sl2, i64_w, i32_w]
       rfl
      refine one_ (i := 5) (N := some 107) (fl_ 6 2) rfl rfl (one_of HT_.out (by kernel_rfl)) (by decide) (fun K hK => ?_)
      refine goes_ Try.func18 (by kernel_rfl) rfl #[.int .i64 a5, .int .i64 3] (by rfl) rfl rfl (by (try simp only [List.map_toArray, List.map_cons, List.map_nil]); first | done | rfl | (simp only [List.length_drop, List.length_take]; rfl)) ?_
      with_reducible refine (hypercubelaw9_within.calls a5 3 t165 _ A58.out).mono ?_
      rintro e w61 ⟨rfl, hb⟩
      have HS0_ := (hb.cell (World.block_lt_of_cell? _ _ (hHeld))).trans (hHeld)
      refine ⟨_, rfl, ?_⟩
      have n0_ := Aside0.mk (Kd.S_below (by (with_reducible repeat (first | apply Kd.S_alloc | apply Kd.S_drewN | apply Kd.S_drew)); exact HO_14.out) hb)
      have n1_ := Aside0.mk (Kd.R_below (by (with_reducible repeat (first | apply Kd.R_alloc | apply Kd.R_drewN | apply Kd.R_drew)); exact HL164_0.out) hb)
      have n2_ := Aside0.mk (Kd.C_below (by repeat (first | (with_reducible exact HR164_0.out) | (with_reducible refine Kd.C_alloc ?_ _) | (with_reducible refine Kd.C_drewN ?_ _) | (with_reducible refine Kd.C_drew ?_) | exact HR164_0.out)) hb)
      have n3_ := Aside0.mk (pw_cell_below hb HX164_0.out)
      have n4_ := Aside0.mk (below_step (by repeat (first | (with_reducible first | exact HB.out | apply below_alloc | apply pw_below_drewN | apply below_drew1) | exact HB.out)) hb)
      clear HO_14
      clear HL164_0
      clear HR164_0
      clear HX164_0
      clear HB
      have HO_14 := n0_
      have HL164_0 := n1_
      have HR164_0 := n2_
      have HX164_0 := n3_
      have HB := n4_
      clear n0_ n1_ n2_ n3_ n4_
      (try clear hb)
      (try clear hb2)
      (try clear hk)
      (try clear hi)
      refine hK.out _ _ (HS0_) (fun hHeld => ?_)
      clear hK K
      refine norm_ (a' := ?_) ?_ ?_
      rotate_left
      ·show Act.put _ (some 107) _ = _
       simp only [Act.put, sl0, sl1, sl2, i64_w, i32_w]
       rfl
      refine pure_ (i := 6) (N := some 108) (v := ?_) (a' := ?_) (fl_ 7 1) rfl rfl (any_of HT_.out (by kernel_rfl)) (fun _ _ _ h => h) (Or.inl ⟨by rfl, ?_⟩) ?_ ?_
      rotate_left
      ·intro w'
       go_simp
       with_reducible rfl
      rotate_left
      ·simp only [Act.put, sl0, sl1, sl2, i64_w, i32_w]
       rfl
      refine pure_ (i := 7) (N := some 109) (v := ?_) (a' := ?_) (fl_ 8 0) rfl rfl (any_of HT_.out (by kernel_rfl)) (fun _ _ _ h => h) (Or.inl ⟨by rfl, ?_⟩) ?_ ?_
      rotate_left
      ·intro w'
       go_simp
       with_reducible rfl
      rotate_left
      ·simp only [Act.put, sl0, sl1, sl2, i64_w, i32_w]
       rfl
      refine done_ (done_of HT_.out (by kernel_rfl)) ?_
      try go_wp2
      go_loopg [15] k2 (fun kq v15 w' => ∃ (x14_3 : List (List Int)) (x15_3 : Int), v15 = .int .i64 x15_3 ∧ Aside0 (hypercubelaw9_MatchErrs.l2 kq l0 a5 x14_3 x15_3 = some r) ∧ Aside0 (kq ≤ k2) ∧ Aside0 (Kd.S (Kd.slice 3 (Kd.int .i64)) 22 w' w.heap.size (fun _ => True) (.slice (some ad164) x14_2.length co20) x14_3) ∧ Aside0 (Below w.heap.size w w'))
      case atStart => exact ⟨(x14_2), (0), (by first | rfl | (simp; done) | (simp [*]; done)), H', ⟨Nat.le_refl _⟩, ⟨by (try simp only [hl14_2]); (with_reducible repeat (first | apply Kd.S_alloc | apply Kd.S_drewN | apply Kd.S_drew)); exact HO_14.out⟩, ⟨by repeat (first | (with_reducible first | exact HB.out | apply below_alloc | apply pw_below_drewN | apply below_drew1) | exact HB.out)⟩⟩
      case round =>
       clear H'
       try clear c1
       try clear p1
       try clear q1
       try clear hx1
       try clear qi1
       try clear c2
       try clear p2
       try clear q2
       try clear c3
       try clear hx3
       try clear c4
       try clear p4
       try clear q4
       try clear hx4
       try clear qi4
       try clear c5
       try clear q5
       try clear p6
       try clear c8
       try clear c9
       try clear c9b0
       try clear c9b1
       try clear c12
       try clear c12b0
       try clear c13
       try clear c13b0
       try clear c14
       try clear c14b0
       try clear c14b1
       try clear p14
       try clear q14
       try clear hx14
       try clear c15
       try clear p15
       try clear q15
       try clear hx15
       try clear qi15
       try clear c16
       try clear p16
       try clear q16
       try clear hx16
       try clear qi16
       try clear c18
       try clear c21
       try clear c21b0
       try clear c21b1
       try clear c23
       try clear c23b0
       try clear c23b1
       try clear c24
       try clear c24b0
       try clear c24b1
       try clear c25
       try clear p26
       try clear q26
       try clear c28
       try clear c30
       try clear hx30
       try clear hf30
       try clear c33
       try clear c33b0
       try clear c33b1
       try clear c35
       try clear c35b0
       try clear c36
       try clear c36b0
       try clear c38
       try clear c38b0
       try clear c39
       try clear c39b0
       try clear c40
       try clear c40b0
       try clear c40b1
       try clear p41
       try clear q41
       try clear hx41
       try clear qi41
       try clear hf41
       try clear c50
       try clear q50
       try clear c52
       try clear c52b0
       try clear c52b1
       try clear c55
       try clear c55b0
       try clear c55b1
       try clear c57
       try clear c57b0
       try clear c57b1
       try clear c59
       try clear c59b0
       try clear hx144_0
       try clear hx150_0
       try clear hx155_0
       try clear hx160_0
       try clear hx164_0
       try clear hx30_0
       try clear hx41_0
       try clear p1
       try clear p14
       try clear p144
       try clear p15
       try clear p150
       try clear p155
       try clear p16
       try clear p160
       try clear p164
       try clear p2
       try clear p26
       try clear p4
       try clear p41
       try clear p6
       try clear q1
       try clear q14
       try clear q144
       try clear q15
       try clear q150
       try clear q155
       try clear q16
       try clear q160
       try clear q164
       try clear q2
       try clear q26
       try clear q4
       try clear q41
       try clear q5
       try clear q50
       obtain ⟨x14_3, x15_3, rfl, HA, HK3, HO_14, HB⟩ := hrel
       have hl14_3 := (Kd.S_reads' HO_14.out).1
       rw [hl14_3] at HO_14
       (try simp only [hl14_3])
       cases gk with
       | zero => exact absurd HA.out (by simp [hypercubelaw9_MatchErrs.l2])
       | succ k3 =>
        have H := HA.out
        clear HA
        simp only [hypercubelaw9_MatchErrs.l2] at H
        by_cases c62 : x15_3 < (x14_3.length : Int)
        rotate_left
        ·rw [if_neg c62] at H
         have c62b0 : decide (x15_3 < (x14_3.length : Int)) = false := decide_eq_false c62
         clear c62
         have H' := Aside0.mk H
         clear H
         go_wp2
         (try simp only [← hl14_2, ← hl14_3])
         go_roundg k3
         case measure => have := HK1.out; have := HK2.out; have := HK3.out; omega
         case rel => exact ⟨(x14_3), H', ⟨by have := HK1.out; have := HK2.out; have := HK3.out; omega⟩, ⟨by (try simp only [hl14_2]); (try simp only [hl14_3]); (with_reducible repeat (first | apply Kd.S_alloc | apply Kd.S_drewN | apply Kd.S_drew)); exact HO_14.out⟩, ⟨by repeat (first | (with_reducible first | exact HB.out | apply below_alloc | apply pw_below_drewN | apply below_drew1) | exact HB.out)⟩⟩
        rw [if_pos c62] at H
        have c62b0 : decide (x15_3 < (x14_3.length : Int)) = true := decide_eq_true c62
        clear c62
        by_cases c63 : 0 ≤ x15_3
        rotate_left
        ·rw [if_neg c63] at H
         exact absurd H (by simp)
        rw [if_pos c63] at H
        have c63b0 : decide (0 ≤ x15_3) = true := decide_eq_true c63
        clear c63
        by_cases c64 : (rd_L1 x14_3 x15_3).length < 17592186044416
        rotate_left
        ·rw [if_neg c64] at H
         exact absurd H (by simp)
        rw [if_pos c64] at H
        have LMc64 := Aside0.mk c64
        clear c64
        obtain ⟨y167, hy167⟩ : ∃ y_ : List Int, y_ = ((rd_L1 x14_3 x15_3) ++ [4]) := ⟨_, rfl⟩
        replace H : (hypercubelaw9_MatchErrs.l2 k3 l0 a5 (x14_3.set (x15_3 : Int).toNat y167) (wrap64 (x15_3 + 1))) = some r := by first | (rw [hy167]; with_reducible exact H) | (have H2_ := (Option.bind_some _ _).symm.trans H; rw [hy167]; with_reducible exact H2_) | (have H2_ := (Option.bind_some _ _).symm.trans H; with_reducible exact H2_) | with_reducible exact H | (rw [hy167]; exact H) | exact H
        have Ny167 := Aside0.mk hy167
        clear hy167
        obtain ⟨y170, hy170⟩ : ∃ y_ : List (List Int), y_ = (x14_3.set (x15_3 : Int).toNat y167) := ⟨_, rfl⟩
        replace H : (hypercubelaw9_MatchErrs.l2 k3 l0 a5 y170 (wrap64 (x15_3 + 1))) = some r := by first | (rw [hy170]; with_reducible exact H) | (have H2_ := (Option.bind_some _ _).symm.trans H; rw [hy170]; with_reducible exact H2_) | (have H2_ := (Option.bind_some _ _).symm.trans H; with_reducible exact H2_) | with_reducible exact H | (rw [hy170]; exact H) | exact H
        have Ny170 := Aside0.mk hy170
        clear hy170
        have H' := Aside0.mk H
        clear H
        have p166 : 0 ≤ (x15_3 : Int) := od_
        have q166 : x15_3 < (x14_3.length : Int) := od_
        obtain ⟨ad166, A166_0, c166_0, e166, hx166_0, hl166_0, hi166_0⟩ := at_L1 (Kd.S_reads' HO_14.out).2.2 x15_3 p166 q166
        obtain rfl : ad164 = ad166 := (by injection e166)
        obtain ⟨ce166, hce166, hMe166, hcc166⟩ := Kd.S_get HO_14.out [] x15_3 p166 (by first | exact q166 | exact of_decide_eq_true (by first | (with_reducible assumption) | assumption) | (have e_ := (Kd.S_reads' HO_14.out).1; omega))
        obtain ⟨ve166_0, rfl, ge166_0⟩ := hMe166
        have hv166_0 := hcc166 0 _ rfl
        rw [Nat.add_zero, show ((Kd.slice 3 (Kd.int .i64))).sz = 1 from rfl, Nat.mul_one] at hv166_0
        replace hv166_0 := Option.some.inj (hv166_0.symm.trans hx166_0)
        rw [hv166_0] at ge166_0
        have HL166_0 := Aside0.mk (show Kd.R (Kd.int .i64) 3 _ _ _ _ (rd_L1 x14_3 x15_3) from ge166_0)
        clear hv166_0 ge166_0
        have HX166_0 := Aside0.mk hx166_0
        clear hcc166 hce166
        have HR166_0 := Aside0.mk hi166_0
        have HC166_0 := Aside0.mk hl166_0
        clear hi166_0 hl166_0
        replace p166 := eq_true p166
        replace q166 := eq_true q166
        obtain ⟨go66, co66, eo66, gb66, gl66, cl66, HG66⟩ := Kd.S_form HO_14.out (by have h_ : (x15_3 : Int) < ((x14_3.length : Int) : Int) := of_decide_eq_true (by first | (with_reducible assumption) | assumption); have h2_ : 0 ≤ (x15_3 : Int) := (of_decide_eq_true (by first | (with_reducible assumption) | assumption)); omega)
        (first | cases eo66 | (injection eo66 with ea_ en_ ec_; (first | subst ea_ | (injection ea_ with ea_; subst ea_)); subst ec_; clear en_))
        have GB66 := Aside0.mk gb66
        have GG66 := Aside0.mk HG66
        clear gb66 gl66 HG66
        (first | simp only [add_plain] at hx164_0 | skip)
        (first | simp only [add_plain] at hx166_0 | skip)
        obtain ⟨oki66, ce66, hcl66, hM66, hcc66, _, _, hH66⟩ := Kd.S_elem HO_14.out [] (x15_3 : Int) (of_decide_eq_true (by first | (with_reducible assumption) | assumption)) (by have h_ : (x15_3 : Int) < ((x14_3.length : Int) : Int) := of_decide_eq_true (by first | (with_reducible assumption) | assumption); first | exact h_ | (have e_ := (Kd.S_reads' HO_14.out).1; omega) | simpa using h_)
        obtain ⟨ve66_0, rfl, ge66_0⟩ := hM66
        have hv66 := hcc66 0 _ rfl
        have hX66 := HX166_0.out
        (try simp only [add_plain] at hX66)
        (try simp only [Nat.add_zero] at hv66)
        (try rw [show ((Kd.slice 3 (Kd.int .i64))).sz = 1 from rfl, Nat.mul_one] at hv66)
        replace hv66 := Option.some.inj (hv66.symm.trans hX66)
        subst hv66
        clear hX66 hcc66 hcl66
        have UU66 := Aside0.mk (show Kd.R (Kd.int .i64) 3 _ w.heap.size oki66 (.slice A166_0 (rd_L1 x14_3 x15_3).length c166_0) (rd_L1 x14_3 x15_3) from ge66_0)
        have HH66 := Aside0.mk hH66
        have HN66 := Aside0.mk (Kd.S_reads' HO_14.out).1
        clear hH66 ge66_0
        go_wp2_with (first | ((with_reducible refine gate_builtin (b := .append) (xs := #[.tmp 121, .tmp 122]) rfl ?_); at_builtin; refine Kd.R_append (Kd.int .i64) (w0 := w) w.heap.size rfl (.tmp 121) (.tmp 122) 22 3 (.int .i64 0) 8 rfl Try.underlying22 info3 rfl (by decide) (by omega) (.slice A166_0 (rd_L1 x14_3 x15_3).length c166_0) (rd_L1 x14_3 x15_3) 4 [.int .i64 4] (fun k_ => oki66 k_ ∨ ((fun _ => True)) k_ ∧ wr.heap.size ≤ k_) (fun _ => False) rfl rfl ?aP (fun _ hk => hk.elim) ?aF ?aO ?aB ?aS ?aL ?_; (case aP => exact rfl); (case aB => exact (by repeat (first | (with_reducible first | exact HB.out | apply below_alloc | apply pw_below_drewN | apply below_drew1) | exact HB.out))); (case aF => exact (fun k_ hk => .inr ⟨trivial, hk⟩)); (case aO => exact (by (with_reducible repeat (first | apply Kd.R_alloc | apply Kd.R_drewN | apply Kd.R_drew)); exact Kd.R_mono UU66.out (fun _ hk => .inl hk))); (case aS => exact (below_size (by repeat (first | (with_reducible first | exact HB.out | apply below_alloc | apply pw_below_drewN | apply below_drew1) | exact HB.out)))); (case aL => have := LMc64.out; omega); intro v168 w67 ho hb hg hat; rw [← Ny167.out] at ho; have n0_ := Aside0.mk (hb); have n1_ := Aside0.mk (Kd.H_grown (Kd.H_widen (by repeat (first | exact HH66.out | refine Kd.H_alloc ?_ _ | refine Kd.H_drewN ?_ _ | refine Kd.H_drew ?_))) hg (fun k_ e_ => .inl (UU66.out.1 k_ e_))); have n2_ := Aside0.mk (ho); clear HB; clear HH66; clear HO_14; clear UU66; clear HL166_0; have HB := n0_; have HH66 := n1_; have HO169 := n2_; clear n0_ n1_ n2_; clear ho hb hg hat; have p65 : 0 ≤ (x15_3 : Int) := of_decide_eq_true (by first | (with_reducible assumption) | assumption); have q65 : (x15_3 : Int) < ((x14_3.length : Int) : Int) := of_decide_eq_true (by first | (with_reducible assumption) | assumption); replace p65 := eq_true p65; replace q65 := eq_true q65; obtain ⟨Ao70, co70, eo70⟩ := Kd.R_slice HO169.out; subst eo70; obtain ⟨_, _, hraw68, _, _, hcc68, _⟩ := Kd.H_raw HH66.out (of_decide_eq_true (by first | (with_reducible assumption) | assumption)) (by have h_ : (x15_3 : Int) < ((x14_3.length : Int) : Int) := of_decide_eq_true (by first | (with_reducible assumption) | assumption); first | exact h_ | (have e_ := (HN66.out); omega) | simpa using h_); obtain ⟨_, hfr68⟩ := Kd.H_at HH66.out (of_decide_eq_true (by first | (with_reducible assumption) | assumption)) (by have h_ : (x15_3 : Int) < ((x14_3.length : Int) : Int) := of_decide_eq_true (by first | (with_reducible assumption) | assumption); first | exact h_ | (have e_ := (HN66.out); omega) | simpa using h_); have hx68_0 := hcc68 0 _ rfl; have hf68_0 := hfr68 0; (try simp only [Nat.add_zero] at hx68_0 hf68_0); (try rw [show ((Kd.slice 3 (Kd.int .i64))).sz = 1 from rfl, Nat.mul_one] at hx68_0); (try rw [show ((Kd.slice 3 (Kd.int .i64))).sz = 1 from rfl, Nat.mul_one] at hf68_0); have HP68 := Kd.S_seg0 HH66.out (of_decide_eq_true (by first | (with_reducible assumption) | assumption)) (by have h_ : (x15_3 : Int) < ((x14_3.length : Int) : Int) := of_decide_eq_true (by first | (with_reducible assumption) | assumption); first | exact h_ | (have e_ := (HN66.out); omega) | simpa using h_) (seg := [.slice Ao70 y167.length co70]) (j := 0) (show 1 ≤ 1 from by decide) (x' := y167) (Kd.M_row HO169.out) (fun _ hk => hk); (try simp only [show ((Kd.slice 3 (Kd.int .i64))).sz = 1 from rfl, Nat.mul_one, Nat.add_zero] at HP68); clear hcc68 hfr68) | ((with_reducible refine gate_store (t := 22) (p := 124) rfl ?_); refine store_event (t := 22) (p := 124) (v := ?vo_w69) (w1 := (w67.setCell ⟨go66, (x15_3 : Int).toNat, none⟩ (.slice Ao70 y167.length co70))) ?hg ?ho ?hn ?hr ?_; (case ho => rfl); (case hg => rfl); (case hn => rfl); (case hr => first | (go_simp; done) | (go_simp; rfl)); intro w69 hw; have hg : w67.grownBy w69 (some go66) := (by rw [hw]; exact HP68.2); have hp_ : Kd.S (Kd.slice 3 (Kd.int .i64)) 22 w69 w.heap.size (fun _ => True) (.slice (some ⟨go66, 0, none⟩) x14_3.length co20) y170 := (by rw [hw, Ny170.out]; exact HP68.1); clear HP68; have n0_ := Aside0.mk ((by rw [hw]; exact below_set HB.out GB66.out : Below w.heap.size w w69)); have n1_ := Aside0.mk (hp_); clear HB; clear HO169; clear HH66; have HB := n0_; have HO_14 := n1_; clear n0_ n1_; clear hg hw hp_ hraw68))
        (try simp only [← hl14_3])
        go_roundg k3
        case measure => have := HK1.out; have := HK2.out; have := HK3.out; omega
        case rel => exact ⟨(y170), (wrap64 (x15_3 + 1)), (by first | rfl | (simp; done) | (simp [*]; done)), H', ⟨by have := HK1.out; have := HK2.out; have := HK3.out; omega⟩, ⟨by (try simp only [hl14_2]); (try simp only [hl14_3]); (with_reducible repeat (first | apply Kd.S_alloc | apply Kd.S_drewN | apply Kd.S_drew)); exact HO_14.out⟩, ⟨by repeat (first | (with_reducible first | exact HB.out | apply below_alloc | apply pw_below_drewN | apply below_drew1) | exact HB.out)⟩⟩
   case rest =>
    clear HC17
    try clear c1
    try clear p1
    try clear q1
    try clear hx1
    try clear qi1
    try clear c2
    try clear p2
    try clear q2
    try clear c3
    try clear hx3
    try clear c4
    try clear p4
    try clear q4
    try clear hx4
    try clear qi4
    try clear c5
    try clear q5
    try clear c6
    try clear p6
    try clear q6
    try clear hx6
    try clear hf6
    try clear c8
    try clear c9
    try clear c9b0
    try clear c9b1
    try clear c12
    try clear c12b0
    try clear c13
    try clear c13b0
    try clear c14
    try clear c14b0
    try clear c14b1
    try clear p14
    try clear q14
    try clear hx14
    try clear c15
    try clear p15
    try clear q15
    try clear hx15
    try clear qi15
    try clear c16
    try clear p16
    try clear q16
    try clear hx16
    try clear qi16
    try clear c18
    try clear c21
    try clear c21b0
    try clear c21b1
    try clear c23
    try clear c23b0
    try clear c23b1
    try clear c24
    try clear c24b0
    try clear c24b1
    try clear c25
    try clear p26
    try clear q26
    try clear c28
    try clear c30
    try clear hx30
    try clear hf30
    try clear c33
    try clear c33b0
    try clear c33b1
    try clear c35
    try clear c35b0
    try clear c36
    try clear c36b0
    try clear c38
    try clear c38b0
    try clear c39
    try clear c39b0
    try clear c40
    try clear c40b0
    try clear c40b1
    try clear p41
    try clear q41
    try clear hx41
    try clear qi41
    try clear hf41
    try clear c50
    try clear q50
    try clear c52
    try clear c52b0
    try clear c52b1
    try clear c55
    try clear c55b0
    try clear c55b1
    try clear c57
    try clear c57b0
    try clear c57b1
    try clear c59
    try clear c59b0
    try clear c62
    try clear c62b0
    try clear c63
    try clear c63b0
    try clear c64
    try clear p64
    try clear p65
    try clear q65
    try clear c66
    try clear c68
    try clear hx68
    try clear hf68
    try clear hx144_0
    try clear hx150_0
    try clear hx155_0
    try clear hx160_0
    try clear hx164_0
    try clear hx166_0
    try clear hx30_0
    try clear hx41_0
    try clear hx68_0
    try clear p1
    try clear p14
    try clear p144
    try clear p15
    try clear p150
    try clear p155
    try clear p16
    try clear p160
    try clear p164
    try clear p166
    try clear p2
    try clear p26
    try clear p4
    try clear p41
    try clear p6
    try clear p65
    try clear q1
    try clear q14
    try clear q144
    try clear q15
    try clear q150
    try clear q155
    try clear q16
    try clear q160
    try clear q164
    try clear q166
    try clear q2
    try clear q26
    try clear q4
    try clear q41
    try clear q5
    try clear q50
    try clear q65
    obtain ⟨kq, x14_16, HA, HJ16, HO_14, HB⟩ := hcut
    cases kq with
    | zero => exact absurd HA.out (by simp [hypercubelaw9_MatchErrs.j3])
    | succ kj16 =>
     have H := HA.out
     clear HA
     simp only [hypercubelaw9_MatchErrs.j3] at H
     replace H := Option.bind_eq_some_iff.mp H
     obtain ⟨⟨t171, t172, t173⟩, A740, H⟩ := H
     replace H : ((hypercuberef9_Assign.f x14_16).bind fun bt176 => ((match_Assign.f l0).bind fun bt181 => ((hypercuberef9_Assign.f l0).bind fun bt186 => (if (t173 == bt176.2.2) = true then (if t172 = bt176.2.1 then ((hypercuberef1_Ints.f t171 bt176.1).bind fun t191 => (if t191 = true then (if (bt181.2.2 == bt186.2.2) = true then (if bt181.2.1 = bt186.2.1 then ((hypercuberef1_Ints.f bt181.1 bt186.1).bind fun t192 => (some t192)) else (some false)) else (some false)) else (some false))) else (some false)) else (some false))))) = some r := H
     have A74 := Aside0.mk A740
     clear A740
     replace H := Option.bind_eq_some_iff.mp H
     obtain ⟨⟨t176, t177, t178⟩, A750, H⟩ := H
     replace H : ((match_Assign.f l0).bind fun bt181 => ((hypercuberef9_Assign.f l0).bind fun bt186 => (if (t173 == t178) = true then (if t172 = t177 then ((hypercuberef1_Ints.f t171 t176).bind fun t191 => (if t191 = true then (if (bt181.2.2 == bt186.2.2) = true then (if bt181.2.1 = bt186.2.1 then ((hypercuberef1_Ints.f bt181.1 bt186.1).bind fun t192 => (some t192)) else (some false)) else (some false)) else (some false))) else (some false)) else (some false)))) = some r := H
     have A75 := Aside0.mk A750
     clear A750
     replace H := Option.bind_eq_some_iff.mp H
     obtain ⟨⟨t181, t182, t183⟩, A760, H⟩ := H
     replace H : ((hypercuberef9_Assign.f l0).bind fun bt186 => (if (t173 == t178) = true then (if t172 = t177 then ((hypercuberef1_Ints.f t171 t176).bind fun t191 => (if t191 = true then (if (t183 == bt186.2.2) = true then (if t182 = bt186.2.1 then ((hypercuberef1_Ints.f t181 bt186.1).bind fun t192 => (some t192)) else (some false)) else (some false)) else (some false))) else (some false)) else (some false))) = some r := H
     have A76 := Aside0.mk A760
     clear A760
     replace H := Option.bind_eq_some_iff.mp H
     obtain ⟨⟨t186, t187, t188⟩, A770, H⟩ := H
     replace H : (if (t173 == t178) = true then (if t172 = t177 then ((hypercuberef1_Ints.f t171 t176).bind fun t191 => (if t191 = true then (if (t183 == t188) = true then (if t182 = t187 then ((hypercuberef1_Ints.f t181 t186).bind fun t192 => (some t192)) else (some false)) else (some false)) else (some false))) else (some false)) else (some false)) = some r := H
     have A77 := Aside0.mk A770
     clear A770
     by_cases c78 : (t173 == t178) = true
     rotate_left
     ·rw [if_neg c78] at H
      have c78b0 : (t173 == t178) = false := by simpa using c78
      (try (have c78b1 : decide (t173 = t178) = false := by simpa using c78))
      (try (have c78b2 : (t173 == t178) = false := by simpa using c78))
      (try (have c78b3 : ¬ (t173 = t178) := by simpa using c78))
      clear c78
      obtain rfl := Option.some.inj H
      obtain ⟨Ao125, co125, eo125⟩ := Kd.R_slice HO_14.out
      subst eo125
      go_wp2_with (first | ((with_reducible refine gate_callee (f := 15) rfl ?_); refine goesL_ (some 127) rfl rfl Try.func15 (by kernel_rfl) rfl #[.slice Ao125 x14_16.length co125] rfl (by (try simp only [List.map_toArray, List.map_cons, List.map_nil]); first | done | rfl | (simp only [List.length_drop, List.length_take]; rfl)) ?_; (with_reducible refine (match_Assign.calls _ _ x14_16 t171 t172 t173 _ ?side1 ?side2 A74.out).mono ?_); (case side1 => repeat (first | exact (Kd.R_reads' HO_14.out).2.2 | (with_reducible refine Kd.C_alloc ?_ _) | (with_reducible refine Kd.C_drewN ?_ _) | (with_reducible refine Kd.C_drew ?_))); (case side2 => exact (Kd.R_reads' HO_14.out).2.1); rintro e w126 ⟨v174, rfl, ho0, hb⟩; refine ⟨_, rfl, ?_⟩; have n0_ := Aside0.mk (Kd.R_elder' (by (with_reducible repeat (first | apply Kd.R_alloc | apply Kd.R_drewN | apply Kd.R_drew)); exact HO_14.out) (Kd.R_base ho0) hb); have n1_ := Aside0.mk (Kd.R_lower ho0 (below_size (by repeat (first | (with_reducible first | exact HB.out | apply below_alloc | apply pw_below_drewN | apply below_drew1) | exact HB.out)))); have n2_ := Aside0.mk (below_step (by repeat (first | (with_reducible first | exact HB.out | apply below_alloc | apply pw_below_drewN | apply below_drew1) | exact HB.out)) hb); clear HO_14; clear HB; have HO_14 := n0_; have HO175 := n1_; have HB := n2_; clear n0_ n1_ n2_; (try clear hb); (try clear hb2); (try clear hk); (try clear hi); (try clear ho0)) | ((with_reducible refine gate_callee (f := 16) rfl ?_); refine goesL_ (some 133) rfl rfl Try.func16 (by kernel_rfl) rfl #[.slice Ao125 x14_16.length co125] rfl (by (try simp only [List.map_toArray, List.map_cons, List.map_nil]); first | done | rfl | (simp only [List.length_drop, List.length_take]; rfl)) ?_; (with_reducible refine (hypercuberef9_Assign.calls _ _ x14_16 t176 t177 t178 _ ?side1 ?side2 A75.out).mono ?_); (case side1 => repeat (first | exact (Kd.R_reads' HO_14.out).2.2 | (with_reducible refine Kd.C_alloc ?_ _) | (with_reducible refine Kd.C_drewN ?_ _) | (with_reducible refine Kd.C_drew ?_))); (case side2 => exact (Kd.R_reads' HO_14.out).2.1); rintro e w127 ⟨v179, rfl, ho0, hb⟩; refine ⟨_, rfl, ?_⟩; have n0_ := Aside0.mk (Kd.R_elder' (by (with_reducible repeat (first | apply Kd.R_alloc | apply Kd.R_drewN | apply Kd.R_drew)); exact HO_14.out) (Kd.R_base ho0) hb); have n1_ := Aside0.mk (Kd.R_elder' (by (with_reducible repeat (first | apply Kd.R_alloc | apply Kd.R_drewN | apply Kd.R_drew)); exact HO175.out) (Kd.R_base ho0) hb); have n2_ := Aside0.mk (Kd.R_lower (Kd.R_new' ho0 (Kd.R_lt (by (with_reducible repeat (first | apply Kd.R_alloc | apply Kd.R_drewN | apply Kd.R_drew)); exact HO175.out))) (below_size (by repeat (first | (with_reducible first | exact HB.out | apply below_alloc | apply pw_below_drewN | apply below_drew1) | exact HB.out)))); have n3_ := Aside0.mk (below_step (by repeat (first | (with_reducible first | exact HB.out | apply below_alloc | apply pw_below_drewN | apply below_drew1) | exact HB.out)) hb); clear HO_14; clear HO175; clear HB; have HO_14 := n0_; have HO175 := n1_; have HO180 := n2_; have HB := n3_; clear n0_ n1_ n2_ n3_; (try clear hb); (try clear hb2); (try clear hk); (try clear hi); (try clear ho0)) | ((with_reducible refine gate_callee (f := 15) rfl ?_); refine goesL_ (some 139) rfl rfl Try.func15 (by kernel_rfl) rfl #[.slice A0 l0.length c0] rfl (by (try simp only [List.map_toArray, List.map_cons, List.map_nil]); first | done | rfl | (simp only [List.length_drop, List.length_take]; rfl)) ?_; (with_reducible refine (match_Assign.calls _ _ l0 t181 t182 t183 _ ?side1 ?side2 A76.out).mono ?_); (case side1 => repeat (first | exact (Kd.C_below HR0.out HB.out) | (with_reducible refine Kd.C_alloc ?_ _) | (with_reducible refine Kd.C_drewN ?_ _) | (with_reducible refine Kd.C_drew ?_))); (case side2 => exact HC0.out); rintro e w128 ⟨v184, rfl, ho0, hb⟩; refine ⟨_, rfl, ?_⟩; have n0_ := Aside0.mk (Kd.R_elder' (by (with_reducible repeat (first | apply Kd.R_alloc | apply Kd.R_drewN | apply Kd.R_drew)); exact HO_14.out) (Kd.R_base ho0) hb); have n1_ := Aside0.mk (Kd.R_elder' (by (with_reducible repeat (first | apply Kd.R_alloc | apply Kd.R_drewN | apply Kd.R_drew)); exact HO175.out) (Kd.R_base ho0) hb); have n2_ := Aside0.mk (Kd.R_elder' (by (with_reducible repeat (first | apply Kd.R_alloc | apply Kd.R_drewN | apply Kd.R_drew)); exact HO180.out) (Kd.R_base ho0) hb); have n3_ := Aside0.mk (Kd.R_lower (Kd.R_new' (Kd.R_new' ho0 (Kd.R_lt (by (with_reducible repeat (first | apply Kd.R_alloc | apply Kd.R_drewN | apply Kd.R_drew)); exact HO175.out))) (Kd.R_lt (by (with_reducible repeat (first | apply Kd.R_alloc | apply Kd.R_drewN | apply Kd.R_drew)); exact HO180.out))) (below_size (by repeat (first | (with_reducible first | exact HB.out | apply below_alloc | apply pw_below_drewN | apply below_drew1) | exact HB.out)))); have n4_ := Aside0.mk (below_step (by repeat (first | (with_reducible first | exact HB.out | apply below_alloc | apply pw_below_drewN | apply below_drew1) | exact HB.out)) hb); clear HO_14; clear HO175; clear HO180; clear HB; have HO_14 := n0_; have HO175 := n1_; have HO180 := n2_; have HO185 := n3_; have HB := n4_; clear n0_ n1_ n2_ n3_ n4_; (try clear hb); (try clear hb2); (try clear hk); (try clear hi); (try clear ho0)) | ((with_reducible refine gate_callee (f := 16) rfl ?_); refine goesL_ (some 145) rfl rfl Try.func16 (by kernel_rfl) rfl #[.slice A0 l0.length c0] rfl (by (try simp only [List.map_toArray, List.map_cons, List.map_nil]); first | done | rfl | (simp only [List.length_drop, List.length_take]; rfl)) ?_; (with_reducible refine (hypercuberef9_Assign.calls _ _ l0 t186 t187 t188 _ ?side1 ?side2 A77.out).mono ?_); (case side1 => repeat (first | exact (Kd.C_below HR0.out HB.out) | (with_reducible refine Kd.C_alloc ?_ _) | (with_reducible refine Kd.C_drewN ?_ _) | (with_reducible refine Kd.C_drew ?_))); (case side2 => exact HC0.out); rintro e w129 ⟨v189, rfl, ho0, hb⟩; refine ⟨_, rfl, ?_⟩; have n0_ := Aside0.mk (Kd.R_elder' (by (with_reducible repeat (first | apply Kd.R_alloc | apply Kd.R_drewN | apply Kd.R_drew)); exact HO_14.out) (Kd.R_base ho0) hb); have n1_ := Aside0.mk (Kd.R_elder' (by (with_reducible repeat (first | apply Kd.R_alloc | apply Kd.R_drewN | apply Kd.R_drew)); exact HO175.out) (Kd.R_base ho0) hb); have n2_ := Aside0.mk (Kd.R_elder' (by (with_reducible repeat (first | apply Kd.R_alloc | apply Kd.R_drewN | apply Kd.R_drew)); exact HO180.out) (Kd.R_base ho0) hb); have n3_ := Aside0.mk (Kd.R_elder' (by (with_reducible repeat (first | apply Kd.R_alloc | apply Kd.R_drewN | apply Kd.R_drew)); exact HO185.out) (Kd.R_base ho0) hb); have n4_ := Aside0.mk (Kd.R_lower (Kd.R_new' (Kd.R_new' (Kd.R_new' ho0 (Kd.R_lt (by (with_reducible repeat (first | apply Kd.R_alloc | apply Kd.R_drewN | apply Kd.R_drew)); exact HO175.out))) (Kd.R_lt (by (with_reducible repeat (first | apply Kd.R_alloc | apply Kd.R_drewN | apply Kd.R_drew)); exact HO180.out))) (Kd.R_lt (by (with_reducible repeat (first | apply Kd.R_alloc | apply Kd.R_drewN | apply Kd.R_drew)); exact HO185.out))) (below_size (by repeat (first | (with_reducible first | exact HB.out | apply below_alloc | apply pw_below_drewN | apply below_drew1) | exact HB.out)))); have n5_ := Aside0.mk (below_step (by repeat (first | (with_reducible first | exact HB.out | apply below_alloc | apply pw_below_drewN | apply below_drew1) | exact HB.out)) hb); clear HO_14; clear HO175; clear HO180; clear HO185; clear HB; have HO_14 := n0_; have HO175 := n1_; have HO180 := n2_; have HO185 := n3_; have HO190 := n4_; have HB := n5_; clear n0_ n1_ n2_ n3_ n4_ n5_; (try clear hb); (try clear hb2); (try clear hk); (try clear hi); (try clear ho0)))
      go_ret
      exact ⟨by first | rfl | (simp [errW_none, errW_some] <;> rfl) | (simp [*, errW_none, errW_some] <;> rfl), by repeat (first | (with_reducible first | exact HB.out | apply below_alloc | apply pw_below_drewN | apply below_drew1) | exact HB.out)⟩
     rw [if_pos c78] at H
     have c78b0 : (t173 == t178) = true := c78
     (try (have c78b1 : decide (t173 = t178) = true := by simpa using c78))
     (try (have c78b2 : (t173 == t178) = true := by simpa using c78))
     clear c78
     by_cases c79 : t172 = t177
     rotate_left
     ·rw [if_neg c79] at H
      have c79b0 : (t172 == t177) = false := beq_eq_false_iff_ne.mpr c79
      have c79b1 : (t172 != t177) = true := bne_iff_ne.mpr c79
      obtain rfl := Option.some.inj H
      obtain ⟨Ao120, co120, eo120⟩ := Kd.R_slice HO_14.out
      subst eo120
      go_wp2_with (first | ((with_reducible refine gate_callee (f := 15) rfl ?_); refine goesL_ (some 127) rfl rfl Try.func15 (by kernel_rfl) rfl #[.slice Ao120 x14_16.length co120] rfl (by (try simp only [List.map_toArray, List.map_cons, List.map_nil]); first | done | rfl | (simp only [List.length_drop, List.length_take]; rfl)) ?_; (with_reducible refine (match_Assign.calls _ _ x14_16 t171 t172 t173 _ ?side1 ?side2 A74.out).mono ?_); (case side1 => repeat (first | exact (Kd.R_reads' HO_14.out).2.2 | (with_reducible refine Kd.C_alloc ?_ _) | (with_reducible refine Kd.C_drewN ?_ _) | (with_reducible refine Kd.C_drew ?_))); (case side2 => exact (Kd.R_reads' HO_14.out).2.1); rintro e w121 ⟨v174, rfl, ho0, hb⟩; refine ⟨_, rfl, ?_⟩; have n0_ := Aside0.mk (Kd.R_elder' (by (with_reducible repeat (first | apply Kd.R_alloc | apply Kd.R_drewN | apply Kd.R_drew)); exact HO_14.out) (Kd.R_base ho0) hb); have n1_ := Aside0.mk (Kd.R_lower ho0 (below_size (by repeat (first | (with_reducible first | exact HB.out | apply below_alloc | apply pw_below_drewN | apply below_drew1) | exact HB.out)))); have n2_ := Aside0.mk (below_step (by repeat (first | (with_reducible first | exact HB.out | apply below_alloc | apply pw_below_drewN | apply below_drew1) | exact HB.out)) hb); clear HO_14; clear HB; have HO_14 := n0_; have HO175 := n1_; have HB := n2_; clear n0_ n1_ n2_; (try clear hb); (try clear hb2); (try clear hk); (try clear hi); (try clear ho0)) | ((with_reducible refine gate_callee (f := 16) rfl ?_); refine goesL_ (some 133) rfl rfl Try.func16 (by kernel_rfl) rfl #[.slice Ao120 x14_16.length co120] rfl (by (try simp only [List.map_toArray, List.map_cons, List.map_nil]); first | done | rfl | (simp only [List.length_drop, List.length_take]; rfl)) ?_; (with_reducible refine (hypercuberef9_Assign.calls _ _ x14_16 t176 t177 t178 _ ?side1 ?side2 A75.out).mono ?_); (case side1 => repeat (first | exact (Kd.R_reads' HO_14.out).2.2 | (with_reducible refine Kd.C_alloc ?_ _) | (with_reducible refine Kd.C_drewN ?_ _) | (with_reducible refine Kd.C_drew ?_))); (case side2 => exact (Kd.R_reads' HO_14.out).2.1); rintro e w122 ⟨v179, rfl, ho0, hb⟩; refine ⟨_, rfl, ?_⟩; have n0_ := Aside0.mk (Kd.R_elder' (by (with_reducible repeat (first | apply Kd.R_alloc | apply Kd.R_drewN | apply Kd.R_drew)); exact HO_14.out) (Kd.R_base ho0) hb); have n1_ := Aside0.mk (Kd.R_elder' (by (with_reducible repeat (first | apply Kd.R_alloc | apply Kd.R_drewN | apply Kd.R_drew)); exact HO175.out) (Kd.R_base ho0) hb); have n2_ := Aside0.mk (Kd.R_lower (Kd.R_new' ho0 (Kd.R_lt (by (with_reducible repeat (first | apply Kd.R_alloc | apply Kd.R_drewN | apply Kd.R_drew)); exact HO175.out))) (below_size (by repeat (first | (with_reducible first | exact HB.out | apply below_alloc | apply pw_below_drewN | apply below_drew1) | exact HB.out)))); have n3_ := Aside0.mk (below_step (by repeat (first | (with_reducible first | exact HB.out | apply below_alloc | apply pw_below_drewN | apply below_drew1) | exact HB.out)) hb); clear HO_14; clear HO175; clear HB; have HO_14 := n0_; have HO175 := n1_; have HO180 := n2_; have HB := n3_; clear n0_ n1_ n2_ n3_; (try clear hb); (try clear hb2); (try clear hk); (try clear hi); (try clear ho0)) | ((with_reducible refine gate_callee (f := 15) rfl ?_); refine goesL_ (some 139) rfl rfl Try.func15 (by kernel_rfl) rfl #[.slice A0 l0.length c0] rfl (by (try simp only [List.map_toArray, List.map_cons, List.map_nil]); first | done | rfl | (simp only [List.length_drop, List.length_take]; rfl)) ?_; (with_reducible refine (match_Assign.calls _ _ l0 t181 t182 t183 _ ?side1 ?side2 A76.out).mono ?_); (case side1 => repeat (first | exact (Kd.C_below HR0.out HB.out) | (with_reducible refine Kd.C_alloc ?_ _) | (with_reducible refine Kd.C_drewN ?_ _) | (with_reducible refine Kd.C_drew ?_))); (case side2 => exact HC0.out); rintro e w123 ⟨v184, rfl, ho0, hb⟩; refine ⟨_, rfl, ?_⟩; have n0_ := Aside0.mk (Kd.R_elder' (by (with_reducible repeat (first | apply Kd.R_alloc | apply Kd.R_drewN | apply Kd.R_drew)); exact HO_14.out) (Kd.R_base ho0) hb); have n1_ := Aside0.mk (Kd.R_elder' (by (with_reducible repeat (first | apply Kd.R_alloc | apply Kd.R_drewN | apply Kd.R_drew)); exact HO175.out) (Kd.R_base ho0) hb); have n2_ := Aside0.mk (Kd.R_elder' (by (with_reducible repeat (first | apply Kd.R_alloc | apply Kd.R_drewN | apply Kd.R_drew)); exact HO180.out) (Kd.R_base ho0) hb); have n3_ := Aside0.mk (Kd.R_lower (Kd.R_new' (Kd.R_new' ho0 (Kd.R_lt (by (with_reducible repeat (first | apply Kd.R_alloc | apply Kd.R_drewN | apply Kd.R_drew)); exact HO175.out))) (Kd.R_lt (by (with_reducible repeat (first | apply Kd.R_alloc | apply Kd.R_drewN | apply Kd.R_drew)); exact HO180.out))) (below_size (by repeat (first | (with_reducible first | exact HB.out | apply below_alloc | apply pw_below_drewN | apply below_drew1) | exact HB.out)))); have n4_ := Aside0.mk (below_step (by repeat (first | (with_reducible first | exact HB.out | apply below_alloc | apply pw_below_drewN | apply below_drew1) | exact HB.out)) hb); clear HO_14; clear HO175; clear HO180; clear HB; have HO_14 := n0_; have HO175 := n1_; have HO180 := n2_; have HO185 := n3_; have HB := n4_; clear n0_ n1_ n2_ n3_ n4_; (try clear hb); (try clear hb2); (try clear hk); (try clear hi); (try clear ho0)) | ((with_reducible refine gate_callee (f := 16) rfl ?_); refine goesL_ (some 145) rfl rfl Try.func16 (by kernel_rfl) rfl #[.slice A0 l0.length c0] rfl (by (try simp only [List.map_toArray, List.map_cons, List.map_nil]); first | done | rfl | (simp only [List.length_drop, List.length_take]; rfl)) ?_; (with_reducible refine (hypercuberef9_Assign.calls _ _ l0 t186 t187 t188 _ ?side1 ?side2 A77.out).mono ?_); (case side1 => repeat (first | exact (Kd.C_below HR0.out HB.out) | (with_reducible refine Kd.C_alloc ?_ _) | (with_reducible refine Kd.C_drewN ?_ _) | (with_reducible refine Kd.C_drew ?_))); (case side2 => exact HC0.out); rintro e w124 ⟨v189, rfl, ho0, hb⟩; refine ⟨_, rfl, ?_⟩; have n0_ := Aside0.mk (Kd.R_elder' (by (with_reducible repeat (first | apply Kd.R_alloc | apply Kd.R_drewN | apply Kd.R_drew)); exact HO_14.out) (Kd.R_base ho0) hb); have n1_ := Aside0.mk (Kd.R_elder' (by (with_reducible repeat (first | apply Kd.R_alloc | apply Kd.R_drewN | apply Kd.R_drew)); exact HO175.out) (Kd.R_base ho0) hb); have n2_ := Aside0.mk (Kd.R_elder' (by (with_reducible repeat (first | apply Kd.R_alloc | apply Kd.R_drewN | apply Kd.R_drew)); exact HO180.out) (Kd.R_base ho0) hb); have n3_ := Aside0.mk (Kd.R_elder' (by (with_reducible repeat (first | apply Kd.R_alloc | apply Kd.R_drewN | apply Kd.R_drew)); exact HO185.out) (Kd.R_base ho0) hb); have n4_ := Aside0.mk (Kd.R_lower (Kd.R_new' (Kd.R_new' (Kd.R_new' ho0 (Kd.R_lt (by (with_reducible repeat (first | apply Kd.R_alloc | apply Kd.R_drewN | apply Kd.R_drew)); exact HO175.out))) (Kd.R_lt (by (with_reducible repeat (first | apply Kd.R_alloc | apply Kd.R_drewN | apply Kd.R_drew)); exact HO180.out))) (Kd.R_lt (by (with_reducible repeat (first | apply Kd.R_alloc | apply Kd.R_drewN | apply Kd.R_drew)); exact HO185.out))) (below_size (by repeat (first | (with_reducible first | exact HB.out | apply below_alloc | apply pw_below_drewN | apply below_drew1) | exact HB.out)))); have n5_ := Aside0.mk (below_step (by repeat (first | (with_reducible first | exact HB.out | apply below_alloc | apply pw_below_drewN | apply below_drew1) | exact HB.out)) hb); clear HO_14; clear HO175; clear HO180; clear HO185; clear HB; have HO_14 := n0_; have HO175 := n1_; have HO180 := n2_; have HO185 := n3_; have HO190 := n4_; have HB := n5_; clear n0_ n1_ n2_ n3_ n4_ n5_; (try clear hb); (try clear hb2); (try clear hk); (try clear hi); (try clear ho0)))
      go_ret
      exact ⟨by first | rfl | (simp [errW_none, errW_some] <;> rfl) | (simp [*, errW_none, errW_some] <;> rfl), by repeat (first | (with_reducible first | exact HB.out | apply below_alloc | apply pw_below_drewN | apply below_drew1) | exact HB.out)⟩
     rw [if_pos c79] at H
     have c79b0 : (t172 == t177) = true := beq_iff_eq.mpr c79
     have c79b1 : (t172 != t177) = false := bne_eq_false_iff_eq.mpr c79
     clear c79
     replace H := Option.bind_eq_some_iff.mp H
     obtain ⟨t191, A800, H⟩ := H
     replace H : (if t191 = true then (if (t183 == t188) = true then (if t182 = t187 then ((hypercuberef1_Ints.f t181 t186).bind fun t192 => (some t192)) else (some false)) else (some false)) else (some false)) = some r := H
     have A80 := Aside0.mk A800
     clear A800
     by_cases c81 : t191 = true
     rotate_left
     ·replace c81 := Bool.eq_false_iff.mpr c81
      subst c81
      have H1 : (some false) = some r := by rw [if_neg (show ¬ (false = true) by decide)] at H; exact H
      clear H
      have H := H1
      clear H1
      obtain rfl := Option.some.inj H
      obtain ⟨Ao112, co112, eo112⟩ := Kd.R_slice HO_14.out
      subst eo112
      go_wp2_with (first | ((with_reducible refine gate_callee (f := 15) rfl ?_); refine goesL_ (some 127) rfl rfl Try.func15 (by kernel_rfl) rfl #[.slice Ao112 x14_16.length co112] rfl (by (try simp only [List.map_toArray, List.map_cons, List.map_nil]); first | done | rfl | (simp only [List.length_drop, List.length_take]; rfl)) ?_; (with_reducible refine (match_Assign.calls _ _ x14_16 t171 t172 t173 _ ?side1 ?side2 A74.out).mono ?_); (case side1 => repeat (first | exact (Kd.R_reads' HO_14.out).2.2 | (with_reducible refine Kd.C_alloc ?_ _) | (with_reducible refine Kd.C_drewN ?_ _) | (with_reducible refine Kd.C_drew ?_))); (case side2 => exact (Kd.R_reads' HO_14.out).2.1); rintro e w113 ⟨v174, rfl, ho0, hb⟩; refine ⟨_, rfl, ?_⟩; have n0_ := Aside0.mk (Kd.R_elder' (by (with_reducible repeat (first | apply Kd.R_alloc | apply Kd.R_drewN | apply Kd.R_drew)); exact HO_14.out) (Kd.R_base ho0) hb); have n1_ := Aside0.mk (Kd.R_lower ho0 (below_size (by repeat (first | (with_reducible first | exact HB.out | apply below_alloc | apply pw_below_drewN | apply below_drew1) | exact HB.out)))); have n2_ := Aside0.mk (below_step (by repeat (first | (with_reducible first | exact HB.out | apply below_alloc | apply pw_below_drewN | apply below_drew1) | exact HB.out)) hb); clear HO_14; clear HB; have HO_14 := n0_; have HO175 := n1_; have HB := n2_; clear n0_ n1_ n2_; (try clear hb); (try clear hb2); (try clear hk); (try clear hi); (try clear ho0)) | ((with_reducible refine gate_callee (f := 16) rfl ?_); refine goesL_ (some 133) rfl rfl Try.func16 (by kernel_rfl) rfl #[.slice Ao112 x14_16.length co112] rfl (by (try simp only [List.map_toArray, List.map_cons, List.map_nil]); first | done | rfl | (simp only [List.length_drop, List.length_take]; rfl)) ?_; (with_reducible refine (hypercuberef9_Assign.calls _ _ x14_16 t176 t177 t178 _ ?side1 ?side2 A75.out).mono ?_); (case side1 => repeat (first | exact (Kd.R_reads' HO_14.out).2.2 | (with_reducible refine Kd.C_alloc ?_ _) | (with_reducible refine Kd.C_drewN ?_ _) | (with_reducible refine Kd.C_drew ?_))); (case side2 => exact (Kd.R_reads' HO_14.out).2.1); rintro e w114 ⟨v179, rfl, ho0, hb⟩; refine ⟨_, rfl, ?_⟩; have n0_ := Aside0.mk (Kd.R_elder' (by (with_reducible repeat (first | apply Kd.R_alloc | apply Kd.R_drewN | apply Kd.R_drew)); exact HO_14.out) (Kd.R_base ho0) hb); have n1_ := Aside0.mk (Kd.R_elder' (by (with_reducible repeat (first | apply Kd.R_alloc | apply Kd.R_drewN | apply Kd.R_drew)); exact HO175.out) (Kd.R_base ho0) hb); have n2_ := Aside0.mk (Kd.R_lower (Kd.R_new' ho0 (Kd.R_lt (by (with_reducible repeat (first | apply Kd.R_alloc | apply Kd.R_drewN | apply Kd.R_drew)); exact HO175.out))) (below_size (by repeat (first | (with_reducible first | exact HB.out | apply below_alloc | apply pw_below_drewN | apply below_drew1) | exact HB.out)))); have n3_ := Aside0.mk (below_step (by repeat (first | (with_reducible first | exact HB.out | apply below_alloc | apply pw_below_drewN | apply below_drew1) | exact HB.out)) hb); clear HO_14; clear HO175; clear HB; have HO_14 := n0_; have HO175 := n1_; have HO180 := n2_; have HB := n3_; clear n0_ n1_ n2_ n3_; (try clear hb); (try clear hb2); (try clear hk); (try clear hi); (try clear ho0)) | ((with_reducible refine gate_callee (f := 15) rfl ?_); refine goesL_ (some 139) rfl rfl Try.func15 (by kernel_rfl) rfl #[.slice A0 l0.length c0] rfl (by (try simp only [List.map_toArray, List.map_cons, List.map_nil]); first | done | rfl | (simp only [List.length_drop, List.length_take]; rfl)) ?_; (with_reducible refine (match_Assign.calls _ _ l0 t181 t182 t183 _ ?side1 ?side2 A76.out).mono ?_); (case side1 => repeat (first | exact (Kd.C_below HR0.out HB.out) | (with_reducible refine Kd.C_alloc ?_ _) | (with_reducible refine Kd.C_drewN ?_ _) | (with_reducible refine Kd.C_drew ?_))); (case side2 => exact HC0.out); rintro e w115 ⟨v184, rfl, ho0, hb⟩; refine ⟨_, rfl, ?_⟩; have n0_ := Aside0.mk (Kd.R_elder' (by (with_reducible repeat (first | apply Kd.R_alloc | apply Kd.R_drewN | apply Kd.R_drew)); exact HO_14.out) (Kd.R_base ho0) hb); have n1_ := Aside0.mk (Kd.R_elder' (by (with_reducible repeat (first | apply Kd.R_alloc | apply Kd.R_drewN | apply Kd.R_drew)); exact HO175.out) (Kd.R_base ho0) hb); have n2_ := Aside0.mk (Kd.R_elder' (by (with_reducible repeat (first | apply Kd.R_alloc | apply Kd.R_drewN | apply Kd.R_drew)); exact HO180.out) (Kd.R_base ho0) hb); have n3_ := Aside0.mk (Kd.R_lower (Kd.R_new' (Kd.R_new' ho0 (Kd.R_lt (by (with_reducible repeat (first | apply Kd.R_alloc | apply Kd.R_drewN | apply Kd.R_drew)); exact HO175.out))) (Kd.R_lt (by (with_reducible repeat (first | apply Kd.R_alloc | apply Kd.R_drewN | apply Kd.R_drew)); exact HO180.out))) (below_size (by repeat (first | (with_reducible first | exact HB.out | apply below_alloc | apply pw_below_drewN | apply below_drew1) | exact HB.out)))); have n4_ := Aside0.mk (below_step (by repeat (first | (with_reducible first | exact HB.out | apply below_alloc | apply pw_below_drewN | apply below_drew1) | exact HB.out)) hb); clear HO_14; clear HO175; clear HO180; clear HB; have HO_14 := n0_; have HO175 := n1_; have HO180 := n2_; have HO185 := n3_; have HB := n4_; clear n0_ n1_ n2_ n3_ n4_; (try clear hb); (try clear hb2); (try clear hk); (try clear hi); (try clear ho0)) | ((with_reducible refine gate_callee (f := 16) rfl ?_); refine goesL_ (some 145) rfl rfl Try.func16 (by kernel_rfl) rfl #[.slice A0 l0.length c0] rfl (by (try simp only [List.map_toArray, List.map_cons, List.map_nil]); first | done | rfl | (simp only [List.length_drop, List.length_take]; rfl)) ?_; (with_reducible refine (hypercuberef9_Assign.calls _ _ l0 t186 t187 t188 _ ?side1 ?side2 A77.out).mono ?_); (case side1 => repeat (first | exact (Kd.C_below HR0.out HB.out) | (with_reducible refine Kd.C_alloc ?_ _) | (with_reducible refine Kd.C_drewN ?_ _) | (with_reducible refine Kd.C_drew ?_))); (case side2 => exact HC0.out); rintro e w116 ⟨v189, rfl, ho0, hb⟩; refine ⟨_, rfl, ?_⟩; have n0_ := Aside0.mk (Kd.R_elder' (by (with_reducible repeat (first | apply Kd.R_alloc | apply Kd.R_drewN | apply Kd.R_drew)); exact HO_14.out) (Kd.R_base ho0) hb); have n1_ := Aside0.mk (Kd.R_elder' (by (with_reducible repeat (first | apply Kd.R_alloc | apply Kd.R_drewN | apply Kd.R_drew)); exact HO175.out) (Kd.R_base ho0) hb); have n2_ := Aside0.mk (Kd.R_elder' (by (with_reducible repeat (first | apply Kd.R_alloc | apply Kd.R_drewN | apply Kd.R_drew)); exact HO180.out) (Kd.R_base ho0) hb); have n3_ := Aside0.mk (Kd.R_elder' (by (with_reducible repeat (first | apply Kd.R_alloc | apply Kd.R_drewN | apply Kd.R_drew)); exact HO185.out) (Kd.R_base ho0) hb); have n4_ := Aside0.mk (Kd.R_lower (Kd.R_new' (Kd.R_new' (Kd.R_new' ho0 (Kd.R_lt (by (with_reducible repeat (first | apply Kd.R_alloc | apply Kd.R_drewN | apply Kd.R_drew)); exact HO175.out))) (Kd.R_lt (by (with_reducible repeat (first | apply Kd.R_alloc | apply Kd.R_drewN | apply Kd.R_drew)); exact HO180.out))) (Kd.R_lt (by (with_reducible repeat (first | apply Kd.R_alloc | apply Kd.R_drewN | apply Kd.R_drew)); exact HO185.out))) (below_size (by repeat (first | (with_reducible first | exact HB.out | apply below_alloc | apply pw_below_drewN | apply below_drew1) | exact HB.out)))); have n5_ := Aside0.mk (below_step (by repeat (first | (with_reducible first | exact HB.out | apply below_alloc | apply pw_below_drewN | apply below_drew1) | exact HB.out)) hb); clear HO_14; clear HO175; clear HO180; clear HO185; clear HB; have HO_14 := n0_; have HO175 := n1_; have HO180 := n2_; have HO185 := n3_; have HO190 := n4_; have HB := n5_; clear n0_ n1_ n2_ n3_ n4_ n5_; (try clear hb); (try clear hb2); (try clear hk); (try clear hi); (try clear ho0); obtain ⟨Ao117, co117, eo117⟩ := Kd.R_slice HO175.out; subst eo117; obtain ⟨Ao118, co118, eo118⟩ := Kd.R_slice HO180.out; subst eo118) | (go_at_call 17; (with_reducible refine (hypercuberef1_Ints.calls _ _ t171 _ _ t176 false _ ?side1 ?side2 ?side3 ?side4 A80.out).mono ?_); (case side1 => repeat (first | exact (Kd.R_reads' HO175.out).2.2 | (with_reducible refine Kd.C_alloc ?_ _) | (with_reducible refine Kd.C_drewN ?_ _) | (with_reducible refine Kd.C_drew ?_))); (case side2 => exact (Kd.R_reads' HO175.out).2.1); (case side3 => repeat (first | exact (Kd.R_reads' HO180.out).2.2 | (with_reducible refine Kd.C_alloc ?_ _) | (with_reducible refine Kd.C_drewN ?_ _) | (with_reducible refine Kd.C_drew ?_))); (case side4 => exact (Kd.R_reads' HO180.out).2.1); rintro e w119 ⟨rfl, hb⟩; have n0_ := Aside0.mk (Kd.R_below (by (with_reducible repeat (first | apply Kd.R_alloc | apply Kd.R_drewN | apply Kd.R_drew)); exact HO_14.out) hb); have n1_ := Aside0.mk (Kd.R_below (by (with_reducible repeat (first | apply Kd.R_alloc | apply Kd.R_drewN | apply Kd.R_drew)); exact HO175.out) hb); have n2_ := Aside0.mk (Kd.R_below (by (with_reducible repeat (first | apply Kd.R_alloc | apply Kd.R_drewN | apply Kd.R_drew)); exact HO180.out) hb); have n3_ := Aside0.mk (Kd.R_below (by (with_reducible repeat (first | apply Kd.R_alloc | apply Kd.R_drewN | apply Kd.R_drew)); exact HO185.out) hb); have n4_ := Aside0.mk (Kd.R_below (by (with_reducible repeat (first | apply Kd.R_alloc | apply Kd.R_drewN | apply Kd.R_drew)); exact HO190.out) hb); have n5_ := Aside0.mk (below_step (by repeat (first | (with_reducible first | exact HB.out | apply below_alloc | apply pw_below_drewN | apply below_drew1) | exact HB.out)) hb); clear HO_14; clear HO175; clear HO180; clear HO185; clear HO190; clear HB; have HO_14 := n0_; have HO175 := n1_; have HO180 := n2_; have HO185 := n3_; have HO190 := n4_; have HB := n5_; clear n0_ n1_ n2_ n3_ n4_ n5_; (try clear hb); (try clear hb2); (try clear hk); (try clear hi)))
      go_ret
      exact ⟨by first | rfl | (simp [errW_none, errW_some] <;> rfl) | (simp [*, errW_none, errW_some] <;> rfl), by repeat (first | (with_reducible first | exact HB.out | apply below_alloc | apply pw_below_drewN | apply below_drew1) | exact HB.out)⟩
     subst c81
     have H1 : (if (t183 == t188) = true then (if t182 = t187 then ((hypercuberef1_Ints.f t181 t186).bind fun t192 => (some t192)) else (some false)) else (some false)) = some r := by rw [if_pos rfl] at H; exact H
     clear H
     have H := H1
     clear H1
     by_cases c82 : (t183 == t188) = true
     rotate_left
     ·rw [if_neg c82] at H
      have c82b0 : (t183 == t188) = false := by simpa using c82
      (try (have c82b1 : decide (t183 = t188) = false := by simpa using c82))
      (try (have c82b2 : (t183 == t188) = false := by simpa using c82))
      (try (have c82b3 : ¬ (t183 = t188) := by simpa using c82))
      clear c82
      obtain rfl := Option.some.inj H
      obtain ⟨Ao104, co104, eo104⟩ := Kd.R_slice HO_14.out
      subst eo104
      go_wp2_with (first | ((with_reducible refine gate_callee (f := 15) rfl ?_); refine goesL_ (some 127) rfl rfl Try.func15 (by kernel_rfl) rfl #[.slice Ao104 x14_16.length co104] rfl (by (try simp only [List.map_toArray, List.map_cons, List.map_nil]); first | done | rfl | (simp only [List.length_drop, List.length_take]; rfl)) ?_; (with_reducible refine (match_Assign.calls _ _ x14_16 t171 t172 t173 _ ?side1 ?side2 A74.out).mono ?_); (case side1 => repeat (first | exact (Kd.R_reads' HO_14.out).2.2 | (with_reducible refine Kd.C_alloc ?_ _) | (with_reducible refine Kd.C_drewN ?_ _) | (with_reducible refine Kd.C_drew ?_))); (case side2 => exact (Kd.R_reads' HO_14.out).2.1); rintro e w105 ⟨v174, rfl, ho0, hb⟩; refine ⟨_, rfl, ?_⟩; have n0_ := Aside0.mk (Kd.R_elder' (by (with_reducible repeat (first | apply Kd.R_alloc | apply Kd.R_drewN | apply Kd.R_drew)); exact HO_14.out) (Kd.R_base ho0) hb); have n1_ := Aside0.mk (Kd.R_lower ho0 (below_size (by repeat (first | (with_reducible first | exact HB.out | apply below_alloc | apply pw_below_drewN | apply below_drew1) | exact HB.out)))); have n2_ := Aside0.mk (below_step (by repeat (first | (with_reducible first | exact HB.out | apply below_alloc | apply pw_below_drewN | apply below_drew1) | exact HB.out)) hb); clear HO_14; clear HB; have HO_14 := n0_; have HO175 := n1_; have HB := n2_; clear n0_ n1_ n2_; (try clear hb); (try clear hb2); (try clear hk); (try clear hi); (try clear ho0)) | ((with_reducible refine gate_callee (f := 16) rfl ?_); refine goesL_ (some 133) rfl rfl Try.func16 (by kernel_rfl) rfl #[.slice Ao104 x14_16.length co104] rfl (by (try simp only [List.map_toArray, List.map_cons, List.map_nil]); first | done | rfl | (simp only [List.length_drop, List.length_take]; rfl)) ?_; (with_reducible refine (hypercuberef9_Assign.calls _ _ x14_16 t176 t177 t178 _ ?side1 ?side2 A75.out).mono ?_); (case side1 => repeat (first | exact (Kd.R_reads' HO_14.out).2.2 | (with_reducible refine Kd.C_alloc ?_ _) | (with_reducible refine Kd.C_drewN ?_ _) | (with_reducible refine Kd.C_drew ?_))); (case side2 => exact (Kd.R_reads' HO_14.out).2.1); rintro e w106 ⟨v179, rfl, ho0, hb⟩; refine ⟨_, rfl, ?_⟩; have n0_ := Aside0.mk (Kd.R_elder' (by (with_reducible repeat (first | apply Kd.R_alloc | apply Kd.R_drewN | apply Kd.R_drew)); exact HO_14.out) (Kd.R_base ho0) hb); have n1_ := Aside0.mk (Kd.R_elder' (by (with_reducible repeat (first | apply Kd.R_alloc | apply Kd.R_drewN | apply Kd.R_drew)); exact HO175.out) (Kd.R_base ho0) hb); have n2_ := Aside0.mk (Kd.R_lower (Kd.R_new' ho0 (Kd.R_lt (by (with_reducible repeat (first | apply Kd.R_alloc | apply Kd.R_drewN | apply Kd.R_drew)); exact HO175.out))) (below_size (by repeat (first | (with_reducible first | exact HB.out | apply below_alloc | apply pw_below_drewN | apply below_drew1) | exact HB.out)))); have n3_ := Aside0.mk (below_step (by repeat (first | (with_reducible first | exact HB.out | apply below_alloc | apply pw_below_drewN | apply below_drew1) | exact HB.out)) hb); clear HO_14; clear HO175; clear HB; have HO_14 := n0_; have HO175 := n1_; have HO180 := n2_; have HB := n3_; clear n0_ n1_ n2_ n3_; (try clear hb); (try clear hb2); (try clear hk); (try clear hi); (try clear ho0)) | ((with_reducible refine gate_callee (f := 15) rfl ?_); refine goesL_ (some 139) rfl rfl Try.func15 (by kernel_rfl) rfl #[.slice A0 l0.length c0] rfl (by (try simp only [List.map_toArray, List.map_cons, List.map_nil]); first | done | rfl | (simp only [List.length_drop, List.length_take]; rfl)) ?_; (with_reducible refine (match_Assign.calls _ _ l0 t181 t182 t183 _ ?side1 ?side2 A76.out).mono ?_); (case side1 => repeat (first | exact (Kd.C_below HR0.out HB.out) | (with_reducible refine Kd.C_alloc ?_ _) | (with_reducible refine Kd.C_drewN ?_ _) | (with_reducible refine Kd.C_drew ?_))); (case side2 => exact HC0.out); rintro e w107 ⟨v184, rfl, ho0, hb⟩; refine ⟨_, rfl, ?_⟩; have n0_ := Aside0.mk (Kd.R_elder' (by (with_reducible repeat (first | apply Kd.R_alloc | apply Kd.R_drewN | apply Kd.R_drew)); exact HO_14.out) (Kd.R_base ho0) hb); have n1_ := Aside0.mk (Kd.R_elder' (by (with_reducible repeat (first | apply Kd.R_alloc | apply Kd.R_drewN | apply Kd.R_drew)); exact HO175.out) (Kd.R_base ho0) hb); have n2_ := Aside0.mk (Kd.R_elder' (by (with_reducible repeat (first | apply Kd.R_alloc | apply Kd.R_drewN | apply Kd.R_drew)); exact HO180.out) (Kd.R_base ho0) hb); have n3_ := Aside0.mk (Kd.R_lower (Kd.R_new' (Kd.R_new' ho0 (Kd.R_lt (by (with_reducible repeat (first | apply Kd.R_alloc | apply Kd.R_drewN | apply Kd.R_drew)); exact HO175.out))) (Kd.R_lt (by (with_reducible repeat (first | apply Kd.R_alloc | apply Kd.R_drewN | apply Kd.R_drew)); exact HO180.out))) (below_size (by repeat (first | (with_reducible first | exact HB.out | apply below_alloc | apply pw_below_drewN | apply below_drew1) | exact HB.out)))); have n4_ := Aside0.mk (below_step (by repeat (first | (with_reducible first | exact HB.out | apply below_alloc | apply pw_below_drewN | apply below_drew1) | exact HB.out)) hb); clear HO_14; clear HO175; clear HO180; clear HB; have HO_14 := n0_; have HO175 := n1_; have HO180 := n2_; have HO185 := n3_; have HB := n4_; clear n0_ n1_ n2_ n3_ n4_; (try clear hb); (try clear hb2); (try clear hk); (try clear hi); (try clear ho0)) | ((with_reducible refine gate_callee (f := 16) rfl ?_); refine goesL_ (some 145) rfl rfl Try.func16 (by kernel_rfl) rfl #[.slice A0 l0.length c0] rfl (by (try simp only [List.map_toArray, List.map_cons, List.map_nil]); first | done | rfl | (simp only [List.length_drop, List.length_take]; rfl)) ?_; (with_reducible refine (hypercuberef9_Assign.calls _ _ l0 t186 t187 t188 _ ?side1 ?side2 A77.out).mono ?_); (case side1 => repeat (first | exact (Kd.C_below HR0.out HB.out) | (with_reducible refine Kd.C_alloc ?_ _) | (with_reducible refine Kd.C_drewN ?_ _) | (with_reducible refine Kd.C_drew ?_))); (case side2 => exact HC0.out); rintro e w108 ⟨v189, rfl, ho0, hb⟩; refine ⟨_, rfl, ?_⟩; have n0_ := Aside0.mk (Kd.R_elder' (by (with_reducible repeat (first | apply Kd.R_alloc | apply Kd.R_drewN | apply Kd.R_drew)); exact HO_14.out) (Kd.R_base ho0) hb); have n1_ := Aside0.mk (Kd.R_elder' (by (with_reducible repeat (first | apply Kd.R_alloc | apply Kd.R_drewN | apply Kd.R_drew)); exact HO175.out) (Kd.R_base ho0) hb); have n2_ := Aside0.mk (Kd.R_elder' (by (with_reducible repeat (first | apply Kd.R_alloc | apply Kd.R_drewN | apply Kd.R_drew)); exact HO180.out) (Kd.R_base ho0) hb); have n3_ := Aside0.mk (Kd.R_elder' (by (with_reducible repeat (first | apply Kd.R_alloc | apply Kd.R_drewN | apply Kd.R_drew)); exact HO185.out) (Kd.R_base ho0) hb); have n4_ := Aside0.mk (Kd.R_lower (Kd.R_new' (Kd.R_new' (Kd.R_new' ho0 (Kd.R_lt (by (with_reducible repeat (first | apply Kd.R_alloc | apply Kd.R_drewN | apply Kd.R_drew)); exact HO175.out))) (Kd.R_lt (by (with_reducible repeat (first | apply Kd.R_alloc | apply Kd.R_drewN | apply Kd.R_drew)); exact HO180.out))) (Kd.R_lt (by (with_reducible repeat (first | apply Kd.R_alloc | apply Kd.R_drewN | apply Kd.R_drew)); exact HO185.out))) (below_size (by repeat (first | (with_reducible first | exact HB.out | apply below_alloc | apply pw_below_drewN | apply below_drew1) | exact HB.out)))); have n5_ := Aside0.mk (below_step (by repeat (first | (with_reducible first | exact HB.out | apply below_alloc | apply pw_below_drewN | apply below_drew1) | exact HB.out)) hb); clear HO_14; clear HO175; clear HO180; clear HO185; clear HB; have HO_14 := n0_; have HO175 := n1_; have HO180 := n2_; have HO185 := n3_; have HO190 := n4_; have HB := n5_; clear n0_ n1_ n2_ n3_ n4_ n5_; (try clear hb); (try clear hb2); (try clear hk); (try clear hi); (try clear ho0); obtain ⟨Ao109, co109, eo109⟩ := Kd.R_slice HO175.out; subst eo109; obtain ⟨Ao110, co110, eo110⟩ := Kd.R_slice HO180.out; subst eo110) | (go_at_call 17; (with_reducible refine (hypercuberef1_Ints.calls _ _ t171 _ _ t176 true _ ?side1 ?side2 ?side3 ?side4 A80.out).mono ?_); (case side1 => repeat (first | exact (Kd.R_reads' HO175.out).2.2 | (with_reducible refine Kd.C_alloc ?_ _) | (with_reducible refine Kd.C_drewN ?_ _) | (with_reducible refine Kd.C_drew ?_))); (case side2 => exact (Kd.R_reads' HO175.out).2.1); (case side3 => repeat (first | exact (Kd.R_reads' HO180.out).2.2 | (with_reducible refine Kd.C_alloc ?_ _) | (with_reducible refine Kd.C_drewN ?_ _) | (with_reducible refine Kd.C_drew ?_))); (case side4 => exact (Kd.R_reads' HO180.out).2.1); rintro e w111 ⟨rfl, hb⟩; have n0_ := Aside0.mk (Kd.R_below (by (with_reducible repeat (first | apply Kd.R_alloc | apply Kd.R_drewN | apply Kd.R_drew)); exact HO_14.out) hb); have n1_ := Aside0.mk (Kd.R_below (by (with_reducible repeat (first | apply Kd.R_alloc | apply Kd.R_drewN | apply Kd.R_drew)); exact HO175.out) hb); have n2_ := Aside0.mk (Kd.R_below (by (with_reducible repeat (first | apply Kd.R_alloc | apply Kd.R_drewN | apply Kd.R_drew)); exact HO180.out) hb); have n3_ := Aside0.mk (Kd.R_below (by (with_reducible repeat (first | apply Kd.R_alloc | apply Kd.R_drewN | apply Kd.R_drew)); exact HO185.out) hb); have n4_ := Aside0.mk (Kd.R_below (by (with_reducible repeat (first | apply Kd.R_alloc | apply Kd.R_drewN | apply Kd.R_drew)); exact HO190.out) hb); have n5_ := Aside0.mk (below_step (by repeat (first | (with_reducible first | exact HB.out | apply below_alloc | apply pw_below_drewN | apply below_drew1) | exact HB.out)) hb); clear HO_14; clear HO175; clear HO180; clear HO185; clear HO190; clear HB; have HO_14 := n0_; have HO175 := n1_; have HO180 := n2_; have HO185 := n3_; have HO190 := n4_; have HB := n5_; clear n0_ n1_ n2_ n3_ n4_ n5_; (try clear hb); (try clear hb2); (try clear hk); (try clear hi)))
      go_ret
      exact ⟨by first | rfl | (simp [errW_none, errW_some] <;> rfl) | (simp [*, errW_none, errW_some] <;> rfl), by repeat (first | (with_reducible first | exact HB.out | apply below_alloc | apply pw_below_drewN | apply below_drew1) | exact HB.out)⟩
     rw [if_pos c82] at H
     have c82b0 : (t183 == t188) = true := c82
     (try (have c82b1 : decide (t183 = t188) = true := by simpa using c82))
     (try (have c82b2 : (t183 == t188) = true := by simpa using c82))
     clear c82
     by_cases c83 : t182 = t187
     rotate_left
     ·rw [if_neg c83] at H
      have c83b0 : (t182 == t187) = false := beq_eq_false_iff_ne.mpr c83
      have c83b1 : (t182 != t187) = true := bne_iff_ne.mpr c83
      obtain rfl := Option.some.inj H
      obtain ⟨Ao96, co96, eo96⟩ := Kd.R_slice HO_14.out
      subst eo96
      go_wp2_with (first | ((with_reducible refine gate_callee (f := 15) rfl ?_); refine goesL_ (some 127) rfl rfl Try.func15 (by kernel_rfl) rfl #[.slice Ao96 x14_16.length co96] rfl (by (try simp only [List.map_toArray, List.map_cons, List.map_nil]); first | done | rfl | (simp only [List.length_drop, List.length_take]; rfl)) ?_; (with_reducible refine (match_Assign.calls _ _ x14_16 t171 t172 t173 _ ?side1 ?side2 A74.out).mono ?_); (case side1 => repeat (first | exact (Kd.R_reads' HO_14.out).2.2 | (with_reducible refine Kd.C_alloc ?_ _) | (with_reducible refine Kd.C_drewN ?_ _) | (with_reducible refine Kd.C_drew ?_))); (case side2 => exact (Kd.R_reads' HO_14.out).2.1); rintro e w97 ⟨v174, rfl, ho0, hb⟩; refine ⟨_, rfl, ?_⟩; have n0_ := Aside0.mk (Kd.R_elder' (by (with_reducible repeat (first | apply Kd.R_alloc | apply Kd.R_drewN | apply Kd.R_drew)); exact HO_14.out) (Kd.R_base ho0) hb); have n1_ := Aside0.mk (Kd.R_lower ho0 (below_size (by repeat (first | (with_reducible first | exact HB.out | apply below_alloc | apply pw_below_drewN | apply below_drew1) | exact HB.out)))); have n2_ := Aside0.mk (below_step (by repeat (first | (with_reducible first | exact HB.out | apply below_alloc | apply pw_below_drewN | apply below_drew1) | exact HB.out)) hb); clear HO_14; clear HB; have HO_14 := n0_; have HO175 := n1_; have HB := n2_; clear n0_ n1_ n2_; (try clear hb); (try clear hb2); (try clear hk); (try clear hi); (try clear ho0)) | ((with_reducible refine gate_callee (f := 16) rfl ?_); refine goesL_ (some 133) rfl rfl Try.func16 (by kernel_rfl) rfl #[.slice Ao96 x14_16.length co96] rfl (by (try simp only [List.map_toArray, List.map_cons, List.map_nil]); first | done | rfl | (simp only [List.length_drop, List.length_take]; rfl)) ?_; (with_reducible refine (hypercuberef9_Assign.calls _ _ x14_16 t176 t177 t178 _ ?side1 ?side2 A75.out).mono ?_); (case side1 => repeat (first | exact (Kd.R_reads' HO_14.out).2.2 | (with_reducible refine Kd.C_alloc ?_ _) | (with_reducible refine Kd.C_drewN ?_ _) | (with_reducible refine Kd.C_drew ?_))); (case side2 => exact (Kd.R_reads' HO_14.out).2.1); rintro e w98 ⟨v179, rfl, ho0, hb⟩; refine ⟨_, rfl, ?_⟩; have n0_ := Aside0.mk (Kd.R_elder' (by (with_reducible repeat (first | apply Kd.R_alloc | apply Kd.R_drewN | apply Kd.R_drew)); exact HO_14.out) (Kd.R_base ho0) hb); have n1_ := Aside0.mk (Kd.R_elder' (by (with_reducible repeat (first | apply Kd.R_alloc | apply Kd.R_drewN | apply Kd.R_drew)); exact HO175.out) (Kd.R_base ho0) hb); have n2_ := Aside0.mk (Kd.R_lower (Kd.R_new' ho0 (Kd.R_lt (by (with_reducible repeat (first | apply Kd.R_alloc | apply Kd.R_drewN | apply Kd.R_drew)); exact HO175.out))) (below_size (by repeat (first | (with_reducible first | exact HB.out | apply below_alloc | apply pw_below_drewN | apply below_drew1) | exact HB.out)))); have n3_ := Aside0.mk (below_step (by repeat (first | (with_reducible first | exact HB.out | apply below_alloc | apply pw_below_drewN | apply below_drew1) | exact HB.out)) hb); clear HO_14; clear HO175; clear HB; have HO_14 := n0_; have HO175 := n1_; have HO180 := n2_; have HB := n3_; clear n0_ n1_ n2_ n3_; (try clear hb); (try clear hb2); (try clear hk); (try clear hi); (try clear ho0)) | ((with_reducible refine gate_callee (f := 15) rfl ?_); refine goesL_ (some 139) rfl rfl Try.func15 (by kernel_rfl) rfl #[.slice A0 l0.length c0] rfl (by (try simp only [List.map_toArray, List.map_cons, List.map_nil]); first | done | rfl | (simp only [List.length_drop, List.length_take]; rfl)) ?_; (with_reducible refine (match_Assign.calls _ _ l0 t181 t182 t183 _ ?side1 ?side2 A76.out).mono ?_); (case side1 => repeat (first | exact (Kd.C_below HR0.out HB.out) | (with_reducible refine Kd.C_alloc ?_ _) | (with_reducible refine Kd.C_drewN ?_ _) | (with_reducible refine Kd.C_drew ?_))); (case side2 => exact HC0.out); rintro e w99 ⟨v184, rfl, ho0, hb⟩; refine ⟨_, rfl, ?_⟩; have n0_ := Aside0.mk (Kd.R_elder' (by (with_reducible repeat (first | apply Kd.R_alloc | apply Kd.R_drewN | apply Kd.R_drew)); exact HO_14.out) (Kd.R_base ho0) hb); have n1_ := Aside0.mk (Kd.R_elder' (by (with_reducible repeat (first | apply Kd.R_alloc | apply Kd.R_drewN | apply Kd.R_drew)); exact HO175.out) (Kd.R_base ho0) hb); have n2_ := Aside0.mk (Kd.R_elder' (by (with_reducible repeat (first | apply Kd.R_alloc | apply Kd.R_drewN | apply Kd.R_drew)); exact HO180.out) (Kd.R_base ho0) hb); have n3_ := Aside0.mk (Kd.R_lower (Kd.R_new' (Kd.R_new' ho0 (Kd.R_lt (by (with_reducible repeat (first | apply Kd.R_alloc | apply Kd.R_drewN | apply Kd.R_drew)); exact HO175.out))) (Kd.R_lt (by (with_reducible repeat (first | apply Kd.R_alloc | apply Kd.R_drewN | apply Kd.R_drew)); exact HO180.out))) (below_size (by repeat (first | (with_reducible first | exact HB.out | apply below_alloc | apply pw_below_drewN | apply below_drew1) | exact HB.out)))); have n4_ := Aside0.mk (below_step (by repeat (first | (with_reducible first | exact HB.out | apply below_alloc | apply pw_below_drewN | apply below_drew1) | exact HB.out)) hb); clear HO_14; clear HO175; clear HO180; clear HB; have HO_14 := n0_; have HO175 := n1_; have HO180 := n2_; have HO185 := n3_; have HB := n4_; clear n0_ n1_ n2_ n3_ n4_; (try clear hb); (try clear hb2); (try clear hk); (try clear hi); (try clear ho0)) | ((with_reducible refine gate_callee (f := 16) rfl ?_); refine goesL_ (some 145) rfl rfl Try.func16 (by kernel_rfl) rfl #[.slice A0 l0.length c0] rfl (by (try simp only [List.map_toArray, List.map_cons, List.map_nil]); first | done | rfl | (simp only [List.length_drop, List.length_take]; rfl)) ?_; (with_reducible refine (hypercuberef9_Assign.calls _ _ l0 t186 t187 t188 _ ?side1 ?side2 A77.out).mono ?_); (case side1 => repeat (first | exact (Kd.C_below HR0.out HB.out) | (with_reducible refine Kd.C_alloc ?_ _) | (with_reducible refine Kd.C_drewN ?_ _) | (with_reducible refine Kd.C_drew ?_))); (case side2 => exact HC0.out); rintro e w100 ⟨v189, rfl, ho0, hb⟩; refine ⟨_, rfl, ?_⟩; have n0_ := Aside0.mk (Kd.R_elder' (by (with_reducible repeat (first | apply Kd.R_alloc | apply Kd.R_drewN | apply Kd.R_drew)); exact HO_14.out) (Kd.R_base ho0) hb); have n1_ := Aside0.mk (Kd.R_elder' (by (with_reducible repeat (first | apply Kd.R_alloc | apply Kd.R_drewN | apply Kd.R_drew)); exact HO175.out) (Kd.R_base ho0) hb); have n2_ := Aside0.mk (Kd.R_elder' (by (with_reducible repeat (first | apply Kd.R_alloc | apply Kd.R_drewN | apply Kd.R_drew)); exact HO180.out) (Kd.R_base ho0) hb); have n3_ := Aside0.mk (Kd.R_elder' (by (with_reducible repeat (first | apply Kd.R_alloc | apply Kd.R_drewN | apply Kd.R_drew)); exact HO185.out) (Kd.R_base ho0) hb); have n4_ := Aside0.mk (Kd.R_lower (Kd.R_new' (Kd.R_new' (Kd.R_new' ho0 (Kd.R_lt (by (with_reducible repeat (first | apply Kd.R_alloc | apply Kd.R_drewN | apply Kd.R_drew)); exact HO175.out))) (Kd.R_lt (by (with_reducible repeat (first | apply Kd.R_alloc | apply Kd.R_drewN | apply Kd.R_drew)); exact HO180.out))) (Kd.R_lt (by (with_reducible repeat (first | apply Kd.R_alloc | apply Kd.R_drewN | apply Kd.R_drew)); exact HO185.out))) (below_size (by repeat (first | (with_reducible first | exact HB.out | apply below_alloc | apply pw_below_drewN | apply below_drew1) | exact HB.out)))); have n5_ := Aside0.mk (below_step (by repeat (first | (with_reducible first | exact HB.out | apply below_alloc | apply pw_below_drewN | apply below_drew1) | exact HB.out)) hb); clear HO_14; clear HO175; clear HO180; clear HO185; clear HB; have HO_14 := n0_; have HO175 := n1_; have HO180 := n2_; have HO185 := n3_; have HO190 := n4_; have HB := n5_; clear n0_ n1_ n2_ n3_ n4_ n5_; (try clear hb); (try clear hb2); (try clear hk); (try clear hi); (try clear ho0); obtain ⟨Ao101, co101, eo101⟩ := Kd.R_slice HO175.out; subst eo101; obtain ⟨Ao102, co102, eo102⟩ := Kd.R_slice HO180.out; subst eo102) | (go_at_call 17; (with_reducible refine (hypercuberef1_Ints.calls _ _ t171 _ _ t176 true _ ?side1 ?side2 ?side3 ?side4 A80.out).mono ?_); (case side1 => repeat (first | exact (Kd.R_reads' HO175.out).2.2 | (with_reducible refine Kd.C_alloc ?_ _) | (with_reducible refine Kd.C_drewN ?_ _) | (with_reducible refine Kd.C_drew ?_))); (case side2 => exact (Kd.R_reads' HO175.out).2.1); (case side3 => repeat (first | exact (Kd.R_reads' HO180.out).2.2 | (with_reducible refine Kd.C_alloc ?_ _) | (with_reducible refine Kd.C_drewN ?_ _) | (with_reducible refine Kd.C_drew ?_))); (case side4 => exact (Kd.R_reads' HO180.out).2.1); rintro e w103 ⟨rfl, hb⟩; have n0_ := Aside0.mk (Kd.R_below (by (with_reducible repeat (first | apply Kd.R_alloc | apply Kd.R_drewN | apply Kd.R_drew)); exact HO_14.out) hb); have n1_ := Aside0.mk (Kd.R_below (by (with_reducible repeat (first | apply Kd.R_alloc | apply Kd.R_drewN | apply Kd.R_drew)); exact HO175.out) hb); have n2_ := Aside0.mk (Kd.R_below (by (with_reducible repeat (first | apply Kd.R_alloc | apply Kd.R_drewN | apply Kd.R_drew)); exact HO180.out) hb); have n3_ := Aside0.mk (Kd.R_below (by (with_reducible repeat (first | apply Kd.R_alloc | apply Kd.R_drewN | apply Kd.R_drew)); exact HO185.out) hb); have n4_ := Aside0.mk (Kd.R_below (by (with_reducible repeat (first | apply Kd.R_alloc | apply Kd.R_drewN | apply Kd.R_drew)); exact HO190.out) hb); have n5_ := Aside0.mk (below_step (by repeat (first | (with_reducible first | exact HB.out | apply below_alloc | apply pw_below_drewN | apply below_drew1) | exact HB.out)) hb); clear HO_14; clear HO175; clear HO180; clear HO185; clear HO190; clear HB; have HO_14 := n0_; have HO175 := n1_; have HO180 := n2_; have HO185 := n3_; have HO190 := n4_; have HB := n5_; clear n0_ n1_ n2_ n3_ n4_ n5_; (try clear hb); (try clear hb2); (try clear hk); (try clear hi)))
      go_ret
      exact ⟨by first | rfl | (simp [errW_none, errW_some] <;> rfl) | (simp [*, errW_none, errW_some] <;> rfl), by repeat (first | (with_reducible first | exact HB.out | apply below_alloc | apply pw_below_drewN | apply below_drew1) | exact HB.out)⟩
     rw [if_pos c83] at H
     have c83b0 : (t182 == t187) = true := beq_iff_eq.mpr c83
     have c83b1 : (t182 != t187) = false := bne_eq_false_iff_eq.mpr c83
     clear c83
     replace H := Option.bind_eq_some_iff.mp H
     obtain ⟨t192, A840, H⟩ := H
     replace H : (some t192) = some r := H
     have A84 := Aside0.mk A840
     clear A840
     obtain rfl := Option.some.inj H
     obtain ⟨Ao85, co85, eo85⟩ := Kd.R_slice HO_14.out
     subst eo85
     go_wp2_with (first | ((with_reducible refine gate_callee (f := 15) rfl ?_); refine goesL_ (some 127) rfl rfl Try.func15 (by kernel_rfl) rfl #[.slice Ao85 x14_16.length co85] rfl (by (try simp only [List.map_toArray, List.map_cons, List.map_nil]); first | done | rfl | (simp only [List.length_drop, List.length_take]; rfl)) ?_; (with_reducible refine (match_Assign.calls _ _ x14_16 t171 t172 t173 _ ?side1 ?side2 A74.out).mono ?_); (case side1 => repeat (first | exact (Kd.R_reads' HO_14.out).2.2 | (with_reducible refine Kd.C_alloc ?_ _) | (with_reducible refine Kd.C_drewN ?_ _) | (with_reducible refine Kd.C_drew ?_))); (case side2 => exact (Kd.R_reads' HO_14.out).2.1); rintro e w86 ⟨v174, rfl, ho0, hb⟩; refine ⟨_, rfl, ?_⟩; have n0_ := Aside0.mk (Kd.R_elder' (by (with_reducible repeat (first | apply Kd.R_alloc | apply Kd.R_drewN | apply Kd.R_drew)); exact HO_14.out) (Kd.R_base ho0) hb); have n1_ := Aside0.mk (Kd.R_lower ho0 (below_size (by repeat (first | (with_reducible first | exact HB.out | apply below_alloc | apply pw_below_drewN | apply below_drew1) | exact HB.out)))); have n2_ := Aside0.mk (below_step (by repeat (first | (with_reducible first | exact HB.out | apply below_alloc | apply pw_below_drewN | apply below_drew1) | exact HB.out)) hb); clear HO_14; clear HB; have HO_14 := n0_; have HO175 := n1_; have HB := n2_; clear n0_ n1_ n2_; (try clear hb); (try clear hb2); (try clear hk); (try clear hi); (try clear ho0)) | ((with_reducible refine gate_callee (f := 16) rfl ?_); refine goesL_ (some 133) rfl rfl Try.func16 (by kernel_rfl) rfl #[.slice Ao85 x14_16.length co85] rfl (by (try simp only [List.map_toArray, List.map_cons, List.map_nil]); first | done | rfl | (simp only [List.length_drop, List.length_take]; rfl)) ?_; (with_reducible refine (hypercuberef9_Assign.calls _ _ x14_16 t176 t177 t178 _ ?side1 ?side2 A75.out).mono ?_); (case side1 => repeat (first | exact (Kd.R_reads' HO_14.out).2.2 | (with_reducible refine Kd.C_alloc ?_ _) | (with_reducible refine Kd.C_drewN ?_ _) | (with_reducible refine Kd.C_drew ?_))); (case side2 => exact (Kd.R_reads' HO_14.out).2.1); rintro e w87 ⟨v179, rfl, ho0, hb⟩; refine ⟨_, rfl, ?_⟩; have n0_ := Aside0.mk (Kd.R_elder' (by (with_reducible repeat (first | apply Kd.R_alloc | apply Kd.R_drewN | apply Kd.R_drew)); exact HO_14.out) (Kd.R_base ho0) hb); have n1_ := Aside0.mk (Kd.R_elder' (by (with_reducible repeat (first | apply Kd.R_alloc | apply Kd.R_drewN | apply Kd.R_drew)); exact HO175.out) (Kd.R_base ho0) hb); have n2_ := Aside0.mk (Kd.R_lower (Kd.R_new' ho0 (Kd.R_lt (by (with_reducible repeat (first | apply Kd.R_alloc | apply Kd.R_drewN | apply Kd.R_drew)); exact HO175.out))) (below_size (by repeat (first | (with_reducible first | exact HB.out | apply below_alloc | apply pw_below_drewN | apply below_drew1) | exact HB.out)))); have n3_ := Aside0.mk (below_step (by repeat (first | (with_reducible first | exact HB.out | apply below_alloc | apply pw_below_drewN | apply below_drew1) | exact HB.out)) hb); clear HO_14; clear HO175; clear HB; have HO_14 := n0_; have HO175 := n1_; have HO180 := n2_; have HB := n3_; clear n0_ n1_ n2_ n3_; (try clear hb); (try clear hb2); (try clear hk); (try clear hi); (try clear ho0)) | ((with_reducible refine gate_callee (f := 15) rfl ?_); refine goesL_ (some 139) rfl rfl Try.func15 (by kernel_rfl) rfl #[.slice A0 l0.length c0] rfl (by (try simp only [List.map_toArray, List.map_cons, List.map_nil]); first | done | rfl | (simp only [List.length_drop, List.length_take]; rfl)) ?_; (with_reducible refine (match_Assign.calls _ _ l0 t181 t182 t183 _ ?side1 ?side2 A76.out).mono ?_); (case side1 => repeat (first | exact (Kd.C_below HR0.out HB.out) | (with_reducible refine Kd.C_alloc ?_ _) | (with_reducible refine Kd.C_drewN ?_ _) | (with_reducible refine Kd.C_drew ?_))); (case side2 => exact HC0.out); rintro e w88 ⟨v184, rfl, ho0, hb⟩; refine ⟨_, rfl, ?_⟩; have n0_ := Aside0.mk (Kd.R_elder' (by (with_reducible repeat (first | apply Kd.R_alloc | apply Kd.R_drewN | apply Kd.R_drew)); exact HO_14.out) (Kd.R_base ho0) hb); have n1_ := Aside0.mk (Kd.R_elder' (by (with_reducible repeat (first | apply Kd.R_alloc | apply Kd.R_drewN | apply Kd.R_drew)); exact HO175.out) (Kd.R_base ho0) hb); have n2_ := Aside0.mk (Kd.R_elder' (by (with_reducible repeat (first | apply Kd.R_alloc | apply Kd.R_drewN | apply Kd.R_drew)); exact HO180.out) (Kd.R_base ho0) hb); have n3_ := Aside0.mk (Kd.R_lower (Kd.R_new' (Kd.R_new' ho0 (Kd.R_lt (by (with_reducible repeat (first | apply Kd.R_alloc | apply Kd.R_drewN | apply Kd.R_drew)); exact HO175.out))) (Kd.R_lt (by (with_reducible repeat (first | apply Kd.R_alloc | apply Kd.R_drewN | apply Kd.R_drew)); exact HO180.out))) (below_size (by repeat (first | (with_reducible first | exact HB.out | apply below_alloc | apply pw_below_drewN | apply below_drew1) | exact HB.out)))); have n4_ := Aside0.mk (below_step (by repeat (first | (with_reducible first | exact HB.out | apply below_alloc | apply pw_below_drewN | apply below_drew1) | exact HB.out)) hb); clear HO_14; clear HO175; clear HO180; clear HB; have HO_14 := n0_; have HO175 := n1_; have HO180 := n2_; have HO185 := n3_; have HB := n4_; clear n0_ n1_ n2_ n3_ n4_; (try clear hb); (try clear hb2); (try clear hk); (try clear hi); (try clear ho0)) | ((with_reducible refine gate_callee (f := 16) rfl ?_); refine goesL_ (some 145) rfl rfl Try.func16 (by kernel_rfl) rfl #[.slice A0 l0.length c0] rfl (by (try simp only [List.map_toArray, List.map_cons, List.map_nil]); first | done | rfl | (simp only [List.length_drop, List.length_take]; rfl)) ?_; (with_reducible refine (hypercuberef9_Assign.calls _ _ l0 t186 t187 t188 _ ?side1 ?side2 A77.out).mono ?_); (case side1 => repeat (first | exact (Kd.C_below HR0.out HB.out) | (with_reducible refine Kd.C_alloc ?_ _) | (with_reducible refine Kd.C_drewN ?_ _) | (with_reducible refine Kd.C_drew ?_))); (case side2 => exact HC0.out); rintro e w89 ⟨v189, rfl, ho0, hb⟩; refine ⟨_, rfl, ?_⟩; have n0_ := Aside0.mk (Kd.R_elder' (by (with_reducible repeat (first | apply Kd.R_alloc | apply Kd.R_drewN | apply Kd.R_drew)); exact HO_14.out) (Kd.R_base ho0) hb); have n1_ := Aside0.mk (Kd.R_elder' (by (with_reducible repeat (first | apply Kd.R_alloc | apply Kd.R_drewN | apply Kd.R_drew)); exact HO175.out) (Kd.R_base ho0) hb); have n2_ := Aside0.mk (Kd.R_elder' (by (with_reducible repeat (first | apply Kd.R_alloc | apply Kd.R_drewN | apply Kd.R_drew)); exact HO180.out) (Kd.R_base ho0) hb); have n3_ := Aside0.mk (Kd.R_elder' (by (with_reducible repeat (first | apply Kd.R_alloc | apply Kd.R_drewN | apply Kd.R_drew)); exact HO185.out) (Kd.R_base ho0) hb); have n4_ := Aside0.mk (Kd.R_lower (Kd.R_new' (Kd.R_new' (Kd.R_new' ho0 (Kd.R_lt (by (with_reducible repeat (first | apply Kd.R_alloc | apply Kd.R_drewN | apply Kd.R_drew)); exact HO175.out))) (Kd.R_lt (by (with_reducible repeat (first | apply Kd.R_alloc | apply Kd.R_drewN | apply Kd.R_drew)); exact HO180.out))) (Kd.R_lt (by (with_reducible repeat (first | apply Kd.R_alloc | apply Kd.R_drewN | apply Kd.R_drew)); exact HO185.out))) (below_size (by repeat (first | (with_reducible first | exact HB.out | apply below_alloc | apply pw_below_drewN | apply below_drew1) | exact HB.out)))); have n5_ := Aside0.mk (below_step (by repeat (first | (with_reducible first | exact HB.out | apply below_alloc | apply pw_below_drewN | apply below_drew1) | exact HB.out)) hb); clear HO_14; clear HO175; clear HO180; clear HO185; clear HB; have HO_14 := n0_; have HO175 := n1_; have HO180 := n2_; have HO185 := n3_; have HO190 := n4_; have HB := n5_; clear n0_ n1_ n2_ n3_ n4_ n5_; (try clear hb); (try clear hb2); (try clear hk); (try clear hi); (try clear ho0); obtain ⟨Ao90, co90, eo90⟩ := Kd.R_slice HO175.out; subst eo90; obtain ⟨Ao91, co91, eo91⟩ := Kd.R_slice HO180.out; subst eo91) | (go_at_call 17; (with_reducible refine (hypercuberef1_Ints.calls _ _ t171 _ _ t176 true _ ?side1 ?side2 ?side3 ?side4 A80.out).mono ?_); (case side1 => repeat (first | exact (Kd.R_reads' HO175.out).2.2 | (with_reducible refine Kd.C_alloc ?_ _) | (with_reducible refine Kd.C_drewN ?_ _) | (with_reducible refine Kd.C_drew ?_))); (case side2 => exact (Kd.R_reads' HO175.out).2.1); (case side3 => repeat (first | exact (Kd.R_reads' HO180.out).2.2 | (with_reducible refine Kd.C_alloc ?_ _) | (with_reducible refine Kd.C_drewN ?_ _) | (with_reducible refine Kd.C_drew ?_))); (case side4 => exact (Kd.R_reads' HO180.out).2.1); rintro e w92 ⟨rfl, hb⟩; have n0_ := Aside0.mk (Kd.R_below (by (with_reducible repeat (first | apply Kd.R_alloc | apply Kd.R_drewN | apply Kd.R_drew)); exact HO_14.out) hb); have n1_ := Aside0.mk (Kd.R_below (by (with_reducible repeat (first | apply Kd.R_alloc | apply Kd.R_drewN | apply Kd.R_drew)); exact HO175.out) hb); have n2_ := Aside0.mk (Kd.R_below (by (with_reducible repeat (first | apply Kd.R_alloc | apply Kd.R_drewN | apply Kd.R_drew)); exact HO180.out) hb); have n3_ := Aside0.mk (Kd.R_below (by (with_reducible repeat (first | apply Kd.R_alloc | apply Kd.R_drewN | apply Kd.R_drew)); exact HO185.out) hb); have n4_ := Aside0.mk (Kd.R_below (by (with_reducible repeat (first | apply Kd.R_alloc | apply Kd.R_drewN | apply Kd.R_drew)); exact HO190.out) hb); have n5_ := Aside0.mk (below_step (by repeat (first | (with_reducible first | exact HB.out | apply below_alloc | apply pw_below_drewN | apply below_drew1) | exact HB.out)) hb); clear HO_14; clear HO175; clear HO180; clear HO185; clear HO190; clear HB; have HO_14 := n0_; have HO175 := n1_; have HO180 := n2_; have HO185 := n3_; have HO190 := n4_; have HB := n5_; clear n0_ n1_ n2_ n3_ n4_ n5_; (try clear hb); (try clear hb2); (try clear hk); (try clear hi); obtain ⟨Ao93, co93, eo93⟩ := Kd.R_slice HO185.out; subst eo93; obtain ⟨Ao94, co94, eo94⟩ := Kd.R_slice HO190.out; subst eo94) | (go_at_call 17; (with_reducible refine (hypercuberef1_Ints.calls _ _ t181 _ _ t186 t192 _ ?side1 ?side2 ?side3 ?side4 A84.out).mono ?_); (case side1 => repeat (first | exact (Kd.R_reads' HO185.out).2.2 | (with_reducible refine Kd.C_alloc ?_ _) | (with_reducible refine Kd.C_drewN ?_ _) | (with_reducible refine Kd.C_drew ?_))); (case side2 => exact (Kd.R_reads' HO185.out).2.1); (case side3 => repeat (first | exact (Kd.R_reads' HO190.out).2.2 | (with_reducible refine Kd.C_alloc ?_ _) | (with_reducible refine Kd.C_drewN ?_ _) | (with_reducible refine Kd.C_drew ?_))); (case side4 => exact (Kd.R_reads' HO190.out).2.1); rintro e w95 ⟨rfl, hb⟩; have n0_ := Aside0.mk (Kd.R_below (by (with_reducible repeat (first | apply Kd.R_alloc | apply Kd.R_drewN | apply Kd.R_drew)); exact HO_14.out) hb); have n1_ := Aside0.mk (Kd.R_below (by (with_reducible repeat (first | apply Kd.R_alloc | apply Kd.R_drewN | apply Kd.R_drew)); exact HO175.out) hb); have n2_ := Aside0.mk (Kd.R_below (by (with_reducible repeat (first | apply Kd.R_alloc | apply Kd.R_drewN | apply Kd.R_drew)); exact HO180.out) hb); have n3_ := Aside0.mk (Kd.R_below (by (with_reducible repeat (first | apply Kd.R_alloc | apply Kd.R_drewN | apply Kd.R_drew)); exact HO185.out) hb); have n4_ := Aside0.mk (Kd.R_below (by (with_reducible repeat (first | apply Kd.R_alloc | apply Kd.R_drewN | apply Kd.R_drew)); exact HO190.out) hb); have n5_ := Aside0.mk (below_step (by repeat (first | (with_reducible first | exact HB.out | apply below_alloc | apply pw_below_drewN | apply below_drew1) | exact HB.out)) hb); clear HO_14; clear HO175; clear HO180; clear HO185; clear HO190; clear HB; have HO_14 := n0_; have HO175 := n1_; have HO180 := n2_; have HO185 := n3_; have HO190 := n4_; have HB := n5_; clear n0_ n1_ n2_ n3_ n4_ n5_; (try clear hb); (try clear hb2); (try clear hk); (try clear hi)))
     go_ret
     exact ⟨by first | rfl | (simp [errW_none, errW_some] <;> rfl) | (simp [*, errW_none, errW_some] <;> rfl), by repeat (first | (with_reducible first | exact HB.out | apply below_alloc | apply pw_below_drewN | apply below_drew1) | exact HB.out)⟩

end
end Go.Proofs.Ytgnkpahnhhmceaa.PMatchErrs
