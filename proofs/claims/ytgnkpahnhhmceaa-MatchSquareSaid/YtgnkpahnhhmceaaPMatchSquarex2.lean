-- Laid by dprint.py, a program of this session, with the kit's print.py over a doctored print; not trusted: Lean checks it.
import Derived.Test.YtgnkpahnhhmceaaPMatchSquarex0
import Derived.Test.YtgnkpahnhhmceaaPMatchSquarex1
namespace Go.Proofs.Ytgnkpahnhhmceaa.PMatchSquare
open Go.RowKit Go.Proofs.YtgnkpahnhhmceaaW.PrintWords Go.Proofs.YtgnkpahnhhmceaaW.PrintLast Go.Proofs.YtgnkpahnhhmceaaW.PrintMore
attribute [local go_sem] max2_int min2_int max_two min_two max_three min_three max_four min_four   -- for this text's walks alone
set_option linter.unusedVariables false
set_option linter.unusedSimpArgs false

/-! ### hypercubelaw9_MatchSquare: function 7 -/
mutual
def hypercubelaw9_MatchSquare.l0 : Nat → List Int → List Int → Int → List Int → Int → Option (Bool)
  | 0, _, _, _, _, _ => none
  | k + 1, x1, x2, x7, x8, x9 => if x9 < x7 then (if x8.length < 17592186044416 then (hypercubelaw9_MatchSquare.l0 k x1 x2 x7 (x8 ++ [x9]) (wrap64 (x9 + 1))) else (none)) else (hypercubelaw9_MatchSquare.l1 k x1 x2 x7 x8 0)
def hypercubelaw9_MatchSquare.j2 : Nat → List Int → Int → List Int → Option (Bool)
  | 0, _, _, _ => none
  | k + 1, x2, x7, x8 => if 0 ≤ x7 then (if (x7 : Int).toNat ≤ 11728124029610 then (hypercubelaw9_MatchSquare.l2 k x2 x7 x8 (List.replicate (x7 : Int).toNat []) 0) else (none)) else (none)
def hypercubelaw9_MatchSquare.l2 : Nat → List Int → Int → List Int → List (List Int) → Int → Option (Bool)
  | 0, _, _, _, _, _ => none
  | k + 1, x2, x7, x8, x13, x14 => if x14 < x7 then (hypercubelaw9_MatchSquare.l3 k x2 x7 x8 x13 x14 0) else ((match_Assign.f x13).bind fun bt130 => (if bt130.2.2 = true then (if bt130.2.1 = 0 then ((hypercuberef1_Ints.f bt130.1 x8).bind fun t135 => (some t135)) else (some false)) else (some false)))
def hypercubelaw9_MatchSquare.l3 : Nat → List Int → Int → List Int → List (List Int) → Int → Int → Option (Bool)
  | 0, _, _, _, _, _, _ => none
  | k + 1, x2, x7, x8, x13, x14, x15 => if x15 < x7 then (if (wrap64 ((wrap64 (x14 * x7)) + x15)) < (x2.length : Int) then (if 0 ≤ (wrap64 ((wrap64 (x14 * x7)) + x15)) then ((hypercubelaw9_within.f (rd x2 (wrap64 ((wrap64 (x14 * x7)) + x15))) 99).bind fun t137 => (if 0 ≤ x14 then (if x14 < (x8.length : Int) then (if (rd x8 x14) = x15 then (if x14 < (x13.length : Int) then (if (rd_L1 x13 x14).length < 17592186044416 then (hypercubelaw9_MatchSquare.l3 k x2 x7 x8 (x13.set (x14 : Int).toNat ((rd_L1 x13 x14) ++ [0])) x14 (wrap64 (x15 + 1))) else (none)) else (none)) else (if x14 < (x13.length : Int) then (if (rd_L1 x13 x14).length < 17592186044416 then (hypercubelaw9_MatchSquare.l3 k x2 x7 x8 (x13.set (x14 : Int).toNat ((rd_L1 x13 x14) ++ [wrap64 (1 + t137)])) x14 (wrap64 (x15 + 1))) else (none)) else (none))) else (none)) else (none))) else (none)) else (if 0 ≤ x14 then (if x14 < (x8.length : Int) then (if (rd x8 x14) = x15 then (if x14 < (x13.length : Int) then (if (rd_L1 x13 x14).length < 17592186044416 then (hypercubelaw9_MatchSquare.l3 k x2 x7 x8 (x13.set (x14 : Int).toNat ((rd_L1 x13 x14) ++ [0])) x14 (wrap64 (x15 + 1))) else (none)) else (none)) else (if x14 < (x13.length : Int) then (if (rd_L1 x13 x14).length < 17592186044416 then (hypercubelaw9_MatchSquare.l3 k x2 x7 x8 (x13.set (x14 : Int).toNat ((rd_L1 x13 x14) ++ [1])) x14 (wrap64 (x15 + 1))) else (none)) else (none))) else (none)) else (none))) else (hypercubelaw9_MatchSquare.l2 k x2 x7 x8 x13 (wrap64 (x14 + 1)))
def hypercubelaw9_MatchSquare.l1 : Nat → List Int → List Int → Int → List Int → Int → Option (Bool)
  | 0, _, _, _, _, _ => none
  | k + 1, x1, x2, x7, x8, x10 => if x10 < (x1.length : Int) then (if x10 < 20 then (if x7 = 0 then (none) else (if 0 ≤ x10 then ((hypercubelaw9_within.f (rd x1 x10) x7).bind fun t122 => (if 0 ≤ t122 then (if t122 < (x8.length : Int) then (if 0 ≤ (Int.tmod x10 x7) then (if (Int.tmod x10 x7) < (x8.length : Int) then (hypercubelaw9_MatchSquare.l1 k x1 x2 x7 ((x8.set ((Int.tmod x10 x7) : Int).toNat (rd x8 t122)).set (t122 : Int).toNat (rd x8 (Int.tmod x10 x7))) (wrap64 (x10 + 1))) else (none)) else (none)) else (none)) else (none))) else (none))) else (hypercubelaw9_MatchSquare.j2 k x2 x7 x8)) else (hypercubelaw9_MatchSquare.j2 k x2 x7 x8)
end
def hypercubelaw9_MatchSquare.f (k : Nat) (a0 : Int) (l1 : List Int) (l2 : List Int) : Option (Bool) := (hypercubelaw9_known.f).bind fun t116 => (if t116 = true then ((hypercubelaw9_within.f a0 8).bind fun t117 => (hypercubelaw9_MatchSquare.l0 k l1 l2 (wrap64 (1 + t117)) ([] : List Int) 0)) else (some false))
theorem hypercubelaw9_MatchSquare.mono_l : ∀ k, (∀ y0 y1 y2 y3 y4, LeO (hypercubelaw9_MatchSquare.l0 k y0 y1 y2 y3 y4) (hypercubelaw9_MatchSquare.l0 (k + 1) y0 y1 y2 y3 y4)) ∧ (∀ y0 y1 y2, LeO (hypercubelaw9_MatchSquare.j2 k y0 y1 y2) (hypercubelaw9_MatchSquare.j2 (k + 1) y0 y1 y2)) ∧ (∀ y0 y1 y2 y3 y4, LeO (hypercubelaw9_MatchSquare.l2 k y0 y1 y2 y3 y4) (hypercubelaw9_MatchSquare.l2 (k + 1) y0 y1 y2 y3 y4)) ∧ (∀ y0 y1 y2 y3 y4 y5, LeO (hypercubelaw9_MatchSquare.l3 k y0 y1 y2 y3 y4 y5) (hypercubelaw9_MatchSquare.l3 (k + 1) y0 y1 y2 y3 y4 y5)) ∧ (∀ y0 y1 y2 y3 y4, LeO (hypercubelaw9_MatchSquare.l1 k y0 y1 y2 y3 y4) (hypercubelaw9_MatchSquare.l1 (k + 1) y0 y1 y2 y3 y4))
  | 0 => ⟨fun _ _ _ _ _ r h => by simp [hypercubelaw9_MatchSquare.l0] at h, fun _ _ _ r h => by simp [hypercubelaw9_MatchSquare.j2] at h, fun _ _ _ _ _ r h => by simp [hypercubelaw9_MatchSquare.l2] at h, fun _ _ _ _ _ _ r h => by simp [hypercubelaw9_MatchSquare.l3] at h, fun _ _ _ _ _ r h => by simp [hypercubelaw9_MatchSquare.l1] at h⟩
  | k + 1 => by
    obtain ⟨ih0, ih1, ih2, ih3, ih4⟩ := hypercubelaw9_MatchSquare.mono_l k
    refine ⟨?_, ?_, ?_, ?_, ?_⟩
    · intro y0 y1 y2 y3 y4
      unfold hypercubelaw9_MatchSquare.l0
      repeat' first
      | (with_reducible exact ih0 _ _ _ _ _)
      | (with_reducible exact ih1 _ _ _)
      | (with_reducible exact ih2 _ _ _ _ _)
      | (with_reducible exact ih3 _ _ _ _ _ _)
      | (with_reducible exact ih4 _ _ _ _ _)
      | (with_reducible exact LeO.refl _)
      | (with_reducible exact LeO.none _)
      | (with_reducible refine LeO.ite ?_ ?_)
      | (with_reducible refine LeO.bind ?_ (fun _ => ?_))
      | exact ih0 _ _ _ _ _
      | exact ih1 _ _ _
      | exact ih2 _ _ _ _ _
      | exact ih3 _ _ _ _ _ _
      | exact ih4 _ _ _ _ _
      | exact LeO.none _
      | refine LeO.ite ?_ ?_
      | refine LeO.bind ?_ (fun _ => ?_)
    · intro y0 y1 y2
      unfold hypercubelaw9_MatchSquare.j2
      repeat' first
      | (with_reducible exact ih0 _ _ _ _ _)
      | (with_reducible exact ih1 _ _ _)
      | (with_reducible exact ih2 _ _ _ _ _)
      | (with_reducible exact ih3 _ _ _ _ _ _)
      | (with_reducible exact ih4 _ _ _ _ _)
      | (with_reducible exact LeO.refl _)
      | (with_reducible exact LeO.none _)
      | (with_reducible refine LeO.ite ?_ ?_)
      | (with_reducible refine LeO.bind ?_ (fun _ => ?_))
      | exact ih0 _ _ _ _ _
      | exact ih1 _ _ _
      | exact ih2 _ _ _ _ _
      | exact ih3 _ _ _ _ _ _
      | exact ih4 _ _ _ _ _
      | exact LeO.none _
      | refine LeO.ite ?_ ?_
      | refine LeO.bind ?_ (fun _ => ?_)
    · intro y0 y1 y2 y3 y4
      unfold hypercubelaw9_MatchSquare.l2
      repeat' first
      | (with_reducible exact ih0 _ _ _ _ _)
      | (with_reducible exact ih1 _ _ _)
      | (with_reducible exact ih2 _ _ _ _ _)
      | (with_reducible exact ih3 _ _ _ _ _ _)
      | (with_reducible exact ih4 _ _ _ _ _)
      | (with_reducible exact LeO.refl _)
      | (with_reducible exact LeO.none _)
      | (with_reducible refine LeO.ite ?_ ?_)
      | (with_reducible refine LeO.bind ?_ (fun _ => ?_))
      | exact ih0 _ _ _ _ _
      | exact ih1 _ _ _
      | exact ih2 _ _ _ _ _
      | exact ih3 _ _ _ _ _ _
      | exact ih4 _ _ _ _ _
      | exact LeO.none _
      | refine LeO.ite ?_ ?_
      | refine LeO.bind ?_ (fun _ => ?_)
    · intro y0 y1 y2 y3 y4 y5
      unfold hypercubelaw9_MatchSquare.l3
      repeat' first
      | (with_reducible exact ih0 _ _ _ _ _)
      | (with_reducible exact ih1 _ _ _)
      | (with_reducible exact ih2 _ _ _ _ _)
      | (with_reducible exact ih3 _ _ _ _ _ _)
      | (with_reducible exact ih4 _ _ _ _ _)
      | (with_reducible exact LeO.refl _)
      | (with_reducible exact LeO.none _)
      | (with_reducible refine LeO.ite ?_ ?_)
      | (with_reducible refine LeO.bind ?_ (fun _ => ?_))
      | exact ih0 _ _ _ _ _
      | exact ih1 _ _ _
      | exact ih2 _ _ _ _ _
      | exact ih3 _ _ _ _ _ _
      | exact ih4 _ _ _ _ _
      | exact LeO.none _
      | refine LeO.ite ?_ ?_
      | refine LeO.bind ?_ (fun _ => ?_)
    · intro y0 y1 y2 y3 y4
      unfold hypercubelaw9_MatchSquare.l1
      repeat' first
      | (with_reducible exact ih0 _ _ _ _ _)
      | (with_reducible exact ih1 _ _ _)
      | (with_reducible exact ih2 _ _ _ _ _)
      | (with_reducible exact ih3 _ _ _ _ _ _)
      | (with_reducible exact ih4 _ _ _ _ _)
      | (with_reducible exact LeO.refl _)
      | (with_reducible exact LeO.none _)
      | (with_reducible refine LeO.ite ?_ ?_)
      | (with_reducible refine LeO.bind ?_ (fun _ => ?_))
      | exact ih0 _ _ _ _ _
      | exact ih1 _ _ _
      | exact ih2 _ _ _ _ _
      | exact ih3 _ _ _ _ _ _
      | exact ih4 _ _ _ _ _
      | exact LeO.none _
      | refine LeO.ite ?_ ?_
      | refine LeO.bind ?_ (fun _ => ?_)
theorem hypercubelaw9_MatchSquare.mono : ∀ a0 a1 a2 k, LeO (hypercubelaw9_MatchSquare.f k a0 a1 a2) (hypercubelaw9_MatchSquare.f (k + 1) a0 a1 a2) := by
  intro a0 a1 a2 k
  obtain ⟨ih0, ih1, ih2, ih3, ih4⟩ := hypercubelaw9_MatchSquare.mono_l k
  unfold hypercubelaw9_MatchSquare.f
  repeat' first
      | (with_reducible exact ih0 _ _ _ _ _)
      | (with_reducible exact ih1 _ _ _)
      | (with_reducible exact ih2 _ _ _ _ _)
      | (with_reducible exact ih3 _ _ _ _ _ _)
      | (with_reducible exact ih4 _ _ _ _ _)
      | (with_reducible exact LeO.refl _)
      | (with_reducible exact LeO.none _)
      | (with_reducible refine LeO.ite ?_ ?_)
      | (with_reducible refine LeO.bind ?_ (fun _ => ?_))
      | exact ih0 _ _ _ _ _
      | exact ih1 _ _ _
      | exact ih2 _ _ _ _ _
      | exact ih3 _ _ _ _ _ _
      | exact ih4 _ _ _ _ _
      | exact LeO.none _
      | refine LeO.ite ?_ ?_
      | refine LeO.bind ?_ (fun _ => ?_)
def hypercubelaw9_MatchSquare.T12 : Bool × List (List Nat × List Nat) := (true, [([], []), ([], []), ([0, 1], [0, 1]), ([], []), ([], []), ([3, 4], [3, 4]), ([5], [5]), ([], []), ([6, 7], [6, 7]), ([2, 8, 0, 1, 2], [2]), ([8, 9, 0, 1, 2, 3, 4, 5, 6, 7, 8, 9], [8])])
def hypercubelaw9_MatchSquare.B12 : List Nat := [0, 0, 3, 0, 0, 24, 56, 0, 248, 511, 1023]
theorem hypercubelaw9_MatchSquare.tab12 : rtab .any (opsOf Try.f7 12) = hypercubelaw9_MatchSquare.T12 := by kernel_rfl
theorem hypercubelaw9_MatchSquare.bits12 : waitsOk hypercubelaw9_MatchSquare.T12.2 hypercubelaw9_MatchSquare.B12 = true := by kernel_rfl
def hypercubelaw9_MatchSquare.T13 : Bool × List (List Nat × List Nat) := (true, [([], []), ([], []), ([], []), ([], []), ([], []), ([], []), ([4, 5], [4, 5]), ([6], [6]), ([], []), ([], []), ([8, 9], [8, 9]), ([10], [10]), ([0, 1, 0, 1, 4, 5, 6, 7, 11], [0, 1]), ([12, 7, 0, 1, 4, 5, 6, 7, 11], [7, 12]), ([2, 3, 0, 1, 2, 3, 4, 5, 6, 7, 8, 9, 10, 11, 12, 13], [2, 3]), ([14, 11, 13, 0, 1, 2, 3, 4, 5, 6, 7, 8, 9, 10, 11, 12, 13], [11, 14])])
def hypercubelaw9_MatchSquare.B13 : List Nat := [0, 0, 0, 0, 0, 0, 48, 112, 0, 0, 768, 1792, 4083, 8179, 16383, 32767]
theorem hypercubelaw9_MatchSquare.tab13 : rtab .any (opsOf Try.f7 13) = hypercubelaw9_MatchSquare.T13 := by kernel_rfl
theorem hypercubelaw9_MatchSquare.bits13 : waitsOk hypercubelaw9_MatchSquare.T13.2 hypercubelaw9_MatchSquare.B13 = true := by kernel_rfl
set_option maxHeartbeats 8000000 in
set_option maxRecDepth 100000 in
theorem hypercubelaw9_MatchSquare.calls (k : Nat) (a0 : Int) (A1 : Option Addr) (c1 : Nat) (l1 : List Int) (A2 : Option Addr) (c2 : Nat) (l2 : List Int) (r : Bool) (w : World) (hr1 : Kd.C (Kd.int .i64) w A1 l1.length l1) (hc1 : l1.length ≤ c1) (hr2 : Kd.C (Kd.int .i64) w A2 l2.length l2) (hc2 : l2.length ≤ c2) (h : hypercubelaw9_MatchSquare.f k a0 l1 l2 = some r) :
    Calls Try.prog 7 #[.int .i64 a0, .slice A1 l1.length c1, .slice A2 l2.length c2] w fun e w' => e = .returned (.bool r) ∧ Below w.heap.size w w' := by
  have HR1 := Aside0.mk hr1
  have HC1 := Aside0.mk hc1
  clear hr1 hc1
  have HR2 := Aside0.mk hr2
  have HC2 := Aside0.mk hc2
  clear hr2 hc2
  have HB := Aside0.mk (Below.refl w.heap.size w)
  have H : ((hypercubelaw9_known.f).bind fun t116 => (if t116 = true then ((hypercubelaw9_within.f a0 8).bind fun t117 => (hypercubelaw9_MatchSquare.l0 k l1 l2 (wrap64 (1 + t117)) ([] : List Int) 0)) else (some false))) = some r := h
  clear h
  replace H := Option.bind_eq_some_iff.mp H
  obtain ⟨t116, A40, H⟩ := H
  replace H : (if t116 = true then ((hypercubelaw9_within.f a0 8).bind fun t117 => (hypercubelaw9_MatchSquare.l0 k l1 l2 (wrap64 (1 + t117)) ([] : List Int) 0)) else (some false)) = some r := H
  have A4 := Aside0.mk A40
  clear A40
  by_cases c5 : t116 = true
  · subst c5
    have H1 : ((hypercubelaw9_within.f a0 8).bind fun t117 => (hypercubelaw9_MatchSquare.l0 k l1 l2 (wrap64 (1 + t117)) ([] : List Int) 0)) = some r := by rw [if_pos rfl] at H; exact H
    clear H
    have H := H1
    clear H1
    replace H := Option.bind_eq_some_iff.mp H
    obtain ⟨t117, A60, H⟩ := H
    replace H : (hypercubelaw9_MatchSquare.l0 k l1 l2 (wrap64 (1 + t117)) ([] : List Int) 0) = some r := H
    have A6 := Aside0.mk A60
    clear A60
    have H' := Aside0.mk H
    clear H
    go_enter Try.func7, Try.ntmps7
    go_wp2_with (first | ((with_reducible refine gate_callee (f := 13) rfl ?_); refine goesL_ (some 20) rfl rfl Try.func13 (by kernel_rfl) rfl #[] rfl (by (try simp only [List.map_toArray, List.map_cons, List.map_nil]); first | done | rfl | (simp only [List.length_drop, List.length_take]; rfl)) ?_; (with_reducible refine (hypercubelaw9_known.calls  true _ A4.out).mono ?_); rintro e w7 ⟨rfl, hb⟩; refine ⟨_, rfl, ?_⟩; have n0_ := Aside0.mk (below_step (by repeat (first | (with_reducible first | exact HB.out | apply below_alloc | apply pw_below_drewN | apply below_drew1) | exact HB.out)) hb); clear HB; have HB := n0_; clear n0_; (try clear hb); (try clear hb2); (try clear hk); (try clear hi)) | ((with_reducible refine gate_callee (f := 18) rfl ?_); refine goesL_ (some 23) rfl rfl Try.func18 (by kernel_rfl) rfl #[.int .i64 a0, .int .i64 8] rfl (by (try simp only [List.map_toArray, List.map_cons, List.map_nil]); first | done | rfl | (simp only [List.length_drop, List.length_take]; rfl)) ?_; (with_reducible refine (hypercubelaw9_within.calls a0 8 t117 _ A6.out).mono ?_); rintro e w8 ⟨rfl, hb⟩; refine ⟨_, rfl, ?_⟩; have n0_ := Aside0.mk (below_step (by repeat (first | (with_reducible first | exact HB.out | apply below_alloc | apply pw_below_drewN | apply below_drew1) | exact HB.out)) hb); clear HB; have HB := n0_; clear n0_; (try clear hb); (try clear hb2); (try clear hk); (try clear hi)))
    go_loopg [8, 9] k (fun kq v8 v9 w' => ∃ (x8_1 : List Int) (x9_1 : Int), v9 = .int .i64 x9_1 ∧ Aside0 (hypercubelaw9_MatchSquare.l0 kq l1 l2 (wrap64 (1 + t117)) x8_1 x9_1 = some r) ∧ Aside0 (kq ≤ k) ∧ Aside0 (Kd.R (Kd.int .i64) 3 w' w.heap.size (fun _ => True) v8 x8_1) ∧ Aside0 (Below w.heap.size w w'))
    case atStart => exact ⟨(([] : List Int)), (0), (by first | rfl | (simp; done) | (simp [*]; done)), H', ⟨Nat.le_refl _⟩, ⟨by first | exact Kd.R_nil _ _ _ _ _ | exact Kd.N_nil _ _ _ _ _ | exact Kd.V_nil _ _ _ _ _ | exact Kd.Q_nil _ _ _ _ _ | exact Kd.S_nil _ _ _ _ _⟩, ⟨by repeat (first | (with_reducible first | exact HB.out | apply below_alloc | apply pw_below_drewN | apply below_drew1) | exact HB.out)⟩⟩
    case round =>
      clear H'
      try clear c1
      try clear c2
      try clear p2
      try clear c5
      try clear p6
      try clear c7
      obtain ⟨x8_1, x9_1, rfl, HA, HK1, HO_8, HB⟩ := hrel
      cases gk with
      | zero => exact absurd HA.out (by simp [hypercubelaw9_MatchSquare.l0])
      | succ k1 =>
        have H := HA.out
        clear HA
        simp only [hypercubelaw9_MatchSquare.l0] at H
        by_cases c9 : x9_1 < (wrap64 (1 + t117))
        · rw [if_pos c9] at H
          have c9b0 : decide (x9_1 < (wrap64 (1 + t117))) = true := decide_eq_true c9
          clear c9
          by_cases c10 : x8_1.length < 17592186044416
          · rw [if_pos c10] at H
            have LMc10 := Aside0.mk c10
            clear c10
            obtain ⟨y118, hy118⟩ : ∃ y_ : List Int, y_ = (x8_1 ++ [x9_1]) := ⟨_, rfl⟩
            replace H : (hypercubelaw9_MatchSquare.l0 k1 l1 l2 (wrap64 (1 + t117)) y118 (wrap64 (x9_1 + 1))) = some r := by first | (rw [hy118]; with_reducible exact H) | (have H2_ := (Option.bind_some _ _).symm.trans H; rw [hy118]; with_reducible exact H2_) | (have H2_ := (Option.bind_some _ _).symm.trans H; with_reducible exact H2_) | with_reducible exact H | (rw [hy118]; exact H) | exact H
            have Ny118 := Aside0.mk hy118
            clear hy118
            have H' := Aside0.mk H
            clear H
            go_wp2_with (first | ((with_reducible refine gate_builtin (b := .append) (xs := #[.tmp 30, .tmp 32]) rfl ?_); at_builtin; refine Kd.R_append (Kd.int .i64) (w0 := w) w.heap.size rfl (.tmp 30) (.tmp 32) 22 3 (.int .i64 0) 8 rfl Try.underlying22 info3 rfl (by decide) (by omega) u8 x8_1 x9_1 [.int .i64 x9_1] (fun _ => True) (fun _ => False) rfl rfl ?aP (fun _ hk => hk.elim) ?aF ?aO ?aB ?aS ?aL ?_; (case aP => exact rfl); (case aB => exact (by repeat (first | (with_reducible first | exact HB.out | apply below_alloc | apply pw_below_drewN | apply below_drew1) | exact HB.out))); (case aF => exact (fun _ _ => trivial)); (case aO => exact (by (with_reducible repeat (first | apply Kd.R_alloc | apply Kd.R_drewN | apply Kd.R_drew)); exact HO_8.out)); (case aS => exact (below_size (by repeat (first | (with_reducible first | exact HB.out | apply below_alloc | apply pw_below_drewN | apply below_drew1) | exact HB.out)))); (case aL => have := LMc10.out; omega); intro v119 w11 ho hb hg hat; rw [← Ny118.out] at ho; have n0_ := Aside0.mk (hb); have n1_ := Aside0.mk (ho); clear HB; clear HO_8; have HB := n0_; have HO120 := n1_; clear n0_ n1_; clear ho hb hg hat))
            go_roundg k1
            case measure => have := HK1.out; omega
            case rel => exact ⟨(y118), (wrap64 (x9_1 + 1)), (by first | rfl | (simp; done) | (simp [*]; done)), H', ⟨by have := HK1.out; omega⟩, ⟨by (with_reducible repeat (first | apply Kd.R_alloc | apply Kd.R_drewN | apply Kd.R_drew)); exact HO120.out⟩, ⟨by repeat (first | (with_reducible first | exact HB.out | apply below_alloc | apply pw_below_drewN | apply below_drew1) | exact HB.out)⟩⟩
          · rw [if_neg c10] at H
            exact absurd H (by simp)
        · rw [if_neg c9] at H
          have c9b0 : decide (x9_1 < (wrap64 (1 + t117))) = false := decide_eq_false c9
          clear c9
          have HC12 := Aside0.mk H
          clear H
          go_upto_block 2 with (fail)
          go_cut [] (fun wc => ∃ (kq : Nat) (x8_11 : List Int), Aside0 (hypercubelaw9_MatchSquare.j2 kq l2 (wrap64 (1 + t117)) x8_11 = some r) ∧ Aside0 (kq ≤ k1) ∧ Aside0 (Kd.R (Kd.int .i64) 3 wc w.heap.size (fun _ => True) u8 x8_11) ∧ Aside0 (Below w.heap.size w wc))
          case first =>
            have H := HC12.out
            clear HC12
            have H' := Aside0.mk H
            clear H
            go_wp2
            go_loopg [10] k1 (fun kq v10 w' => ∃ (x8_2 : List Int) (x10_2 : Int), v10 = .int .i64 x10_2 ∧ Aside0 (hypercubelaw9_MatchSquare.l1 kq l1 l2 (wrap64 (1 + t117)) x8_2 x10_2 = some r) ∧ Aside0 (kq ≤ k1) ∧ Aside0 (Kd.R (Kd.int .i64) 3 w' w.heap.size (fun _ => True) u8 x8_2) ∧ Aside0 (Below w.heap.size w w'))
            case atStart => exact ⟨(x8_1), (0), (by first | rfl | (simp; done) | (simp [*]; done)), H', ⟨Nat.le_refl _⟩, ⟨by (with_reducible repeat (first | apply Kd.R_alloc | apply Kd.R_drewN | apply Kd.R_drew)); exact HO_8.out⟩, ⟨by repeat (first | (with_reducible first | exact HB.out | apply below_alloc | apply pw_below_drewN | apply below_drew1) | exact HB.out)⟩⟩
            case round =>
              clear H'
              try clear c1
              try clear c2
              try clear p2
              try clear c5
              try clear p6
              try clear c7
              try clear c9
              try clear c9b0
              try clear c10
              try clear p2
              try clear p6
              obtain ⟨x8_2, x10_2, rfl, HA, HK2, HO_8, HB⟩ := hrel
              cases gk with
              | zero => exact absurd HA.out (by simp [hypercubelaw9_MatchSquare.l1])
              | succ k2 =>
                have H := HA.out
                clear HA
                simp only [hypercubelaw9_MatchSquare.l1] at H
                by_cases c13 : x10_2 < (l1.length : Int)
                · rw [if_pos c13] at H
                  have c13b0 : decide (x10_2 < (l1.length : Int)) = true := decide_eq_true c13
                  clear c13
                  (first | rw [c13b0] | (simp only [i64_w, i32_w]; rw [c13b0]) | skip)
                  by_cases c14 : x10_2 < 20
                  · rw [if_pos c14] at H
                    have c14b0 : decide (x10_2 < 20) = true := decide_eq_true c14
                    clear c14
                    by_cases c15 : (wrap64 (1 + t117)) = 0
                    · rw [if_pos c15] at H
                      exact absurd H (by simp)
                    · rw [if_neg c15] at H
                      have c15b0 : ((wrap64 (1 + t117)) == 0) = false := beq_eq_false_iff_ne.mpr c15
                      have c15b1 : ((wrap64 (1 + t117)) != 0) = true := bne_iff_ne.mpr c15
                      by_cases c16 : 0 ≤ x10_2
                      · rw [if_pos c16] at H
                        have c16b0 : decide (0 ≤ x10_2) = true := decide_eq_true c16
                        clear c16
                        replace H := Option.bind_eq_some_iff.mp H
                        obtain ⟨t122, A170, H⟩ := H
                        replace H : (if 0 ≤ t122 then (if t122 < (x8_2.length : Int) then (if 0 ≤ (Int.tmod x10_2 (wrap64 (1 + t117))) then (if (Int.tmod x10_2 (wrap64 (1 + t117))) < (x8_2.length : Int) then (hypercubelaw9_MatchSquare.l1 k2 l1 l2 (wrap64 (1 + t117)) ((x8_2.set ((Int.tmod x10_2 (wrap64 (1 + t117))) : Int).toNat (rd x8_2 t122)).set (t122 : Int).toNat (rd x8_2 (Int.tmod x10_2 (wrap64 (1 + t117))))) (wrap64 (x10_2 + 1))) else (none)) else (none)) else (none)) else (none)) = some r := H
                        have A17 := Aside0.mk A170
                        clear A170
                        by_cases c18 : 0 ≤ t122
                        · rw [if_pos c18] at H
                          have c18b0 : decide (0 ≤ t122) = true := decide_eq_true c18
                          clear c18
                          by_cases c19 : t122 < (x8_2.length : Int)
                          · rw [if_pos c19] at H
                            have c19b0 : decide (t122 < (x8_2.length : Int)) = true := decide_eq_true c19
                            clear c19
                            obtain ⟨ji20, hji20⟩ : ∃ j_ : Int, (Int.tmod x10_2 (wrap64 (1 + t117))) = j_ := ⟨_, rfl⟩
                            replace H : (if 0 ≤ (ji20) then (if (ji20) < (x8_2.length : Int) then (hypercubelaw9_MatchSquare.l1 k2 l1 l2 (wrap64 (1 + t117)) ((x8_2.set ((ji20) : Int).toNat (rd x8_2 t122)).set (t122 : Int).toNat (rd x8_2 (ji20))) (wrap64 (x10_2 + 1))) else (none)) else (none)) = some r := by first | (rw [hji20] at H; exact H) | (simp only [hji20] at H ⊢; exact H)
                            (try rw [hji20] at A17)
                            by_cases c21 : 0 ≤ (ji20)
                            · rw [if_pos c21] at H
                              have c21b0 : decide (0 ≤ (ji20)) = true := decide_eq_true c21
                              clear c21
                              by_cases c22 : (ji20) < (x8_2.length : Int)
                              · rw [if_pos c22] at H
                                have c22b0 : decide ((ji20) < (x8_2.length : Int)) = true := decide_eq_true c22
                                clear c22
                                obtain ⟨y125, hy125⟩ : ∃ y_ : List Int, y_ = (x8_2.set ((ji20) : Int).toNat (rd x8_2 t122)) := ⟨_, rfl⟩
                                replace H : (hypercubelaw9_MatchSquare.l1 k2 l1 l2 (wrap64 (1 + t117)) (y125.set (t122 : Int).toNat (rd x8_2 (ji20))) (wrap64 (x10_2 + 1))) = some r := by first | (rw [hy125]; with_reducible exact H) | (have H2_ := (Option.bind_some _ _).symm.trans H; rw [hy125]; with_reducible exact H2_) | (have H2_ := (Option.bind_some _ _).symm.trans H; with_reducible exact H2_) | with_reducible exact H | (rw [hy125]; exact H) | exact H
                                have Ny125 := Aside0.mk hy125
                                clear hy125
                                obtain ⟨y126, hy126⟩ : ∃ y_ : List Int, y_ = (y125.set (t122 : Int).toNat (rd x8_2 (ji20))) := ⟨_, rfl⟩
                                replace H : (hypercubelaw9_MatchSquare.l1 k2 l1 l2 (wrap64 (1 + t117)) y126 (wrap64 (x10_2 + 1))) = some r := by first | (rw [hy126]; with_reducible exact H) | (have H2_ := (Option.bind_some _ _).symm.trans H; rw [hy126]; with_reducible exact H2_) | (have H2_ := (Option.bind_some _ _).symm.trans H; with_reducible exact H2_) | with_reducible exact H | (rw [hy126]; exact H) | exact H
                                have Ny126 := Aside0.mk hy126
                                clear hy126
                                have H' := Aside0.mk H
                                clear H
                                try go_wp2
                                have n0_ := Aside0.mk (Kd.R_drew HO_8.out)
                                have n1_ := Aside0.mk (below_drew1 HB.out)
                                clear HO_8
                                clear HB
                                have HO_8 := n0_
                                have HB := n1_
                                clear n0_ n1_
                                have p121 : 0 ≤ (x10_2 : Int) := of_decide_eq_true (by first | (with_reducible assumption) | assumption)
                                have q121 : x10_2 < (l1.length : Int) := of_decide_eq_true (by first | (with_reducible assumption) | assumption)
                                obtain ⟨ad121, e121, hx121_0⟩ := Kd.at_int HR1.out x10_2 p121 q121
                                have hw121_0 := hx121_0
                                cases e121
                                replace hx121_0 := (HB.out.cell (World.block_lt_of_cell? w _ hx121_0)).trans hx121_0
                                replace p121 := eq_true p121
                                replace q121 := eq_true q121
                                refine start_ (n := 11) (S := fun w' => w'.cell? (ad121.add (x10_2).toNat) = some (.int .i64 (rd l1 x10_2))) (ds := []) #[false, false, false, false, false, false, false, false, false, false, false] (by kernel_rfl) rfl rfl (((HB.out.cell (World.block_lt_of_cell? w _ hw121_0)).trans hw121_0)) (fun hHeld => ?_); refine with_tabW hypercubelaw9_MatchSquare.tab12 hypercubelaw9_MatchSquare.bits12 (fun HT_ HW_ => ?_)
                                generalize wr.drew = w25 at HO_8 HB hx121_0 hHeld ⊢
                                refine pure_ (i := 0) (N := some 44) (v := ?_) (a' := ?_) #[true, false, false, false, false, false, false, false, false, false, false] rfl rfl (any_of HT_.out (by kernel_rfl)) (fun _ _ _ h => h) (Or.inl ⟨by rfl, ?_⟩) ?_ ?_
                                rotate_left
                                · intro w'
                                  go_simp
                                  with_reducible rfl
                                rotate_left
                                · simp only [Act.put, List.setIfInBounds_toArray, List.set_cons_zero, List.set_cons_succ, i64_w, i32_w]
                                  rfl
                                refine pure_ (i := 1) (N := some 45) (v := ?_) (a' := ?_) #[true, true, false, false, false, false, false, false, false, false, false] rfl rfl (any_of HT_.out (by kernel_rfl)) (fun _ _ _ h => h) (Or.inl ⟨by rfl, ?_⟩) ?_ ?_
                                rotate_left
                                · intro w'
                                  go_simp
                                  with_reducible rfl
                                rotate_left
                                · simp only [Act.put, List.setIfInBounds_toArray, List.set_cons_zero, List.set_cons_succ, i64_w, i32_w]
                                  rfl
                                refine pure_ (i := 2) (N := some 46) (v := ?_) (a' := ?_) #[true, true, true, false, false, false, false, false, false, false, false] rfl rfl (any_of HT_.out (by kernel_rfl)) (fun _ _ _ h => h) (Or.inl ⟨by rfl, ?_⟩) ?_ ?_
                                rotate_left
                                · intro w'
                                  go_simp
                                  with_reducible rfl
                                rotate_left
                                · simp only [Act.put, List.setIfInBounds_toArray, List.set_cons_zero, List.set_cons_succ, i64_w, i32_w]
                                  rfl
                                refine pure_ (i := 3) (N := some 47) (v := ?_) (a' := ?_) #[true, true, true, true, false, false, false, false, false, false, false] rfl rfl (any_of HT_.out (by kernel_rfl)) (fun _ _ _ h => h) (Or.inl ⟨by rfl, ?_⟩) ?_ ?_
                                rotate_left
                                · intro w'
                                  go_simp
                                  with_reducible rfl
                                rotate_left
                                · simp only [Act.put, List.setIfInBounds_toArray, List.set_cons_zero, List.set_cons_succ, i64_w, i32_w]
                                  rfl
                                refine pure_ (i := 4) (N := some 48) (v := ?_) (a' := ?_) #[true, true, true, true, true, false, false, false, false, false, false] rfl rfl (any_of HT_.out (by kernel_rfl)) (fun _ _ _ h => h) (Or.inl ⟨by rfl, ?_⟩) ?_ ?_
                                rotate_left
                                · intro w'
                                  go_simp
                                  with_reducible rfl
                                rotate_left
                                · simp only [Act.put, List.setIfInBounds_toArray, List.set_cons_zero, List.set_cons_succ, i64_w, i32_w]
                                  rfl
                                refine pure_ (i := 5) (N := some 49) (v := ?_) (a' := ?_) #[true, true, true, true, true, true, false, false, false, false, false] rfl rfl (any_of HT_.out (by kernel_rfl)) (fun _ _ _ h => h) (Or.inl ⟨by rfl, ?_⟩) ?_ ?_
                                rotate_left
                                · intro w'
                                  go_simp
                                  with_reducible rfl
                                rotate_left
                                · simp only [Act.put, List.setIfInBounds_toArray, List.set_cons_zero, List.set_cons_succ, i64_w, i32_w]
                                  rfl
                                refine pure_ (i := 7) (N := some 51) (v := ?_) (a' := ?_) #[true, true, true, true, true, true, false, true, false, false, false] rfl rfl (any_of HT_.out (by kernel_rfl)) (fun _ _ _ h => h) (Or.inl ⟨by rfl, ?_⟩) ?_ ?_
                                rotate_left
                                · intro w'
                                  go_simp
                                  with_reducible rfl
                                rotate_left
                                · simp only [Act.put, List.setIfInBounds_toArray, List.set_cons_zero, List.set_cons_succ, i64_w, i32_w]
                                  rfl
                                refine take_ (i := 6) (N := some 50) (v := ?_) (a' := ?_) #[true, true, true, true, true, true, true, true, false, false, false] rfl rfl (take_ofW HT_.out HW_.out (by kernel_rfl)) (fun _ _ _ h => h) (Or.inl ⟨by rfl, ?_⟩) hHeld ?_ ?_
                                rotate_left
                                · intro w' s0
                                  go_simp
                                  with_reducible rfl
                                rotate_left
                                · simp only [Act.put, List.setIfInBounds_toArray, List.set_cons_zero, List.set_cons_succ, i64_w, i32_w]
                                  rfl
                                refine one_ (i := 8) (N := some 52) #[true, true, true, true, true, true, true, true, true, false, false] rfl rfl (one_of HT_.out (by kernel_rfl)) (by decide) (fun K hK => ?_)
                                refine goes_ Try.func18 (by kernel_rfl) rfl #[.int .i64 (rd l1 x10_2), .int .i64 (wrap64 (1 + t117))] (by rfl) rfl rfl (by (try simp only [List.map_toArray, List.map_cons, List.map_nil]); first | done | rfl | (simp only [List.length_drop, List.length_take]; rfl)) ?_
                                with_reducible refine (hypercubelaw9_within.calls (rd l1 x10_2) (wrap64 (1 + t117)) t122 _ A17.out).mono ?_
                                rintro e w26 ⟨rfl, hb⟩
                                refine ⟨_, rfl, ?_⟩
                                have n0_ := Aside0.mk (Kd.R_below (by (with_reducible repeat (first | apply Kd.R_alloc | apply Kd.R_drewN | apply Kd.R_drew)); exact HO_8.out) hb)
                                have n1_ := Aside0.mk (below_step (by repeat (first | (with_reducible first | exact HB.out | apply below_alloc | apply pw_below_drewN | apply below_drew1) | exact HB.out)) hb)
                                clear HO_8
                                clear HB
                                have HO_8 := n0_
                                have HB := n1_
                                clear n0_ n1_
                                (try clear hb)
                                (try clear hb2)
                                (try clear hk)
                                (try clear hi)
                                refine hK.out _ _ (((HB.out.cell (World.block_lt_of_cell? w _ hw121_0)).trans hw121_0)) (fun hHeld => ?_)
                                clear hK K
                                refine norm_ (a' := ?_) ?_ ?_
                                rotate_left
                                · show Act.put _ (some 52) _ = _
                                  simp only [Act.put, List.setIfInBounds_toArray, List.set_cons_zero, List.set_cons_succ, i64_w, i32_w]
                                  rfl
                                refine pure_ (i := 9) (N := some 11) (v := ?_) (a' := ?_) #[true, true, true, true, true, true, true, true, true, true, false] rfl rfl (any_of HT_.out (by kernel_rfl)) (fun _ _ _ h => h) (Or.inl ⟨by rfl, ?_⟩) ?_ ?_
                                rotate_left
                                · intro w'
                                  go_simp
                                  with_reducible rfl
                                rotate_left
                                · simp only [Act.put, List.setIfInBounds_toArray, List.set_cons_zero, List.set_cons_succ, i64_w, i32_w]
                                  rfl
                                refine pure_ (i := 10) (N := some 12) (v := ?_) (a' := ?_) #[true, true, true, true, true, true, true, true, true, true, true] rfl rfl (any_of HT_.out (by kernel_rfl)) (fun _ _ _ h => h) (Or.inl ⟨by rfl, ?_⟩) ?_ ?_
                                rotate_left
                                · intro w'
                                  go_simp
                                  with_reducible rfl
                                rotate_left
                                · simp only [Act.put, List.setIfInBounds_toArray, List.set_cons_zero, List.set_cons_succ, i64_w, i32_w]
                                  rfl
                                refine done_ (done_of HT_.out (by kernel_rfl)) ?_
                                try go_wp2
                                have n0_ := Aside0.mk (Kd.R_drew HO_8.out)
                                have n1_ := Aside0.mk (below_drew1 HB.out)
                                clear HO_8
                                clear HB
                                have HO_8 := n0_
                                have HB := n1_
                                clear n0_ n1_
                                obtain ⟨Ao28, co28, eo28⟩ := Kd.R_slice HO_8.out
                                (first | subst eo28 | (injection eo28 with f1_ f2_ f3_; have f4_ := f1_.symm; have f5_ := f3_.symm; clear f1_ f2_ f3_; subst f4_; subst f5_))
                                have p123 : 0 ≤ (t122 : Int) := of_decide_eq_true (by first | (with_reducible assumption) | assumption)
                                have q123 : t122 < (x8_2.length : Int) := of_decide_eq_true (by first | (with_reducible assumption) | assumption)
                                obtain ⟨ad123, e123, hx123_0⟩ := Kd.at_int (Kd.R_reads' HO_8.out).2.2 t122 p123 q123
                                cases e123
                                replace p123 := eq_true p123
                                replace q123 := eq_true q123
                                have p124 : 0 ≤ ((ji20) : Int) := of_decide_eq_true (by first | (with_reducible assumption) | assumption)
                                have q124 : (ji20) < (x8_2.length : Int) := of_decide_eq_true (by first | (with_reducible assumption) | assumption)
                                obtain ⟨ad124, e124, hx124_0⟩ := Kd.at_int (Kd.R_reads' HO_8.out).2.2 (ji20) p124 q124
                                obtain rfl : ad123 = ad124 := (by injection e124)
                                replace p124 := eq_true p124
                                replace q124 := eq_true q124
                                have p23 : 0 ≤ ((ji20) : Int) := of_decide_eq_true (by first | (with_reducible assumption) | assumption)
                                have q23 : ((ji20) : Int) < ((x8_2.length : Int) : Int) := of_decide_eq_true (by first | (with_reducible assumption) | assumption)
                                obtain ⟨go23, co23, eo23, gb23, gl23, cl23, HG23⟩ := Kd.R_form HO_8.out (by omega)
                                (first | cases eo23 | (injection eo23 with ea_ en_ ec_; (first | subst ea_ | (injection ea_ with ea_; subst ea_)); subst ec_; clear en_))
                                have GB23 := Aside0.mk gb23
                                have GG23 := Aside0.mk HG23
                                clear gb23 gl23 HG23
                                (first | simp only [add_plain] at hx123_0 | skip)
                                (first | simp only [add_plain] at hx124_0 | skip)
                                obtain ⟨hx23_0, hf23_0⟩ := Kd.R_celln 0 HO_8.out ((ji20) : Int) p23 q23
                                replace p23 := eq_true p23
                                replace q23 := eq_true q23
                                have HP29 := Kd.R_putn HO_8.out ((ji20) : Int) (rd x8_2 t122)
                                rw [← Ny125.out] at HP29
                                have HQ29 := Aside0.mk HP29
                                clear HP29
                                have p24 : 0 ≤ (t122 : Int) := of_decide_eq_true (by first | (with_reducible assumption) | assumption)
                                have q24 : (t122 : Int) < ((x8_2.length : Int) : Int) := of_decide_eq_true (by first | (with_reducible assumption) | assumption)
                                obtain ⟨hx24_0, hf24_0⟩ := Kd.R_celln 0 HQ29.out (t122 : Int) p24 q24
                                replace p24 := eq_true p24
                                replace q24 := eq_true q24
                                have HP30 := Kd.R_putn HQ29.out (t122 : Int) (rd x8_2 (ji20))
                                rw [← Ny126.out] at HP30
                                have HQ30 := Aside0.mk HP30
                                clear HP30
                                refine start_ (n := 16) (S := fun w' => w'.cell? ⟨go23, (t122).toNat, none⟩ = some (.int .i64 (rd x8_2 t122)) ∧ w'.cell? ⟨go23, ((ji20)).toNat, none⟩ = some (.int .i64 (rd x8_2 (ji20)))) (ds := [13, 15]) #[false, false, false, false, false, false, false, false, false, false, false, false, false, false, false, false] (by kernel_rfl) rfl rfl ⟨hx123_0, hx124_0⟩ (fun hHeld => ?_); refine with_tabW hypercubelaw9_MatchSquare.tab13 hypercubelaw9_MatchSquare.bits13 (fun HT_ HW_ => ?_)
                                generalize w26.drew = w27 at HO_8 HB GG23 HQ29 HQ30 hf23_0 hf24_0 hx123_0 hx124_0 hx23_0 hx24_0 hHeld ⊢
                                refine pure_ (i := 0) (N := some 53) (v := ?_) (a' := ?_) #[true, false, false, false, false, false, false, false, false, false, false, false, false, false, false, false] rfl rfl (any_of HT_.out (by kernel_rfl)) (fun _ _ _ h => h) (Or.inl ⟨by rfl, ?_⟩) ?_ ?_
                                rotate_left
                                · intro w'
                                  go_simp
                                  with_reducible rfl
                                rotate_left
                                · simp only [Act.put, List.setIfInBounds_toArray, List.set_cons_zero, List.set_cons_succ, i64_w, i32_w]
                                  rfl
                                refine pure_ (i := 1) (N := some 54) (v := ?_) (a' := ?_) #[true, true, false, false, false, false, false, false, false, false, false, false, false, false, false, false] rfl rfl (any_of HT_.out (by kernel_rfl)) (fun _ _ _ h => h) (Or.inl ⟨by rfl, ?_⟩) ?_ ?_
                                rotate_left
                                · intro w'
                                  go_simp
                                  with_reducible rfl
                                rotate_left
                                · simp only [Act.put, List.setIfInBounds_toArray, List.set_cons_zero, List.set_cons_succ, i64_w, i32_w]
                                  rfl
                                refine pure_ (i := 2) (N := some 55) (v := ?_) (a' := ?_) #[true, true, true, false, false, false, false, false, false, false, false, false, false, false, false, false] rfl rfl (any_of HT_.out (by kernel_rfl)) (fun _ _ _ h => h) (Or.inl ⟨by rfl, ?_⟩) ?_ ?_
                                rotate_left
                                · intro w'
                                  go_simp
                                  with_reducible rfl
                                rotate_left
                                · simp only [Act.put, List.setIfInBounds_toArray, List.set_cons_zero, List.set_cons_succ, i64_w, i32_w]
                                  rfl
                                refine pure_ (i := 3) (N := some 56) (v := ?_) (a' := ?_) #[true, true, true, true, false, false, false, false, false, false, false, false, false, false, false, false] rfl rfl (any_of HT_.out (by kernel_rfl)) (fun _ _ _ h => h) (Or.inl ⟨by rfl, ?_⟩) ?_ ?_
                                rotate_left
                                · intro w'
                                  go_simp
                                  with_reducible rfl
                                rotate_left
                                · simp only [Act.put, List.setIfInBounds_toArray, List.set_cons_zero, List.set_cons_succ, i64_w, i32_w]
                                  rfl
                                refine pure_ (i := 4) (N := some 57) (v := ?_) (a' := ?_) #[true, true, true, true, true, false, false, false, false, false, false, false, false, false, false, false] rfl rfl (any_of HT_.out (by kernel_rfl)) (fun _ _ _ h => h) (Or.inl ⟨by rfl, ?_⟩) ?_ ?_
                                rotate_left
                                · intro w'
                                  go_simp
                                  with_reducible rfl
                                rotate_left
                                · simp only [Act.put, List.setIfInBounds_toArray, List.set_cons_zero, List.set_cons_succ, i64_w, i32_w]
                                  rfl
                                refine pure_ (i := 5) (N := some 58) (v := ?_) (a' := ?_) #[true, true, true, true, true, true, false, false, false, false, false, false, false, false, false, false] rfl rfl (any_of HT_.out (by kernel_rfl)) (fun _ _ _ h => h) (Or.inl ⟨by rfl, ?_⟩) ?_ ?_
                                rotate_left
                                · intro w'
                                  go_simp
                                  with_reducible rfl
                                rotate_left
                                · simp only [Act.put, List.setIfInBounds_toArray, List.set_cons_zero, List.set_cons_succ, i64_w, i32_w]
                                  rfl
                                refine pure_ (i := 6) (N := some 59) (v := ?_) (a' := ?_) #[true, true, true, true, true, true, true, false, false, false, false, false, false, false, false, false] rfl rfl (any_of HT_.out (by kernel_rfl)) (fun _ _ _ h => h) (Or.inl ⟨by rfl, ?_⟩) ?_ ?_
                                rotate_left
                                · intro w'
                                  go_simp
                                  with_reducible rfl
                                rotate_left
                                · simp only [Act.put, List.setIfInBounds_toArray, List.set_cons_zero, List.set_cons_succ, i64_w, i32_w]
                                  rfl
                                refine pure_ (i := 8) (N := some 61) (v := ?_) (a' := ?_) #[true, true, true, true, true, true, true, false, true, false, false, false, false, false, false, false] rfl rfl (any_of HT_.out (by kernel_rfl)) (fun _ _ _ h => h) (Or.inl ⟨by rfl, ?_⟩) ?_ ?_
                                rotate_left
                                · intro w'
                                  go_simp
                                  with_reducible rfl
                                rotate_left
                                · simp only [Act.put, List.setIfInBounds_toArray, List.set_cons_zero, List.set_cons_succ, i64_w, i32_w]
                                  rfl
                                refine pure_ (i := 9) (N := some 62) (v := ?_) (a' := ?_) #[true, true, true, true, true, true, true, false, true, true, false, false, false, false, false, false] rfl rfl (any_of HT_.out (by kernel_rfl)) (fun _ _ _ h => h) (Or.inl ⟨by rfl, ?_⟩) ?_ ?_
                                rotate_left
                                · intro w'
                                  go_simp
                                  with_reducible rfl
                                rotate_left
                                · simp only [Act.put, List.setIfInBounds_toArray, List.set_cons_zero, List.set_cons_succ, i64_w, i32_w]
                                  rfl
                                refine pure_ (i := 10) (N := some 63) (v := ?_) (a' := ?_) #[true, true, true, true, true, true, true, false, true, true, true, false, false, false, false, false] rfl rfl (any_of HT_.out (by kernel_rfl)) (fun _ _ _ h => h) (Or.inl ⟨by rfl, ?_⟩) ?_ ?_
                                rotate_left
                                · intro w'
                                  go_simp
                                  with_reducible rfl
                                rotate_left
                                · simp only [Act.put, List.setIfInBounds_toArray, List.set_cons_zero, List.set_cons_succ, i64_w, i32_w]
                                  rfl
                                refine take_ (i := 7) (N := some 60) (v := ?_) (a' := ?_) #[true, true, true, true, true, true, true, true, true, true, true, false, false, false, false, false] rfl rfl (take_ofW HT_.out HW_.out (by kernel_rfl)) (fun _ _ _ h => h) (Or.inl ⟨by rfl, ?_⟩) hHeld ?_ ?_
                                rotate_left
                                · rintro w' ⟨s0, s1⟩
                                  go_simp
                                  with_reducible rfl
                                rotate_left
                                · simp only [Act.put, List.setIfInBounds_toArray, List.set_cons_zero, List.set_cons_succ, i64_w, i32_w]
                                  rfl
                                refine take_ (i := 11) (N := some 64) (v := ?_) (a' := ?_) #[true, true, true, true, true, true, true, true, true, true, true, true, false, false, false, false] rfl rfl (take_ofW HT_.out HW_.out (by kernel_rfl)) (fun _ _ _ h => h) (Or.inl ⟨by rfl, ?_⟩) hHeld ?_ ?_
                                rotate_left
                                · rintro w' ⟨s0, s1⟩
                                  go_simp
                                  with_reducible rfl
                                rotate_left
                                · simp only [Act.put, List.setIfInBounds_toArray, List.set_cons_zero, List.set_cons_succ, i64_w, i32_w]
                                  rfl
                                refine pure_ (i := 12) (N := some 65) (v := ?_) (a' := ?_) #[true, true, true, true, true, true, true, true, true, true, true, true, true, false, false, false] rfl rfl (any_of HT_.out (by kernel_rfl)) (fun _ _ _ h => h) (Or.inl ⟨by rfl, ?_⟩) ?_ ?_
                                rotate_left
                                · intro w'
                                  go_simp
                                  with_reducible rfl
                                rotate_left
                                · simp only [Act.put, List.setIfInBounds_toArray, List.set_cons_zero, List.set_cons_succ, i64_w, i32_w]
                                  rfl
                                refine last_ (i := 13) (N := none) #[true, true, true, true, true, true, true, true, true, true, true, true, true, true, false, false] rfl rfl (one_of HT_.out (by kernel_rfl)) (by decide) (fun K hK => ?_)
                                refine skip_ (w1 := ?_) (by rfl) rfl ?_ ?_
                                rotate_left
                                · go_simp
                                  rfl
                                refine hK.out _ _ ?_
                                clear hK K
                                refine pure_ (i := 14) (N := some 66) (v := ?_) (a' := ?_) #[true, true, true, true, true, true, true, true, true, true, true, true, true, true, true, false] rfl rfl (any_of HT_.out (by kernel_rfl)) (fun _ _ _ h => h) (Or.inl ⟨by rfl, ?_⟩) ?_ ?_
                                rotate_left
                                · intro w'
                                  go_simp
                                  with_reducible rfl
                                rotate_left
                                · simp only [Act.put, List.setIfInBounds_toArray, List.set_cons_zero, List.set_cons_succ, i64_w, i32_w]
                                  rfl
                                refine last_ (i := 15) (N := none) #[true, true, true, true, true, true, true, true, true, true, true, true, true, true, true, true] rfl rfl (one_of HT_.out (by kernel_rfl)) (by decide) (fun K hK => ?_)
                                refine skip_ (w1 := ?_) (by rfl) rfl ?_ ?_
                                rotate_left
                                · go_simp
                                  rfl
                                refine hK.out _ _ ?_
                                clear hK K
                                refine done_ (done_of HT_.out (by kernel_rfl)) ?_
                                try go_wp2
                                go_roundg k2
                                case measure => have := HK1.out; have := HK2.out; omega
                                case rel => exact ⟨(y126), (wrap64 (x10_2 + 1)), (by first | rfl | (simp; done) | (simp [*]; done)), H', ⟨by have := HK1.out; have := HK2.out; omega⟩, ⟨by (with_reducible repeat (first | apply Kd.R_alloc | apply Kd.R_drewN | apply Kd.R_drew)); exact HQ30.out⟩, ⟨by repeat (first | (with_reducible first | exact HB.out | apply below_alloc | apply pw_below_drewN | apply below_drew1 | refine below_set ?_ GB23.out | refine below_set ?_ GB23.out) | exact HB.out)⟩⟩
                              · rw [if_neg c22] at H
                                exact absurd H (by simp)
                            · rw [if_neg c21] at H
                              exact absurd H (by simp)
                          · rw [if_neg c19] at H
                            exact absurd H (by simp)
                        · rw [if_neg c18] at H
                          exact absurd H (by simp)
                      · rw [if_neg c16] at H
                        exact absurd H (by simp)
                  · rw [if_neg c14] at H
                    have c14b0 : decide (x10_2 < 20) = false := decide_eq_false c14
                    clear c14
                    have H' := Aside0.mk H
                    clear H
                    go_wp2
                    go_meet
                    case rel => exact ⟨_, (x8_2), H', ⟨by have := HK1.out; have := HK2.out; first | omega | exact Nat.le_refl _⟩, ⟨by (with_reducible repeat (first | apply Kd.R_alloc | apply Kd.R_drewN | apply Kd.R_drew)); exact HO_8.out⟩, ⟨by repeat (first | (with_reducible first | exact HB.out | apply below_alloc | apply pw_below_drewN | apply below_drew1) | exact HB.out)⟩⟩
                · rw [if_neg c13] at H
                  have c13b0 : decide (x10_2 < (l1.length : Int)) = false := decide_eq_false c13
                  clear c13
                  (first | rw [c13b0] | (simp only [i64_w, i32_w]; rw [c13b0]) | skip)
                  have H' := Aside0.mk H
                  clear H
                  go_wp2
                  go_meet
                  case rel => exact ⟨_, (x8_2), H', ⟨by have := HK1.out; have := HK2.out; first | omega | exact Nat.le_refl _⟩, ⟨by (with_reducible repeat (first | apply Kd.R_alloc | apply Kd.R_drewN | apply Kd.R_drew)); exact HO_8.out⟩, ⟨by repeat (first | (with_reducible first | exact HB.out | apply below_alloc | apply pw_below_drewN | apply below_drew1) | exact HB.out)⟩⟩
          case rest =>
            clear HC12
            try clear c1
            try clear p1
            try clear q1
            try clear hx1
            try clear c2
            try clear p2
            try clear q2
            try clear hx2
            try clear c5
            try clear p6
            try clear c7
            try clear c9
            try clear c9b0
            try clear c10
            try clear p12
            try clear q12
            try clear hx12
            try clear c13
            try clear c13b0
            try clear c14
            try clear c14b0
            try clear c15
            try clear c15b0
            try clear c15b1
            try clear c16
            try clear c16b0
            try clear c18
            try clear c18b0
            try clear c19
            try clear c19b0
            try clear c21
            try clear c21b0
            try clear c22
            try clear c22b0
            try clear p23
            try clear q23
            try clear hx23
            try clear hf23
            try clear p24
            try clear q24
            try clear hx24
            try clear hf24
            try clear hx121_0
            try clear hx123_0
            try clear hx124_0
            try clear hx23_0
            try clear hx24_0
            try clear p121
            try clear p123
            try clear p124
            try clear p2
            try clear p23
            try clear p24
            try clear p6
            try clear q121
            try clear q123
            try clear q124
            try clear q23
            try clear q24
            obtain ⟨kq, x8_11, HA, HJ11, HO_8, HB⟩ := hcut
            cases kq with
            | zero => exact absurd HA.out (by simp [hypercubelaw9_MatchSquare.j2])
            | succ kj11 =>
              have H := HA.out
              clear HA
              simp only [hypercubelaw9_MatchSquare.j2] at H
              obtain ⟨ji31, hji31⟩ : ∃ j_ : Int, (wrap64 (1 + t117)) = j_ := ⟨_, rfl⟩
              replace H : (if 0 ≤ (ji31) then (if ((ji31) : Int).toNat ≤ 11728124029610 then (hypercubelaw9_MatchSquare.l2 kj11 l2 (ji31) x8_11 (List.replicate ((ji31) : Int).toNat []) 0) else (none)) else (none)) = some r := by first | (rw [hji31] at H; exact H) | (simp only [hji31] at H ⊢; exact H)
              (try rw [hji31] at c9b0)
              have hji31w : (IntKind.i64.wrap (1 + t117)) = ji31 := (i64_w _).trans hji31
              by_cases c32 : 0 ≤ (ji31)
              · rw [if_pos c32] at H
                have c32b0 := eq_true c32
                have c32b1 : decide (0 ≤ (ji31)) = true := decide_eq_true c32
                clear c32
                by_cases c33 : ((ji31) : Int).toNat ≤ 11728124029610
                · rw [if_pos c33] at H
                  have c33b0 := eq_true c33
                  have c33b1 : decide (((ji31) : Int).toNat ≤ 11728124029610) = true := decide_eq_true c33
                  clear c33
                  obtain ⟨y127, hy127⟩ : ∃ y_ : List (List Int), y_ = (List.replicate ((ji31) : Int).toNat []) := ⟨_, rfl⟩
                  replace H : (hypercubelaw9_MatchSquare.l2 kj11 l2 (ji31) x8_11 y127 0) = some r := by first | (rw [hy127]; with_reducible exact H) | (have H2_ := (Option.bind_some _ _).symm.trans H; rw [hy127]; with_reducible exact H2_) | (have H2_ := (Option.bind_some _ _).symm.trans H; with_reducible exact H2_) | with_reducible exact H | (rw [hy127]; exact H) | exact H
                  have Ny127 := Aside0.mk hy127
                  clear hy127
                  have H' := Aside0.mk H
                  clear H
                  go_wp2_with (first | ((with_reducible refine gate_dst (N := 68) rfl ?_); refine Kd.S_make (Kd.slice 3 (Kd.int .i64)) _ 22 rfl (N := 68) rfl 24 _ _ rfl (ji31) (congrArg (Value.int .i64) hji31) (congrArg (Value.int .i64) hji31) Try.underlying24 (.slice none 0 0) 24 info22 rfl (by decide) (by omega) [] (ok := fun _ => True) (okp := fun _ => True) ⟨_, rfl, Kd.R_nil _ _ _ _ _⟩ (fun _ hk => hk) trivial (of_decide_eq_true (by first | (with_reducible assumption) | assumption)) (Nat.le_trans (Nat.mul_le_mul_right _ (of_decide_eq_true (by first | (with_reducible assumption) | assumption) : (ji31).toNat ≤ 11728124029610)) (by omega)) (Below.refl _ _) (Nat.le_refl _) ?_; intro v128 w34 ho35 hb hg_ hnew_; clear hg_ hnew_; (first | rw [← Ny127.out] at ho35 | (simp only [Int.reduceToNat] at ho35; rw [← Ny127.out] at ho35)); have n0_ := Aside0.mk (Kd.R_below (by (with_reducible repeat (first | apply Kd.R_alloc | apply Kd.R_drewN | apply Kd.R_drew)); exact HO_8.out) hb); have n1_ := Aside0.mk (Kd.S_lower (Kd.S_new' ho35 (Kd.R_lt (by (with_reducible repeat (first | apply Kd.R_alloc | apply Kd.R_drewN | apply Kd.R_drew)); exact HO_8.out))) (below_size (by repeat (first | (with_reducible first | exact HB.out | apply below_alloc | apply pw_below_drewN | apply below_drew1) | exact HB.out)))); have n2_ := Aside0.mk (below_step (by repeat (first | (with_reducible first | exact HB.out | apply below_alloc | apply pw_below_drewN | apply below_drew1) | exact HB.out)) hb); clear HO_8; clear HB; have HO_8 := n0_; have HO129 := n1_; have HB := n2_; clear n0_ n1_ n2_; clear hb ho35))
                  go_loopg [14] kj11 (fun kq v14 w' => ∃ (x13_3 : List (List Int)) (x14_3 : Int), v14 = .int .i64 x14_3 ∧ Aside0 (hypercubelaw9_MatchSquare.l2 kq l2 (ji31) x8_11 x13_3 x14_3 = some r) ∧ Aside0 (kq ≤ kj11) ∧ Aside0 (Kd.R (Kd.int .i64) 3 w' w.heap.size (fun _ => True) u8 x8_11) ∧ Aside0 (Kd.S (Kd.slice 3 (Kd.int .i64)) 22 w' w.heap.size (fun k_ => some k_ ≠ (u8 : Value).ownBlock) v128 x13_3) ∧ Aside0 (Below w.heap.size w w'))
                  case atStart => exact ⟨(y127), (0), (by first | rfl | (simp; done) | (simp [*]; done)), H', ⟨Nat.le_refl _⟩, ⟨by (with_reducible repeat (first | apply Kd.R_alloc | apply Kd.R_drewN | apply Kd.R_drew)); exact HO_8.out⟩, ⟨by (with_reducible repeat (first | apply Kd.S_alloc | apply Kd.S_drewN | apply Kd.S_drew)); exact Kd.S_mono HO129.out (fun _ hk => hk.2)⟩, ⟨by repeat (first | (with_reducible first | exact HB.out | apply below_alloc | apply pw_below_drewN | apply below_drew1) | exact HB.out)⟩⟩
                  case round =>
                    clear H'
                    try clear c1
                    try clear p1
                    try clear q1
                    try clear hx1
                    try clear c2
                    try clear p2
                    try clear q2
                    try clear hx2
                    try clear c3
                    try clear c5
                    try clear p6
                    try clear c7
                    try clear c9
                    try clear c9b0
                    try clear c10
                    try clear p12
                    try clear q12
                    try clear hx12
                    try clear c13
                    try clear c13b0
                    try clear c14
                    try clear c14b0
                    try clear c15
                    try clear c15b0
                    try clear c15b1
                    try clear c16
                    try clear c16b0
                    try clear c18
                    try clear c18b0
                    try clear c19
                    try clear c19b0
                    try clear c21
                    try clear c21b0
                    try clear c22
                    try clear c22b0
                    try clear p23
                    try clear q23
                    try clear hx23
                    try clear hf23
                    try clear p24
                    try clear q24
                    try clear hx24
                    try clear hf24
                    try clear c32
                    try clear c32b0
                    try clear c32b1
                    try clear c33
                    try clear c33b0
                    try clear c33b1
                    try clear hx121_0
                    try clear hx123_0
                    try clear hx124_0
                    try clear hx23_0
                    try clear hx24_0
                    try clear p1
                    try clear p12
                    try clear p121
                    try clear p123
                    try clear p124
                    try clear p2
                    try clear p23
                    try clear p24
                    try clear p6
                    try clear q1
                    try clear q12
                    try clear q121
                    try clear q123
                    try clear q124
                    try clear q2
                    try clear q23
                    try clear q24
                    obtain ⟨x13_3, x14_3, rfl, HA, HK3, HO_8, HO_13, HB⟩ := hrel
                    cases gk with
                    | zero => exact absurd HA.out (by simp [hypercubelaw9_MatchSquare.l2])
                    | succ k3 =>
                      have H := HA.out
                      clear HA
                      simp only [hypercubelaw9_MatchSquare.l2] at H
                      by_cases c36 : x14_3 < (ji31)
                      · rw [if_pos c36] at H
                        have c36b0 : decide (x14_3 < (ji31)) = true := decide_eq_true c36
                        clear c36
                        have H' := Aside0.mk H
                        clear H
                        go_wp2
                        go_loopg [15] k3 (fun kq v15 w' => ∃ (x13_4 : List (List Int)) (x15_4 : Int), v15 = .int .i64 x15_4 ∧ Aside0 (hypercubelaw9_MatchSquare.l3 kq l2 (ji31) x8_11 x13_4 x14_3 x15_4 = some r) ∧ Aside0 (kq ≤ k3) ∧ Aside0 (Kd.R (Kd.int .i64) 3 w' w.heap.size (fun _ => True) u8 x8_11) ∧ Aside0 (Kd.S (Kd.slice 3 (Kd.int .i64)) 22 w' w.heap.size (fun k_ => some k_ ≠ (u8 : Value).ownBlock) v128 x13_4) ∧ Aside0 (Below w.heap.size w w'))
                        case atStart => exact ⟨(x13_3), (0), (by first | rfl | (simp; done) | (simp [*]; done)), H', ⟨Nat.le_refl _⟩, ⟨by (with_reducible repeat (first | apply Kd.R_alloc | apply Kd.R_drewN | apply Kd.R_drew)); exact HO_8.out⟩, ⟨by (with_reducible repeat (first | apply Kd.S_alloc | apply Kd.S_drewN | apply Kd.S_drew)); exact HO_13.out⟩, ⟨by repeat (first | (with_reducible first | exact HB.out | apply below_alloc | apply pw_below_drewN | apply below_drew1) | exact HB.out)⟩⟩
                        case round =>
                          clear H'
                          try clear c1
                          try clear p1
                          try clear q1
                          try clear hx1
                          try clear c2
                          try clear p2
                          try clear q2
                          try clear hx2
                          try clear c3
                          try clear c5
                          try clear p6
                          try clear c7
                          try clear c9
                          try clear c9b0
                          try clear c10
                          try clear p12
                          try clear q12
                          try clear hx12
                          try clear c13
                          try clear c13b0
                          try clear c14
                          try clear c14b0
                          try clear c15
                          try clear c15b0
                          try clear c15b1
                          try clear c16
                          try clear c16b0
                          try clear c18
                          try clear c18b0
                          try clear c19
                          try clear c19b0
                          try clear c21
                          try clear c21b0
                          try clear c22
                          try clear c22b0
                          try clear p23
                          try clear q23
                          try clear hx23
                          try clear hf23
                          try clear p24
                          try clear q24
                          try clear hx24
                          try clear hf24
                          try clear c32
                          try clear c32b0
                          try clear c32b1
                          try clear c33
                          try clear c33b0
                          try clear c33b1
                          try clear c36
                          try clear c36b0
                          try clear hx121_0
                          try clear hx123_0
                          try clear hx124_0
                          try clear hx23_0
                          try clear hx24_0
                          try clear p1
                          try clear p12
                          try clear p121
                          try clear p123
                          try clear p124
                          try clear p2
                          try clear p23
                          try clear p24
                          try clear p6
                          try clear q1
                          try clear q12
                          try clear q121
                          try clear q123
                          try clear q124
                          try clear q2
                          try clear q23
                          try clear q24
                          obtain ⟨x13_4, x15_4, rfl, HA, HK4, HO_8, HO_13, HB⟩ := hrel
                          cases gk with
                          | zero => exact absurd HA.out (by simp [hypercubelaw9_MatchSquare.l3])
                          | succ k4 =>
                            have H := HA.out
                            clear HA
                            simp only [hypercubelaw9_MatchSquare.l3] at H
                            by_cases c37 : x15_4 < (ji31)
                            · rw [if_pos c37] at H
                              have c37b0 : decide (x15_4 < (ji31)) = true := decide_eq_true c37
                              clear c37
                              by_cases c38 : (wrap64 ((wrap64 (x14_3 * (ji31))) + x15_4)) < (l2.length : Int)
                              · rw [if_pos c38] at H
                                have c38b0 : decide ((wrap64 ((wrap64 (x14_3 * (ji31))) + x15_4)) < (l2.length : Int)) = true := decide_eq_true c38
                                clear c38
                                obtain ⟨ji39, hji39⟩ : ∃ j_ : Int, (wrap64 ((wrap64 (x14_3 * (ji31))) + x15_4)) = j_ := ⟨_, rfl⟩
                                replace H : (if 0 ≤ (ji39) then ((hypercubelaw9_within.f (rd l2 (ji39)) 99).bind fun t137 => (if 0 ≤ x14_3 then (if x14_3 < (x8_11.length : Int) then (if (rd x8_11 x14_3) = x15_4 then (if x14_3 < (x13_4.length : Int) then (if (rd_L1 x13_4 x14_3).length < 17592186044416 then (hypercubelaw9_MatchSquare.l3 k4 l2 (ji31) x8_11 (x13_4.set (x14_3 : Int).toNat ((rd_L1 x13_4 x14_3) ++ [0])) x14_3 (wrap64 (x15_4 + 1))) else (none)) else (none)) else (if x14_3 < (x13_4.length : Int) then (if (rd_L1 x13_4 x14_3).length < 17592186044416 then (hypercubelaw9_MatchSquare.l3 k4 l2 (ji31) x8_11 (x13_4.set (x14_3 : Int).toNat ((rd_L1 x13_4 x14_3) ++ [wrap64 (1 + t137)])) x14_3 (wrap64 (x15_4 + 1))) else (none)) else (none))) else (none)) else (none))) else (none)) = some r := by first | (rw [hji39] at H; exact H) | (simp only [hji39] at H ⊢; exact H)
                                (try rw [hji39] at c38b0)
                                have hji39w : (IntKind.i64.wrap ((wrap64 (x14_3 * (ji31))) + x15_4)) = ji39 := (i64_w _).trans hji39
                                by_cases c40 : 0 ≤ (ji39)
                                · rw [if_pos c40] at H
                                  have c40b0 : decide (0 ≤ (ji39)) = true := decide_eq_true c40
                                  clear c40
                                  replace H := Option.bind_eq_some_iff.mp H
                                  obtain ⟨t137, A410, H⟩ := H
                                  replace H : (if 0 ≤ x14_3 then (if x14_3 < (x8_11.length : Int) then (if (rd x8_11 x14_3) = x15_4 then (if x14_3 < (x13_4.length : Int) then (if (rd_L1 x13_4 x14_3).length < 17592186044416 then (hypercubelaw9_MatchSquare.l3 k4 l2 (ji31) x8_11 (x13_4.set (x14_3 : Int).toNat ((rd_L1 x13_4 x14_3) ++ [0])) x14_3 (wrap64 (x15_4 + 1))) else (none)) else (none)) else (if x14_3 < (x13_4.length : Int) then (if (rd_L1 x13_4 x14_3).length < 17592186044416 then (hypercubelaw9_MatchSquare.l3 k4 l2 (ji31) x8_11 (x13_4.set (x14_3 : Int).toNat ((rd_L1 x13_4 x14_3) ++ [wrap64 (1 + t137)])) x14_3 (wrap64 (x15_4 + 1))) else (none)) else (none))) else (none)) else (none)) = some r := H
                                  have A41 := Aside0.mk A410
                                  clear A410
                                  by_cases c42 : 0 ≤ x14_3
                                  · rw [if_pos c42] at H
                                    have c42b0 : decide (0 ≤ x14_3) = true := decide_eq_true c42
                                    clear c42
                                    by_cases c43 : x14_3 < (x8_11.length : Int)
                                    · rw [if_pos c43] at H
                                      have c43b0 : decide (x14_3 < (x8_11.length : Int)) = true := decide_eq_true c43
                                      clear c43
                                      by_cases c44 : (rd x8_11 x14_3) = x15_4
                                      · rw [if_pos c44] at H
                                        have c44b0 : ((rd x8_11 x14_3) == x15_4) = true := beq_iff_eq.mpr c44
                                        have c44b1 : ((rd x8_11 x14_3) != x15_4) = false := bne_eq_false_iff_eq.mpr c44
                                        clear c44
                                        by_cases c45 : x14_3 < (x13_4.length : Int)
                                        · rw [if_pos c45] at H
                                          have c45b0 : decide (x14_3 < (x13_4.length : Int)) = true := decide_eq_true c45
                                          clear c45
                                          by_cases c46 : (rd_L1 x13_4 x14_3).length < 17592186044416
                                          · rw [if_pos c46] at H
                                            have LMc46 := Aside0.mk c46
                                            clear c46
                                            obtain ⟨y140, hy140⟩ : ∃ y_ : List Int, y_ = ((rd_L1 x13_4 x14_3) ++ [0]) := ⟨_, rfl⟩
                                            replace H : (hypercubelaw9_MatchSquare.l3 k4 l2 (ji31) x8_11 (x13_4.set (x14_3 : Int).toNat y140) x14_3 (wrap64 (x15_4 + 1))) = some r := by first | (rw [hy140]; with_reducible exact H) | (have H2_ := (Option.bind_some _ _).symm.trans H; rw [hy140]; with_reducible exact H2_) | (have H2_ := (Option.bind_some _ _).symm.trans H; with_reducible exact H2_) | with_reducible exact H | (rw [hy140]; exact H) | exact H
                                            have Ny140 := Aside0.mk hy140
                                            clear hy140
                                            obtain ⟨y143, hy143⟩ : ∃ y_ : List (List Int), y_ = (x13_4.set (x14_3 : Int).toNat y140) := ⟨_, rfl⟩
                                            replace H : (hypercubelaw9_MatchSquare.l3 k4 l2 (ji31) x8_11 y143 x14_3 (wrap64 (x15_4 + 1))) = some r := by first | (rw [hy143]; with_reducible exact H) | (have H2_ := (Option.bind_some _ _).symm.trans H; rw [hy143]; with_reducible exact H2_) | (have H2_ := (Option.bind_some _ _).symm.trans H; with_reducible exact H2_) | with_reducible exact H | (rw [hy143]; exact H) | exact H
                                            have Ny143 := Aside0.mk hy143
                                            clear hy143
                                            have H' := Aside0.mk H
                                            clear H
                                            have p136 : 0 ≤ ((ji39) : Int) := of_decide_eq_true (by first | (with_reducible assumption) | assumption)
                                            have q136 : (ji39) < (l2.length : Int) := of_decide_eq_true (by first | (with_reducible assumption) | assumption)
                                            obtain ⟨ad136, e136, hx136_0⟩ := Kd.at_int HR2.out (ji39) p136 q136
                                            cases e136
                                            replace hx136_0 := (HB.out.cell (World.block_lt_of_cell? w _ hx136_0)).trans hx136_0
                                            replace p136 := eq_true p136
                                            replace q136 := eq_true q136
                                            go_wp2_with (first | ((with_reducible refine gate_callee (f := 18) rfl ?_); refine goesL_ (some 95) rfl rfl Try.func18 (by kernel_rfl) rfl #[.int .i64 (rd l2 (ji39)), .int .i64 99] rfl (by (try simp only [List.map_toArray, List.map_cons, List.map_nil]); first | done | (simp only [hji39]; rfl) | rfl | (simp only [List.length_drop, List.length_take]; rfl)) ?_; (with_reducible refine (hypercubelaw9_within.calls (rd l2 (ji39)) 99 t137 _ A41.out).mono ?_); rintro e w48 ⟨rfl, hb⟩; refine ⟨_, rfl, ?_⟩; have n0_ := Aside0.mk (Kd.R_below (by (with_reducible repeat (first | apply Kd.R_alloc | apply Kd.R_drewN | apply Kd.R_drew)); exact HO_8.out) hb); have n1_ := Aside0.mk (Kd.S_below (by (with_reducible repeat (first | apply Kd.S_alloc | apply Kd.S_drewN | apply Kd.S_drew)); exact HO_13.out) hb); have n2_ := Aside0.mk (below_step (by repeat (first | (with_reducible first | exact HB.out | apply below_alloc | apply pw_below_drewN | apply below_drew1) | exact HB.out)) hb); clear HO_8; clear HO_13; clear HB; have HO_8 := n0_; have HO_13 := n1_; have HB := n2_; clear n0_ n1_ n2_; (try clear hb); (try clear hb2); (try clear hk); (try clear hi); obtain ⟨Ao49, co49, eo49⟩ := Kd.R_slice HO_8.out; subst eo49; have p138 : 0 ≤ (x14_3 : Int) := of_decide_eq_true (by first | (with_reducible assumption) | assumption); have q138 : x14_3 < (x8_11.length : Int) := of_decide_eq_true (by first | (with_reducible assumption) | assumption); obtain ⟨ad138, e138, hx138_0⟩ := Kd.at_int (Kd.R_reads' HO_8.out).2.2 x14_3 p138 q138; cases e138; replace p138 := eq_true p138; replace q138 := eq_true q138; obtain ⟨Ao50, co50, eo50⟩ := Kd.S_slice HO_13.out; subst eo50; have p139 : 0 ≤ (x14_3 : Int) := of_decide_eq_true (by first | (with_reducible assumption) | assumption); have q139 : x14_3 < (x13_4.length : Int) := of_decide_eq_true (by first | (with_reducible assumption) | assumption); obtain ⟨ad139, A139_0, c139_0, e139, hx139_0, hl139_0, hi139_0⟩ := at_L1 (Kd.S_reads' HO_13.out).2.2 x14_3 p139 q139; cases e139; obtain ⟨ce139, hce139, hMe139, hcc139⟩ := Kd.S_get HO_13.out [] x14_3 p139 (by first | exact q139 | exact of_decide_eq_true (by first | (with_reducible assumption) | assumption) | (have e_ := (Kd.S_reads' HO_13.out).1; omega)); obtain ⟨ve139_0, rfl, ge139_0⟩ := hMe139; have hv139_0 := hcc139 0 _ rfl; rw [Nat.add_zero, show ((Kd.slice 3 (Kd.int .i64))).sz = 1 from rfl, Nat.mul_one] at hv139_0; replace hv139_0 := Option.some.inj (hv139_0.symm.trans hx139_0); rw [hv139_0] at ge139_0; have HL139_0 := Aside0.mk (show Kd.R (Kd.int .i64) 3 _ _ _ _ (rd_L1 x13_4 x14_3) from ge139_0); clear hv139_0 ge139_0; have HX139_0 := Aside0.mk hx139_0; clear hcc139 hce139; have HR139_0 := Aside0.mk hi139_0; have HC139_0 := Aside0.mk hl139_0; clear hi139_0 hl139_0; replace p139 := eq_true p139; replace q139 := eq_true q139; obtain ⟨go51, co51, eo51, gb51, gl51, cl51, HG51⟩ := Kd.S_form HO_13.out (by have h_ : (x14_3 : Int) < ((x13_4.length : Int) : Int) := of_decide_eq_true (by first | (with_reducible assumption) | assumption); have h2_ : 0 ≤ (x14_3 : Int) := (of_decide_eq_true (by first | (with_reducible assumption) | assumption)); omega); (first | cases eo51 | (injection eo51 with ea_ en_ ec_; (first | subst ea_ | (injection ea_ with ea_; subst ea_)); subst ec_; clear en_)); have GB51 := Aside0.mk gb51; have GG51 := Aside0.mk HG51; clear gb51 gl51 HG51; (first | simp only [add_plain] at hx139_0 | skip); obtain ⟨oki51, ce51, hcl51, hM51, hcc51, _, _, hH51⟩ := Kd.S_elem HO_13.out [] (x14_3 : Int) (of_decide_eq_true (by first | (with_reducible assumption) | assumption)) (by have h_ : (x14_3 : Int) < ((x13_4.length : Int) : Int) := of_decide_eq_true (by first | (with_reducible assumption) | assumption); first | exact h_ | (have e_ := (Kd.S_reads' HO_13.out).1; omega) | simpa using h_); obtain ⟨ve51_0, rfl, ge51_0⟩ := hM51; have hv51 := hcc51 0 _ rfl; have hX51 := HX139_0.out; (try simp only [add_plain] at hX51); (try simp only [Nat.add_zero] at hv51); (try rw [show ((Kd.slice 3 (Kd.int .i64))).sz = 1 from rfl, Nat.mul_one] at hv51); replace hv51 := Option.some.inj (hv51.symm.trans hX51); subst hv51; clear hX51 hcc51 hcl51; have UU51 := Aside0.mk (show Kd.R (Kd.int .i64) 3 _ w.heap.size oki51 (.slice A139_0 (rd_L1 x13_4 x14_3).length c139_0) (rd_L1 x13_4 x14_3) from ge51_0); have HH51 := Aside0.mk hH51; have HN51 := Aside0.mk (Kd.S_reads' HO_13.out).1; clear hH51 ge51_0) | ((with_reducible refine gate_builtin (b := .append) (xs := #[.tmp 108, .tmp 110]) rfl ?_); at_builtin; refine Kd.R_append (Kd.int .i64) (w0 := w) w.heap.size rfl (.tmp 108) (.tmp 110) 22 3 (.int .i64 0) 8 rfl Try.underlying22 info3 rfl (by decide) (by omega) (.slice A139_0 (rd_L1 x13_4 x14_3).length c139_0) (rd_L1 x13_4 x14_3) 0 [.int .i64 0] (fun k_ => oki51 k_ ∨ ((fun k_ => some k_ ≠ (.slice (some ad138) x8_11.length co49 : Value).ownBlock)) k_ ∧ w48.heap.size ≤ k_) (fun _ => False) rfl rfl ?aP (fun _ hk => hk.elim) ?aF ?aO ?aB ?aS ?aL ?_; (case aP => exact rfl); (case aB => exact (by repeat (first | (with_reducible first | exact HB.out | apply below_alloc | apply pw_below_drewN | apply below_drew1) | exact HB.out))); (case aF => exact (fun k_ hk => .inr ⟨Kd.fresh' (Kd.R_lt (by (with_reducible repeat (first | apply Kd.R_alloc | apply Kd.R_drewN | apply Kd.R_drew)); exact HO_8.out)) k_ hk, hk⟩)); (case aO => exact (by (with_reducible repeat (first | apply Kd.R_alloc | apply Kd.R_drewN | apply Kd.R_drew)); exact Kd.R_mono UU51.out (fun _ hk => .inl hk))); (case aS => exact (below_size (by repeat (first | (with_reducible first | exact HB.out | apply below_alloc | apply pw_below_drewN | apply below_drew1) | exact HB.out)))); (case aL => have := LMc46.out; omega); intro v141 w52 ho hb hg hat; rw [← Ny140.out] at ho; have n0_ := Aside0.mk (Kd.R_grown2 (by (with_reducible repeat (first | apply Kd.R_alloc | apply Kd.R_drewN | apply Kd.R_drew)); exact HO_8.out) rfl hg (fun k_ e_ => (HL139_0.out.1 k_ e_).1)); have n1_ := Aside0.mk (hb); have n2_ := Aside0.mk (Kd.H_grown (Kd.H_widen (by repeat (first | exact HH51.out | refine Kd.H_alloc ?_ _ | refine Kd.H_drewN ?_ _ | refine Kd.H_drew ?_))) hg (fun k_ e_ => .inl (UU51.out.1 k_ e_))); have n3_ := Aside0.mk (ho); clear HO_8; clear HB; clear HH51; clear HO_13; clear UU51; clear HL139_0; have HO_8 := n0_; have HB := n1_; have HH51 := n2_; have HO142 := n3_; clear n0_ n1_ n2_ n3_; clear ho hb hg hat; have p47 : 0 ≤ (x14_3 : Int) := of_decide_eq_true (by first | (with_reducible assumption) | assumption); have q47 : (x14_3 : Int) < ((x13_4.length : Int) : Int) := of_decide_eq_true (by first | (with_reducible assumption) | assumption); replace p47 := eq_true p47; replace q47 := eq_true q47; obtain ⟨Ao55, co55, eo55⟩ := Kd.R_slice HO142.out; subst eo55; obtain ⟨_, _, hraw53, _, _, hcc53, _⟩ := Kd.H_raw HH51.out (of_decide_eq_true (by first | (with_reducible assumption) | assumption)) (by have h_ : (x14_3 : Int) < ((x13_4.length : Int) : Int) := of_decide_eq_true (by first | (with_reducible assumption) | assumption); first | exact h_ | (have e_ := (HN51.out); omega) | simpa using h_); obtain ⟨_, hfr53⟩ := Kd.H_at HH51.out (of_decide_eq_true (by first | (with_reducible assumption) | assumption)) (by have h_ : (x14_3 : Int) < ((x13_4.length : Int) : Int) := of_decide_eq_true (by first | (with_reducible assumption) | assumption); first | exact h_ | (have e_ := (HN51.out); omega) | simpa using h_); have hx53_0 := hcc53 0 _ rfl; have hf53_0 := hfr53 0; (try simp only [Nat.add_zero] at hx53_0 hf53_0); (try rw [show ((Kd.slice 3 (Kd.int .i64))).sz = 1 from rfl, Nat.mul_one] at hx53_0); (try rw [show ((Kd.slice 3 (Kd.int .i64))).sz = 1 from rfl, Nat.mul_one] at hf53_0); have HP53 := Kd.S_seg0 HH51.out (of_decide_eq_true (by first | (with_reducible assumption) | assumption)) (by have h_ : (x14_3 : Int) < ((x13_4.length : Int) : Int) := of_decide_eq_true (by first | (with_reducible assumption) | assumption); first | exact h_ | (have e_ := (HN51.out); omega) | simpa using h_) (seg := [.slice Ao55 y140.length co55]) (j := 0) (show 1 ≤ 1 from by decide) (x' := y140) (Kd.M_row HO142.out) (fun _ hk => hk); (try simp only [show ((Kd.slice 3 (Kd.int .i64))).sz = 1 from rfl, Nat.mul_one, Nat.add_zero] at HP53); clear hcc53 hfr53) | ((with_reducible refine gate_store (t := 22) (p := 112) rfl ?_); refine store_event (t := 22) (p := 112) (v := ?vo_w54) (w1 := (w52.setCell ⟨go51, (x14_3 : Int).toNat, none⟩ (.slice Ao55 y140.length co55))) ?hg ?ho ?hn ?hr ?_; (case ho => rfl); (case hg => rfl); (case hn => rfl); (case hr => first | (go_simp; done) | (go_simp; rfl)); intro w54 hw; have hg : w52.grownBy w54 (some go51) := (by rw [hw]; exact HP53.2); have hp_ : Kd.S (Kd.slice 3 (Kd.int .i64)) 22 w54 w.heap.size (fun k_ => some k_ ≠ (.slice (some ad138) x8_11.length co49 : Value).ownBlock) (.slice (some ⟨go51, 0, none⟩) x13_4.length co50) y143 := (by rw [hw, Ny143.out]; exact HP53.1); clear HP53; have n0_ := Aside0.mk (Kd.R_over' (v := (.slice (some ⟨go51, 0, none⟩) x13_4.length co50)) (by (with_reducible repeat (first | apply Kd.R_alloc | apply Kd.R_drewN | apply Kd.R_drew)); exact HO_8.out) (Kd.R_typed hraw53) (by decide) hg); have n1_ := Aside0.mk ((by rw [hw]; exact below_set HB.out GB51.out : Below w.heap.size w w54)); have n2_ := Aside0.mk (hp_); clear HO_8; clear HB; clear HO142; clear HH51; have HO_8 := n0_; have HB := n1_; have HO_13 := n2_; clear n0_ n1_ n2_; clear hg hw hp_ hraw53))
                                            go_roundg k4
                                            case measure => have := HK1.out; have := HJ11.out; have := HK3.out; have := HK4.out; omega
                                            case rel => exact ⟨(y143), (wrap64 (x15_4 + 1)), (by first | rfl | (simp; done) | (simp [*]; done)), H', ⟨by have := HK1.out; have := HJ11.out; have := HK3.out; have := HK4.out; omega⟩, ⟨by (with_reducible repeat (first | apply Kd.R_alloc | apply Kd.R_drewN | apply Kd.R_drew)); exact HO_8.out⟩, ⟨by (with_reducible repeat (first | apply Kd.S_alloc | apply Kd.S_drewN | apply Kd.S_drew)); exact HO_13.out⟩, ⟨by repeat (first | (with_reducible first | exact HB.out | apply below_alloc | apply pw_below_drewN | apply below_drew1) | exact HB.out)⟩⟩
                                          · rw [if_neg c46] at H
                                            exact absurd H (by simp)
                                        · rw [if_neg c45] at H
                                          exact absurd H (by simp)
                                      · rw [if_neg c44] at H
                                        have c44b0 : ((rd x8_11 x14_3) == x15_4) = false := beq_eq_false_iff_ne.mpr c44
                                        have c44b1 : ((rd x8_11 x14_3) != x15_4) = true := bne_iff_ne.mpr c44
                                        by_cases c56 : x14_3 < (x13_4.length : Int)
                                        · rw [if_pos c56] at H
                                          have c56b0 : decide (x14_3 < (x13_4.length : Int)) = true := decide_eq_true c56
                                          clear c56
                                          by_cases c57 : (rd_L1 x13_4 x14_3).length < 17592186044416
                                          · rw [if_pos c57] at H
                                            have LMc57 := Aside0.mk c57
                                            clear c57
                                            obtain ⟨y145, hy145⟩ : ∃ y_ : List Int, y_ = ((rd_L1 x13_4 x14_3) ++ [wrap64 (1 + t137)]) := ⟨_, rfl⟩
                                            replace H : (hypercubelaw9_MatchSquare.l3 k4 l2 (ji31) x8_11 (x13_4.set (x14_3 : Int).toNat y145) x14_3 (wrap64 (x15_4 + 1))) = some r := by first | (rw [hy145]; with_reducible exact H) | (have H2_ := (Option.bind_some _ _).symm.trans H; rw [hy145]; with_reducible exact H2_) | (have H2_ := (Option.bind_some _ _).symm.trans H; with_reducible exact H2_) | with_reducible exact H | (rw [hy145]; exact H) | exact H
                                            have Ny145 := Aside0.mk hy145
                                            clear hy145
                                            obtain ⟨y148, hy148⟩ : ∃ y_ : List (List Int), y_ = (x13_4.set (x14_3 : Int).toNat y145) := ⟨_, rfl⟩
                                            replace H : (hypercubelaw9_MatchSquare.l3 k4 l2 (ji31) x8_11 y148 x14_3 (wrap64 (x15_4 + 1))) = some r := by first | (rw [hy148]; with_reducible exact H) | (have H2_ := (Option.bind_some _ _).symm.trans H; rw [hy148]; with_reducible exact H2_) | (have H2_ := (Option.bind_some _ _).symm.trans H; with_reducible exact H2_) | with_reducible exact H | (rw [hy148]; exact H) | exact H
                                            have Ny148 := Aside0.mk hy148
                                            clear hy148
                                            have H' := Aside0.mk H
                                            clear H
                                            have p136 : 0 ≤ ((ji39) : Int) := of_decide_eq_true (by first | (with_reducible assumption) | assumption)
                                            have q136 : (ji39) < (l2.length : Int) := of_decide_eq_true (by first | (with_reducible assumption) | assumption)
                                            obtain ⟨ad136, e136, hx136_0⟩ := Kd.at_int HR2.out (ji39) p136 q136
                                            cases e136
                                            replace hx136_0 := (HB.out.cell (World.block_lt_of_cell? w _ hx136_0)).trans hx136_0
                                            replace p136 := eq_true p136
                                            replace q136 := eq_true q136
                                            go_wp2_with (first | ((with_reducible refine gate_callee (f := 18) rfl ?_); refine goesL_ (some 95) rfl rfl Try.func18 (by kernel_rfl) rfl #[.int .i64 (rd l2 (ji39)), .int .i64 99] rfl (by (try simp only [List.map_toArray, List.map_cons, List.map_nil]); first | done | (simp only [hji39]; rfl) | rfl | (simp only [List.length_drop, List.length_take]; rfl)) ?_; (with_reducible refine (hypercubelaw9_within.calls (rd l2 (ji39)) 99 t137 _ A41.out).mono ?_); rintro e w59 ⟨rfl, hb⟩; refine ⟨_, rfl, ?_⟩; have n0_ := Aside0.mk (Kd.R_below (by (with_reducible repeat (first | apply Kd.R_alloc | apply Kd.R_drewN | apply Kd.R_drew)); exact HO_8.out) hb); have n1_ := Aside0.mk (Kd.S_below (by (with_reducible repeat (first | apply Kd.S_alloc | apply Kd.S_drewN | apply Kd.S_drew)); exact HO_13.out) hb); have n2_ := Aside0.mk (below_step (by repeat (first | (with_reducible first | exact HB.out | apply below_alloc | apply pw_below_drewN | apply below_drew1) | exact HB.out)) hb); clear HO_8; clear HO_13; clear HB; have HO_8 := n0_; have HO_13 := n1_; have HB := n2_; clear n0_ n1_ n2_; (try clear hb); (try clear hb2); (try clear hk); (try clear hi); obtain ⟨Ao60, co60, eo60⟩ := Kd.R_slice HO_8.out; subst eo60; have p138 : 0 ≤ (x14_3 : Int) := of_decide_eq_true (by first | (with_reducible assumption) | assumption); have q138 : x14_3 < (x8_11.length : Int) := of_decide_eq_true (by first | (with_reducible assumption) | assumption); obtain ⟨ad138, e138, hx138_0⟩ := Kd.at_int (Kd.R_reads' HO_8.out).2.2 x14_3 p138 q138; cases e138; replace p138 := eq_true p138; replace q138 := eq_true q138; obtain ⟨Ao61, co61, eo61⟩ := Kd.S_slice HO_13.out; subst eo61; have p144 : 0 ≤ (x14_3 : Int) := of_decide_eq_true (by first | (with_reducible assumption) | assumption); have q144 : x14_3 < (x13_4.length : Int) := of_decide_eq_true (by first | (with_reducible assumption) | assumption); obtain ⟨ad144, A144_0, c144_0, e144, hx144_0, hl144_0, hi144_0⟩ := at_L1 (Kd.S_reads' HO_13.out).2.2 x14_3 p144 q144; cases e144; obtain ⟨ce144, hce144, hMe144, hcc144⟩ := Kd.S_get HO_13.out [] x14_3 p144 (by first | exact q144 | exact of_decide_eq_true (by first | (with_reducible assumption) | assumption) | (have e_ := (Kd.S_reads' HO_13.out).1; omega)); obtain ⟨ve144_0, rfl, ge144_0⟩ := hMe144; have hv144_0 := hcc144 0 _ rfl; rw [Nat.add_zero, show ((Kd.slice 3 (Kd.int .i64))).sz = 1 from rfl, Nat.mul_one] at hv144_0; replace hv144_0 := Option.some.inj (hv144_0.symm.trans hx144_0); rw [hv144_0] at ge144_0; have HL144_0 := Aside0.mk (show Kd.R (Kd.int .i64) 3 _ _ _ _ (rd_L1 x13_4 x14_3) from ge144_0); clear hv144_0 ge144_0; have HX144_0 := Aside0.mk hx144_0; clear hcc144 hce144; have HR144_0 := Aside0.mk hi144_0; have HC144_0 := Aside0.mk hl144_0; clear hi144_0 hl144_0; replace p144 := eq_true p144; replace q144 := eq_true q144; obtain ⟨go62, co62, eo62, gb62, gl62, cl62, HG62⟩ := Kd.S_form HO_13.out (by have h_ : (x14_3 : Int) < ((x13_4.length : Int) : Int) := of_decide_eq_true (by first | (with_reducible assumption) | assumption); have h2_ : 0 ≤ (x14_3 : Int) := (of_decide_eq_true (by first | (with_reducible assumption) | assumption)); omega); (first | cases eo62 | (injection eo62 with ea_ en_ ec_; (first | subst ea_ | (injection ea_ with ea_; subst ea_)); subst ec_; clear en_)); have GB62 := Aside0.mk gb62; have GG62 := Aside0.mk HG62; clear gb62 gl62 HG62; (first | simp only [add_plain] at hx144_0 | skip); obtain ⟨oki62, ce62, hcl62, hM62, hcc62, _, _, hH62⟩ := Kd.S_elem HO_13.out [] (x14_3 : Int) (of_decide_eq_true (by first | (with_reducible assumption) | assumption)) (by have h_ : (x14_3 : Int) < ((x13_4.length : Int) : Int) := of_decide_eq_true (by first | (with_reducible assumption) | assumption); first | exact h_ | (have e_ := (Kd.S_reads' HO_13.out).1; omega) | simpa using h_); obtain ⟨ve62_0, rfl, ge62_0⟩ := hM62; have hv62 := hcc62 0 _ rfl; have hX62 := HX144_0.out; (try simp only [add_plain] at hX62); (try simp only [Nat.add_zero] at hv62); (try rw [show ((Kd.slice 3 (Kd.int .i64))).sz = 1 from rfl, Nat.mul_one] at hv62); replace hv62 := Option.some.inj (hv62.symm.trans hX62); subst hv62; clear hX62 hcc62 hcl62; have UU62 := Aside0.mk (show Kd.R (Kd.int .i64) 3 _ w.heap.size oki62 (.slice A144_0 (rd_L1 x13_4 x14_3).length c144_0) (rd_L1 x13_4 x14_3) from ge62_0); have HH62 := Aside0.mk hH62; have HN62 := Aside0.mk (Kd.S_reads' HO_13.out).1; clear hH62 ge62_0) | ((with_reducible refine gate_builtin (b := .append) (xs := #[.tmp 108, .tmp 110]) rfl ?_); at_builtin; refine Kd.R_append (Kd.int .i64) (w0 := w) w.heap.size rfl (.tmp 108) (.tmp 110) 22 3 (.int .i64 0) 8 rfl Try.underlying22 info3 rfl (by decide) (by omega) (.slice A144_0 (rd_L1 x13_4 x14_3).length c144_0) (rd_L1 x13_4 x14_3) (wrap64 (1 + t137)) [.int .i64 (wrap64 (1 + t137))] (fun k_ => oki62 k_ ∨ ((fun k_ => some k_ ≠ (.slice (some ad138) x8_11.length co60 : Value).ownBlock)) k_ ∧ w59.heap.size ≤ k_) (fun _ => False) rfl rfl ?aP (fun _ hk => hk.elim) ?aF ?aO ?aB ?aS ?aL ?_; (case aP => exact rfl); (case aB => exact (by repeat (first | (with_reducible first | exact HB.out | apply below_alloc | apply pw_below_drewN | apply below_drew1) | exact HB.out))); (case aF => exact (fun k_ hk => .inr ⟨Kd.fresh' (Kd.R_lt (by (with_reducible repeat (first | apply Kd.R_alloc | apply Kd.R_drewN | apply Kd.R_drew)); exact HO_8.out)) k_ hk, hk⟩)); (case aO => exact (by (with_reducible repeat (first | apply Kd.R_alloc | apply Kd.R_drewN | apply Kd.R_drew)); exact Kd.R_mono UU62.out (fun _ hk => .inl hk))); (case aS => exact (below_size (by repeat (first | (with_reducible first | exact HB.out | apply below_alloc | apply pw_below_drewN | apply below_drew1) | exact HB.out)))); (case aL => have := LMc57.out; omega); intro v146 w63 ho hb hg hat; rw [← Ny145.out] at ho; have n0_ := Aside0.mk (Kd.R_grown2 (by (with_reducible repeat (first | apply Kd.R_alloc | apply Kd.R_drewN | apply Kd.R_drew)); exact HO_8.out) rfl hg (fun k_ e_ => (HL144_0.out.1 k_ e_).1)); have n1_ := Aside0.mk (hb); have n2_ := Aside0.mk (Kd.H_grown (Kd.H_widen (by repeat (first | exact HH62.out | refine Kd.H_alloc ?_ _ | refine Kd.H_drewN ?_ _ | refine Kd.H_drew ?_))) hg (fun k_ e_ => .inl (UU62.out.1 k_ e_))); have n3_ := Aside0.mk (ho); clear HO_8; clear HB; clear HH62; clear HO_13; clear UU62; clear HL144_0; have HO_8 := n0_; have HB := n1_; have HH62 := n2_; have HO147 := n3_; clear n0_ n1_ n2_ n3_; clear ho hb hg hat; have p58 : 0 ≤ (x14_3 : Int) := of_decide_eq_true (by first | (with_reducible assumption) | assumption); have q58 : (x14_3 : Int) < ((x13_4.length : Int) : Int) := of_decide_eq_true (by first | (with_reducible assumption) | assumption); replace p58 := eq_true p58; replace q58 := eq_true q58; obtain ⟨Ao66, co66, eo66⟩ := Kd.R_slice HO147.out; subst eo66; obtain ⟨_, _, hraw64, _, _, hcc64, _⟩ := Kd.H_raw HH62.out (of_decide_eq_true (by first | (with_reducible assumption) | assumption)) (by have h_ : (x14_3 : Int) < ((x13_4.length : Int) : Int) := of_decide_eq_true (by first | (with_reducible assumption) | assumption); first | exact h_ | (have e_ := (HN62.out); omega) | simpa using h_); obtain ⟨_, hfr64⟩ := Kd.H_at HH62.out (of_decide_eq_true (by first | (with_reducible assumption) | assumption)) (by have h_ : (x14_3 : Int) < ((x13_4.length : Int) : Int) := of_decide_eq_true (by first | (with_reducible assumption) | assumption); first | exact h_ | (have e_ := (HN62.out); omega) | simpa using h_); have hx64_0 := hcc64 0 _ rfl; have hf64_0 := hfr64 0; (try simp only [Nat.add_zero] at hx64_0 hf64_0); (try rw [show ((Kd.slice 3 (Kd.int .i64))).sz = 1 from rfl, Nat.mul_one] at hx64_0); (try rw [show ((Kd.slice 3 (Kd.int .i64))).sz = 1 from rfl, Nat.mul_one] at hf64_0); have HP64 := Kd.S_seg0 HH62.out (of_decide_eq_true (by first | (with_reducible assumption) | assumption)) (by have h_ : (x14_3 : Int) < ((x13_4.length : Int) : Int) := of_decide_eq_true (by first | (with_reducible assumption) | assumption); first | exact h_ | (have e_ := (HN62.out); omega) | simpa using h_) (seg := [.slice Ao66 y145.length co66]) (j := 0) (show 1 ≤ 1 from by decide) (x' := y145) (Kd.M_row HO147.out) (fun _ hk => hk); (try simp only [show ((Kd.slice 3 (Kd.int .i64))).sz = 1 from rfl, Nat.mul_one, Nat.add_zero] at HP64); clear hcc64 hfr64) | ((with_reducible refine gate_store (t := 22) (p := 112) rfl ?_); refine store_event (t := 22) (p := 112) (v := ?vo_w65) (w1 := (w63.setCell ⟨go62, (x14_3 : Int).toNat, none⟩ (.slice Ao66 y145.length co66))) ?hg ?ho ?hn ?hr ?_; (case ho => rfl); (case hg => rfl); (case hn => rfl); (case hr => first | (go_simp; done) | (go_simp; rfl)); intro w65 hw; have hg : w63.grownBy w65 (some go62) := (by rw [hw]; exact HP64.2); have hp_ : Kd.S (Kd.slice 3 (Kd.int .i64)) 22 w65 w.heap.size (fun k_ => some k_ ≠ (.slice (some ad138) x8_11.length co60 : Value).ownBlock) (.slice (some ⟨go62, 0, none⟩) x13_4.length co61) y148 := (by rw [hw, Ny148.out]; exact HP64.1); clear HP64; have n0_ := Aside0.mk (Kd.R_over' (v := (.slice (some ⟨go62, 0, none⟩) x13_4.length co61)) (by (with_reducible repeat (first | apply Kd.R_alloc | apply Kd.R_drewN | apply Kd.R_drew)); exact HO_8.out) (Kd.R_typed hraw64) (by decide) hg); have n1_ := Aside0.mk ((by rw [hw]; exact below_set HB.out GB62.out : Below w.heap.size w w65)); have n2_ := Aside0.mk (hp_); clear HO_8; clear HB; clear HO147; clear HH62; have HO_8 := n0_; have HB := n1_; have HO_13 := n2_; clear n0_ n1_ n2_; clear hg hw hp_ hraw64))
                                            go_roundg k4
                                            case measure => have := HK1.out; have := HJ11.out; have := HK3.out; have := HK4.out; omega
                                            case rel => exact ⟨(y148), (wrap64 (x15_4 + 1)), (by first | rfl | (simp; done) | (simp [*]; done)), H', ⟨by have := HK1.out; have := HJ11.out; have := HK3.out; have := HK4.out; omega⟩, ⟨by (with_reducible repeat (first | apply Kd.R_alloc | apply Kd.R_drewN | apply Kd.R_drew)); exact HO_8.out⟩, ⟨by (with_reducible repeat (first | apply Kd.S_alloc | apply Kd.S_drewN | apply Kd.S_drew)); exact HO_13.out⟩, ⟨by repeat (first | (with_reducible first | exact HB.out | apply below_alloc | apply pw_below_drewN | apply below_drew1) | exact HB.out)⟩⟩
                                          · rw [if_neg c57] at H
                                            exact absurd H (by simp)
                                        · rw [if_neg c56] at H
                                          exact absurd H (by simp)
                                    · rw [if_neg c43] at H
                                      exact absurd H (by simp)
                                  · rw [if_neg c42] at H
                                    exact absurd H (by simp)
                                · rw [if_neg c40] at H
                                  exact absurd H (by simp)
                              · rw [if_neg c38] at H
                                have c38b0 : decide ((wrap64 ((wrap64 (x14_3 * (ji31))) + x15_4)) < (l2.length : Int)) = false := decide_eq_false c38
                                clear c38
                                by_cases c67 : 0 ≤ x14_3
                                · rw [if_pos c67] at H
                                  have c67b0 : decide (0 ≤ x14_3) = true := decide_eq_true c67
                                  clear c67
                                  by_cases c68 : x14_3 < (x8_11.length : Int)
                                  · rw [if_pos c68] at H
                                    have c68b0 : decide (x14_3 < (x8_11.length : Int)) = true := decide_eq_true c68
                                    clear c68
                                    by_cases c69 : (rd x8_11 x14_3) = x15_4
                                    · rw [if_pos c69] at H
                                      have c69b0 : ((rd x8_11 x14_3) == x15_4) = true := beq_iff_eq.mpr c69
                                      have c69b1 : ((rd x8_11 x14_3) != x15_4) = false := bne_eq_false_iff_eq.mpr c69
                                      clear c69
                                      by_cases c70 : x14_3 < (x13_4.length : Int)
                                      · rw [if_pos c70] at H
                                        have c70b0 : decide (x14_3 < (x13_4.length : Int)) = true := decide_eq_true c70
                                        clear c70
                                        by_cases c71 : (rd_L1 x13_4 x14_3).length < 17592186044416
                                        · rw [if_pos c71] at H
                                          have LMc71 := Aside0.mk c71
                                          clear c71
                                          obtain ⟨y151, hy151⟩ : ∃ y_ : List Int, y_ = ((rd_L1 x13_4 x14_3) ++ [0]) := ⟨_, rfl⟩
                                          replace H : (hypercubelaw9_MatchSquare.l3 k4 l2 (ji31) x8_11 (x13_4.set (x14_3 : Int).toNat y151) x14_3 (wrap64 (x15_4 + 1))) = some r := by first | (rw [hy151]; with_reducible exact H) | (have H2_ := (Option.bind_some _ _).symm.trans H; rw [hy151]; with_reducible exact H2_) | (have H2_ := (Option.bind_some _ _).symm.trans H; with_reducible exact H2_) | with_reducible exact H | (rw [hy151]; exact H) | exact H
                                          have Ny151 := Aside0.mk hy151
                                          clear hy151
                                          obtain ⟨y154, hy154⟩ : ∃ y_ : List (List Int), y_ = (x13_4.set (x14_3 : Int).toNat y151) := ⟨_, rfl⟩
                                          replace H : (hypercubelaw9_MatchSquare.l3 k4 l2 (ji31) x8_11 y154 x14_3 (wrap64 (x15_4 + 1))) = some r := by first | (rw [hy154]; with_reducible exact H) | (have H2_ := (Option.bind_some _ _).symm.trans H; rw [hy154]; with_reducible exact H2_) | (have H2_ := (Option.bind_some _ _).symm.trans H; with_reducible exact H2_) | with_reducible exact H | (rw [hy154]; exact H) | exact H
                                          have Ny154 := Aside0.mk hy154
                                          clear hy154
                                          have H' := Aside0.mk H
                                          clear H
                                          obtain ⟨Ao73, co73, eo73⟩ := Kd.R_slice HO_8.out
                                          subst eo73
                                          have p149 : 0 ≤ (x14_3 : Int) := of_decide_eq_true (by first | (with_reducible assumption) | assumption)
                                          have q149 : x14_3 < (x8_11.length : Int) := of_decide_eq_true (by first | (with_reducible assumption) | assumption)
                                          obtain ⟨ad149, e149, hx149_0⟩ := Kd.at_int (Kd.R_reads' HO_8.out).2.2 x14_3 p149 q149
                                          cases e149
                                          replace p149 := eq_true p149
                                          replace q149 := eq_true q149
                                          obtain ⟨Ao74, co74, eo74⟩ := Kd.S_slice HO_13.out
                                          subst eo74
                                          have p150 : 0 ≤ (x14_3 : Int) := of_decide_eq_true (by first | (with_reducible assumption) | assumption)
                                          have q150 : x14_3 < (x13_4.length : Int) := of_decide_eq_true (by first | (with_reducible assumption) | assumption)
                                          obtain ⟨ad150, A150_0, c150_0, e150, hx150_0, hl150_0, hi150_0⟩ := at_L1 (Kd.S_reads' HO_13.out).2.2 x14_3 p150 q150
                                          cases e150
                                          obtain ⟨ce150, hce150, hMe150, hcc150⟩ := Kd.S_get HO_13.out [] x14_3 p150 (by first | exact q150 | exact of_decide_eq_true (by first | (with_reducible assumption) | assumption) | (have e_ := (Kd.S_reads' HO_13.out).1; omega))
                                          obtain ⟨ve150_0, rfl, ge150_0⟩ := hMe150
                                          have hv150_0 := hcc150 0 _ rfl
                                          rw [Nat.add_zero, show ((Kd.slice 3 (Kd.int .i64))).sz = 1 from rfl, Nat.mul_one] at hv150_0
                                          replace hv150_0 := Option.some.inj (hv150_0.symm.trans hx150_0)
                                          rw [hv150_0] at ge150_0
                                          have HL150_0 := Aside0.mk (show Kd.R (Kd.int .i64) 3 _ _ _ _ (rd_L1 x13_4 x14_3) from ge150_0)
                                          clear hv150_0 ge150_0
                                          have HX150_0 := Aside0.mk hx150_0
                                          clear hcc150 hce150
                                          have HR150_0 := Aside0.mk hi150_0
                                          have HC150_0 := Aside0.mk hl150_0
                                          clear hi150_0 hl150_0
                                          replace p150 := eq_true p150
                                          replace q150 := eq_true q150
                                          obtain ⟨go75, co75, eo75, gb75, gl75, cl75, HG75⟩ := Kd.S_form HO_13.out (by have h_ : (x14_3 : Int) < ((x13_4.length : Int) : Int) := of_decide_eq_true (by first | (with_reducible assumption) | assumption); have h2_ : 0 ≤ (x14_3 : Int) := (of_decide_eq_true (by first | (with_reducible assumption) | assumption)); omega)
                                          (first | cases eo75 | (injection eo75 with ea_ en_ ec_; (first | subst ea_ | (injection ea_ with ea_; subst ea_)); subst ec_; clear en_))
                                          have GB75 := Aside0.mk gb75
                                          have GG75 := Aside0.mk HG75
                                          clear gb75 gl75 HG75
                                          (first | simp only [add_plain] at hx150_0 | skip)
                                          obtain ⟨oki75, ce75, hcl75, hM75, hcc75, _, _, hH75⟩ := Kd.S_elem HO_13.out [] (x14_3 : Int) (of_decide_eq_true (by first | (with_reducible assumption) | assumption)) (by have h_ : (x14_3 : Int) < ((x13_4.length : Int) : Int) := of_decide_eq_true (by first | (with_reducible assumption) | assumption); first | exact h_ | (have e_ := (Kd.S_reads' HO_13.out).1; omega) | simpa using h_)
                                          obtain ⟨ve75_0, rfl, ge75_0⟩ := hM75
                                          have hv75 := hcc75 0 _ rfl
                                          have hX75 := HX150_0.out
                                          (try simp only [add_plain] at hX75)
                                          (try simp only [Nat.add_zero] at hv75)
                                          (try rw [show ((Kd.slice 3 (Kd.int .i64))).sz = 1 from rfl, Nat.mul_one] at hv75)
                                          replace hv75 := Option.some.inj (hv75.symm.trans hX75)
                                          subst hv75
                                          clear hX75 hcc75 hcl75
                                          have UU75 := Aside0.mk (show Kd.R (Kd.int .i64) 3 _ w.heap.size oki75 (.slice A150_0 (rd_L1 x13_4 x14_3).length c150_0) (rd_L1 x13_4 x14_3) from ge75_0)
                                          have HH75 := Aside0.mk hH75
                                          have HN75 := Aside0.mk (Kd.S_reads' HO_13.out).1
                                          clear hH75 ge75_0
                                          go_wp2_with (first | ((with_reducible refine gate_builtin (b := .append) (xs := #[.tmp 108, .tmp 110]) rfl ?_); at_builtin; refine Kd.R_append (Kd.int .i64) (w0 := w) w.heap.size rfl (.tmp 108) (.tmp 110) 22 3 (.int .i64 0) 8 rfl Try.underlying22 info3 rfl (by decide) (by omega) (.slice A150_0 (rd_L1 x13_4 x14_3).length c150_0) (rd_L1 x13_4 x14_3) 0 [.int .i64 0] (fun k_ => oki75 k_ ∨ ((fun k_ => some k_ ≠ (.slice (some ad149) x8_11.length co73 : Value).ownBlock)) k_ ∧ wr.heap.size ≤ k_) (fun _ => False) rfl rfl ?aP (fun _ hk => hk.elim) ?aF ?aO ?aB ?aS ?aL ?_; (case aP => exact rfl); (case aB => exact (by repeat (first | (with_reducible first | exact HB.out | apply below_alloc | apply pw_below_drewN | apply below_drew1) | exact HB.out))); (case aF => exact (fun k_ hk => .inr ⟨Kd.fresh' (Kd.R_lt (by (with_reducible repeat (first | apply Kd.R_alloc | apply Kd.R_drewN | apply Kd.R_drew)); exact HO_8.out)) k_ hk, hk⟩)); (case aO => exact (by (with_reducible repeat (first | apply Kd.R_alloc | apply Kd.R_drewN | apply Kd.R_drew)); exact Kd.R_mono UU75.out (fun _ hk => .inl hk))); (case aS => exact (below_size (by repeat (first | (with_reducible first | exact HB.out | apply below_alloc | apply pw_below_drewN | apply below_drew1) | exact HB.out)))); (case aL => have := LMc71.out; omega); intro v152 w76 ho hb hg hat; rw [← Ny151.out] at ho; have n0_ := Aside0.mk (Kd.R_grown2 (by (with_reducible repeat (first | apply Kd.R_alloc | apply Kd.R_drewN | apply Kd.R_drew)); exact HO_8.out) rfl hg (fun k_ e_ => (HL150_0.out.1 k_ e_).1)); have n1_ := Aside0.mk (hb); have n2_ := Aside0.mk (Kd.H_grown (Kd.H_widen (by repeat (first | exact HH75.out | refine Kd.H_alloc ?_ _ | refine Kd.H_drewN ?_ _ | refine Kd.H_drew ?_))) hg (fun k_ e_ => .inl (UU75.out.1 k_ e_))); have n3_ := Aside0.mk (ho); clear HO_8; clear HB; clear HH75; clear HO_13; clear UU75; clear HL150_0; have HO_8 := n0_; have HB := n1_; have HH75 := n2_; have HO153 := n3_; clear n0_ n1_ n2_ n3_; clear ho hb hg hat; have p72 : 0 ≤ (x14_3 : Int) := of_decide_eq_true (by first | (with_reducible assumption) | assumption); have q72 : (x14_3 : Int) < ((x13_4.length : Int) : Int) := of_decide_eq_true (by first | (with_reducible assumption) | assumption); replace p72 := eq_true p72; replace q72 := eq_true q72; obtain ⟨Ao79, co79, eo79⟩ := Kd.R_slice HO153.out; subst eo79; obtain ⟨_, _, hraw77, _, _, hcc77, _⟩ := Kd.H_raw HH75.out (of_decide_eq_true (by first | (with_reducible assumption) | assumption)) (by have h_ : (x14_3 : Int) < ((x13_4.length : Int) : Int) := of_decide_eq_true (by first | (with_reducible assumption) | assumption); first | exact h_ | (have e_ := (HN75.out); omega) | simpa using h_); obtain ⟨_, hfr77⟩ := Kd.H_at HH75.out (of_decide_eq_true (by first | (with_reducible assumption) | assumption)) (by have h_ : (x14_3 : Int) < ((x13_4.length : Int) : Int) := of_decide_eq_true (by first | (with_reducible assumption) | assumption); first | exact h_ | (have e_ := (HN75.out); omega) | simpa using h_); have hx77_0 := hcc77 0 _ rfl; have hf77_0 := hfr77 0; (try simp only [Nat.add_zero] at hx77_0 hf77_0); (try rw [show ((Kd.slice 3 (Kd.int .i64))).sz = 1 from rfl, Nat.mul_one] at hx77_0); (try rw [show ((Kd.slice 3 (Kd.int .i64))).sz = 1 from rfl, Nat.mul_one] at hf77_0); have HP77 := Kd.S_seg0 HH75.out (of_decide_eq_true (by first | (with_reducible assumption) | assumption)) (by have h_ : (x14_3 : Int) < ((x13_4.length : Int) : Int) := of_decide_eq_true (by first | (with_reducible assumption) | assumption); first | exact h_ | (have e_ := (HN75.out); omega) | simpa using h_) (seg := [.slice Ao79 y151.length co79]) (j := 0) (show 1 ≤ 1 from by decide) (x' := y151) (Kd.M_row HO153.out) (fun _ hk => hk); (try simp only [show ((Kd.slice 3 (Kd.int .i64))).sz = 1 from rfl, Nat.mul_one, Nat.add_zero] at HP77); clear hcc77 hfr77) | ((with_reducible refine gate_store (t := 22) (p := 112) rfl ?_); refine store_event (t := 22) (p := 112) (v := ?vo_w78) (w1 := (w76.setCell ⟨go75, (x14_3 : Int).toNat, none⟩ (.slice Ao79 y151.length co79))) ?hg ?ho ?hn ?hr ?_; (case ho => rfl); (case hg => rfl); (case hn => rfl); (case hr => first | (go_simp; done) | (go_simp; rfl)); intro w78 hw; have hg : w76.grownBy w78 (some go75) := (by rw [hw]; exact HP77.2); have hp_ : Kd.S (Kd.slice 3 (Kd.int .i64)) 22 w78 w.heap.size (fun k_ => some k_ ≠ (.slice (some ad149) x8_11.length co73 : Value).ownBlock) (.slice (some ⟨go75, 0, none⟩) x13_4.length co74) y154 := (by rw [hw, Ny154.out]; exact HP77.1); clear HP77; have n0_ := Aside0.mk (Kd.R_over' (v := (.slice (some ⟨go75, 0, none⟩) x13_4.length co74)) (by (with_reducible repeat (first | apply Kd.R_alloc | apply Kd.R_drewN | apply Kd.R_drew)); exact HO_8.out) (Kd.R_typed hraw77) (by decide) hg); have n1_ := Aside0.mk ((by rw [hw]; exact below_set HB.out GB75.out : Below w.heap.size w w78)); have n2_ := Aside0.mk (hp_); clear HO_8; clear HB; clear HO153; clear HH75; have HO_8 := n0_; have HB := n1_; have HO_13 := n2_; clear n0_ n1_ n2_; clear hg hw hp_ hraw77))
                                          go_roundg k4
                                          case measure => have := HK1.out; have := HJ11.out; have := HK3.out; have := HK4.out; omega
                                          case rel => exact ⟨(y154), (wrap64 (x15_4 + 1)), (by first | rfl | (simp; done) | (simp [*]; done)), H', ⟨by have := HK1.out; have := HJ11.out; have := HK3.out; have := HK4.out; omega⟩, ⟨by (with_reducible repeat (first | apply Kd.R_alloc | apply Kd.R_drewN | apply Kd.R_drew)); exact HO_8.out⟩, ⟨by (with_reducible repeat (first | apply Kd.S_alloc | apply Kd.S_drewN | apply Kd.S_drew)); exact HO_13.out⟩, ⟨by repeat (first | (with_reducible first | exact HB.out | apply below_alloc | apply pw_below_drewN | apply below_drew1) | exact HB.out)⟩⟩
                                        · rw [if_neg c71] at H
                                          exact absurd H (by simp)
                                      · rw [if_neg c70] at H
                                        exact absurd H (by simp)
                                    · rw [if_neg c69] at H
                                      have c69b0 : ((rd x8_11 x14_3) == x15_4) = false := beq_eq_false_iff_ne.mpr c69
                                      have c69b1 : ((rd x8_11 x14_3) != x15_4) = true := bne_iff_ne.mpr c69
                                      by_cases c80 : x14_3 < (x13_4.length : Int)
                                      · rw [if_pos c80] at H
                                        have c80b0 : decide (x14_3 < (x13_4.length : Int)) = true := decide_eq_true c80
                                        clear c80
                                        by_cases c81 : (rd_L1 x13_4 x14_3).length < 17592186044416
                                        · rw [if_pos c81] at H
                                          have LMc81 := Aside0.mk c81
                                          clear c81
                                          obtain ⟨y156, hy156⟩ : ∃ y_ : List Int, y_ = ((rd_L1 x13_4 x14_3) ++ [1]) := ⟨_, rfl⟩
                                          replace H : (hypercubelaw9_MatchSquare.l3 k4 l2 (ji31) x8_11 (x13_4.set (x14_3 : Int).toNat y156) x14_3 (wrap64 (x15_4 + 1))) = some r := by first | (rw [hy156]; with_reducible exact H) | (have H2_ := (Option.bind_some _ _).symm.trans H; rw [hy156]; with_reducible exact H2_) | (have H2_ := (Option.bind_some _ _).symm.trans H; with_reducible exact H2_) | with_reducible exact H | (rw [hy156]; exact H) | exact H
                                          have Ny156 := Aside0.mk hy156
                                          clear hy156
                                          obtain ⟨y159, hy159⟩ : ∃ y_ : List (List Int), y_ = (x13_4.set (x14_3 : Int).toNat y156) := ⟨_, rfl⟩
                                          replace H : (hypercubelaw9_MatchSquare.l3 k4 l2 (ji31) x8_11 y159 x14_3 (wrap64 (x15_4 + 1))) = some r := by first | (rw [hy159]; with_reducible exact H) | (have H2_ := (Option.bind_some _ _).symm.trans H; rw [hy159]; with_reducible exact H2_) | (have H2_ := (Option.bind_some _ _).symm.trans H; with_reducible exact H2_) | with_reducible exact H | (rw [hy159]; exact H) | exact H
                                          have Ny159 := Aside0.mk hy159
                                          clear hy159
                                          have H' := Aside0.mk H
                                          clear H
                                          obtain ⟨Ao83, co83, eo83⟩ := Kd.R_slice HO_8.out
                                          subst eo83
                                          have p149 : 0 ≤ (x14_3 : Int) := of_decide_eq_true (by first | (with_reducible assumption) | assumption)
                                          have q149 : x14_3 < (x8_11.length : Int) := of_decide_eq_true (by first | (with_reducible assumption) | assumption)
                                          obtain ⟨ad149, e149, hx149_0⟩ := Kd.at_int (Kd.R_reads' HO_8.out).2.2 x14_3 p149 q149
                                          cases e149
                                          replace p149 := eq_true p149
                                          replace q149 := eq_true q149
                                          obtain ⟨Ao84, co84, eo84⟩ := Kd.S_slice HO_13.out
                                          subst eo84
                                          have p155 : 0 ≤ (x14_3 : Int) := of_decide_eq_true (by first | (with_reducible assumption) | assumption)
                                          have q155 : x14_3 < (x13_4.length : Int) := of_decide_eq_true (by first | (with_reducible assumption) | assumption)
                                          obtain ⟨ad155, A155_0, c155_0, e155, hx155_0, hl155_0, hi155_0⟩ := at_L1 (Kd.S_reads' HO_13.out).2.2 x14_3 p155 q155
                                          cases e155
                                          obtain ⟨ce155, hce155, hMe155, hcc155⟩ := Kd.S_get HO_13.out [] x14_3 p155 (by first | exact q155 | exact of_decide_eq_true (by first | (with_reducible assumption) | assumption) | (have e_ := (Kd.S_reads' HO_13.out).1; omega))
                                          obtain ⟨ve155_0, rfl, ge155_0⟩ := hMe155
                                          have hv155_0 := hcc155 0 _ rfl
                                          rw [Nat.add_zero, show ((Kd.slice 3 (Kd.int .i64))).sz = 1 from rfl, Nat.mul_one] at hv155_0
                                          replace hv155_0 := Option.some.inj (hv155_0.symm.trans hx155_0)
                                          rw [hv155_0] at ge155_0
                                          have HL155_0 := Aside0.mk (show Kd.R (Kd.int .i64) 3 _ _ _ _ (rd_L1 x13_4 x14_3) from ge155_0)
                                          clear hv155_0 ge155_0
                                          have HX155_0 := Aside0.mk hx155_0
                                          clear hcc155 hce155
                                          have HR155_0 := Aside0.mk hi155_0
                                          have HC155_0 := Aside0.mk hl155_0
                                          clear hi155_0 hl155_0
                                          replace p155 := eq_true p155
                                          replace q155 := eq_true q155
                                          obtain ⟨go85, co85, eo85, gb85, gl85, cl85, HG85⟩ := Kd.S_form HO_13.out (by have h_ : (x14_3 : Int) < ((x13_4.length : Int) : Int) := of_decide_eq_true (by first | (with_reducible assumption) | assumption); have h2_ : 0 ≤ (x14_3 : Int) := (of_decide_eq_true (by first | (with_reducible assumption) | assumption)); omega)
                                          (first | cases eo85 | (injection eo85 with ea_ en_ ec_; (first | subst ea_ | (injection ea_ with ea_; subst ea_)); subst ec_; clear en_))
                                          have GB85 := Aside0.mk gb85
                                          have GG85 := Aside0.mk HG85
                                          clear gb85 gl85 HG85
                                          (first | simp only [add_plain] at hx155_0 | skip)
                                          obtain ⟨oki85, ce85, hcl85, hM85, hcc85, _, _, hH85⟩ := Kd.S_elem HO_13.out [] (x14_3 : Int) (of_decide_eq_true (by first | (with_reducible assumption) | assumption)) (by have h_ : (x14_3 : Int) < ((x13_4.length : Int) : Int) := of_decide_eq_true (by first | (with_reducible assumption) | assumption); first | exact h_ | (have e_ := (Kd.S_reads' HO_13.out).1; omega) | simpa using h_)
                                          obtain ⟨ve85_0, rfl, ge85_0⟩ := hM85
                                          have hv85 := hcc85 0 _ rfl
                                          have hX85 := HX155_0.out
                                          (try simp only [add_plain] at hX85)
                                          (try simp only [Nat.add_zero] at hv85)
                                          (try rw [show ((Kd.slice 3 (Kd.int .i64))).sz = 1 from rfl, Nat.mul_one] at hv85)
                                          replace hv85 := Option.some.inj (hv85.symm.trans hX85)
                                          subst hv85
                                          clear hX85 hcc85 hcl85
                                          have UU85 := Aside0.mk (show Kd.R (Kd.int .i64) 3 _ w.heap.size oki85 (.slice A155_0 (rd_L1 x13_4 x14_3).length c155_0) (rd_L1 x13_4 x14_3) from ge85_0)
                                          have HH85 := Aside0.mk hH85
                                          have HN85 := Aside0.mk (Kd.S_reads' HO_13.out).1
                                          clear hH85 ge85_0
                                          go_wp2_with (first | ((with_reducible refine gate_builtin (b := .append) (xs := #[.tmp 108, .tmp 110]) rfl ?_); at_builtin; refine Kd.R_append (Kd.int .i64) (w0 := w) w.heap.size rfl (.tmp 108) (.tmp 110) 22 3 (.int .i64 0) 8 rfl Try.underlying22 info3 rfl (by decide) (by omega) (.slice A155_0 (rd_L1 x13_4 x14_3).length c155_0) (rd_L1 x13_4 x14_3) 1 [.int .i64 1] (fun k_ => oki85 k_ ∨ ((fun k_ => some k_ ≠ (.slice (some ad149) x8_11.length co83 : Value).ownBlock)) k_ ∧ wr.heap.size ≤ k_) (fun _ => False) rfl rfl ?aP (fun _ hk => hk.elim) ?aF ?aO ?aB ?aS ?aL ?_; (case aP => exact rfl); (case aB => exact (by repeat (first | (with_reducible first | exact HB.out | apply below_alloc | apply pw_below_drewN | apply below_drew1) | exact HB.out))); (case aF => exact (fun k_ hk => .inr ⟨Kd.fresh' (Kd.R_lt (by (with_reducible repeat (first | apply Kd.R_alloc | apply Kd.R_drewN | apply Kd.R_drew)); exact HO_8.out)) k_ hk, hk⟩)); (case aO => exact (by (with_reducible repeat (first | apply Kd.R_alloc | apply Kd.R_drewN | apply Kd.R_drew)); exact Kd.R_mono UU85.out (fun _ hk => .inl hk))); (case aS => exact (below_size (by repeat (first | (with_reducible first | exact HB.out | apply below_alloc | apply pw_below_drewN | apply below_drew1) | exact HB.out)))); (case aL => have := LMc81.out; omega); intro v157 w86 ho hb hg hat; rw [← Ny156.out] at ho; have n0_ := Aside0.mk (Kd.R_grown2 (by (with_reducible repeat (first | apply Kd.R_alloc | apply Kd.R_drewN | apply Kd.R_drew)); exact HO_8.out) rfl hg (fun k_ e_ => (HL155_0.out.1 k_ e_).1)); have n1_ := Aside0.mk (hb); have n2_ := Aside0.mk (Kd.H_grown (Kd.H_widen (by repeat (first | exact HH85.out | refine Kd.H_alloc ?_ _ | refine Kd.H_drewN ?_ _ | refine Kd.H_drew ?_))) hg (fun k_ e_ => .inl (UU85.out.1 k_ e_))); have n3_ := Aside0.mk (ho); clear HO_8; clear HB; clear HH85; clear HO_13; clear UU85; clear HL155_0; have HO_8 := n0_; have HB := n1_; have HH85 := n2_; have HO158 := n3_; clear n0_ n1_ n2_ n3_; clear ho hb hg hat; have p82 : 0 ≤ (x14_3 : Int) := of_decide_eq_true (by first | (with_reducible assumption) | assumption); have q82 : (x14_3 : Int) < ((x13_4.length : Int) : Int) := of_decide_eq_true (by first | (with_reducible assumption) | assumption); replace p82 := eq_true p82; replace q82 := eq_true q82; obtain ⟨Ao89, co89, eo89⟩ := Kd.R_slice HO158.out; subst eo89; obtain ⟨_, _, hraw87, _, _, hcc87, _⟩ := Kd.H_raw HH85.out (of_decide_eq_true (by first | (with_reducible assumption) | assumption)) (by have h_ : (x14_3 : Int) < ((x13_4.length : Int) : Int) := of_decide_eq_true (by first | (with_reducible assumption) | assumption); first | exact h_ | (have e_ := (HN85.out); omega) | simpa using h_); obtain ⟨_, hfr87⟩ := Kd.H_at HH85.out (of_decide_eq_true (by first | (with_reducible assumption) | assumption)) (by have h_ : (x14_3 : Int) < ((x13_4.length : Int) : Int) := of_decide_eq_true (by first | (with_reducible assumption) | assumption); first | exact h_ | (have e_ := (HN85.out); omega) | simpa using h_); have hx87_0 := hcc87 0 _ rfl; have hf87_0 := hfr87 0; (try simp only [Nat.add_zero] at hx87_0 hf87_0); (try rw [show ((Kd.slice 3 (Kd.int .i64))).sz = 1 from rfl, Nat.mul_one] at hx87_0); (try rw [show ((Kd.slice 3 (Kd.int .i64))).sz = 1 from rfl, Nat.mul_one] at hf87_0); have HP87 := Kd.S_seg0 HH85.out (of_decide_eq_true (by first | (with_reducible assumption) | assumption)) (by have h_ : (x14_3 : Int) < ((x13_4.length : Int) : Int) := of_decide_eq_true (by first | (with_reducible assumption) | assumption); first | exact h_ | (have e_ := (HN85.out); omega) | simpa using h_) (seg := [.slice Ao89 y156.length co89]) (j := 0) (show 1 ≤ 1 from by decide) (x' := y156) (Kd.M_row HO158.out) (fun _ hk => hk); (try simp only [show ((Kd.slice 3 (Kd.int .i64))).sz = 1 from rfl, Nat.mul_one, Nat.add_zero] at HP87); clear hcc87 hfr87) | ((with_reducible refine gate_store (t := 22) (p := 112) rfl ?_); refine store_event (t := 22) (p := 112) (v := ?vo_w88) (w1 := (w86.setCell ⟨go85, (x14_3 : Int).toNat, none⟩ (.slice Ao89 y156.length co89))) ?hg ?ho ?hn ?hr ?_; (case ho => rfl); (case hg => rfl); (case hn => rfl); (case hr => first | (go_simp; done) | (go_simp; rfl)); intro w88 hw; have hg : w86.grownBy w88 (some go85) := (by rw [hw]; exact HP87.2); have hp_ : Kd.S (Kd.slice 3 (Kd.int .i64)) 22 w88 w.heap.size (fun k_ => some k_ ≠ (.slice (some ad149) x8_11.length co83 : Value).ownBlock) (.slice (some ⟨go85, 0, none⟩) x13_4.length co84) y159 := (by rw [hw, Ny159.out]; exact HP87.1); clear HP87; have n0_ := Aside0.mk (Kd.R_over' (v := (.slice (some ⟨go85, 0, none⟩) x13_4.length co84)) (by (with_reducible repeat (first | apply Kd.R_alloc | apply Kd.R_drewN | apply Kd.R_drew)); exact HO_8.out) (Kd.R_typed hraw87) (by decide) hg); have n1_ := Aside0.mk ((by rw [hw]; exact below_set HB.out GB85.out : Below w.heap.size w w88)); have n2_ := Aside0.mk (hp_); clear HO_8; clear HB; clear HO158; clear HH85; have HO_8 := n0_; have HB := n1_; have HO_13 := n2_; clear n0_ n1_ n2_; clear hg hw hp_ hraw87))
                                          go_roundg k4
                                          case measure => have := HK1.out; have := HJ11.out; have := HK3.out; have := HK4.out; omega
                                          case rel => exact ⟨(y159), (wrap64 (x15_4 + 1)), (by first | rfl | (simp; done) | (simp [*]; done)), H', ⟨by have := HK1.out; have := HJ11.out; have := HK3.out; have := HK4.out; omega⟩, ⟨by (with_reducible repeat (first | apply Kd.R_alloc | apply Kd.R_drewN | apply Kd.R_drew)); exact HO_8.out⟩, ⟨by (with_reducible repeat (first | apply Kd.S_alloc | apply Kd.S_drewN | apply Kd.S_drew)); exact HO_13.out⟩, ⟨by repeat (first | (with_reducible first | exact HB.out | apply below_alloc | apply pw_below_drewN | apply below_drew1) | exact HB.out)⟩⟩
                                        · rw [if_neg c81] at H
                                          exact absurd H (by simp)
                                      · rw [if_neg c80] at H
                                        exact absurd H (by simp)
                                  · rw [if_neg c68] at H
                                    exact absurd H (by simp)
                                · rw [if_neg c67] at H
                                  exact absurd H (by simp)
                            · rw [if_neg c37] at H
                              have c37b0 : decide (x15_4 < (ji31)) = false := decide_eq_false c37
                              clear c37
                              have H' := Aside0.mk H
                              clear H
                              go_wp2
                              go_roundg k4
                              case measure => have := HK1.out; have := HJ11.out; have := HK3.out; have := HK4.out; omega
                              case rel => exact ⟨(x13_4), (wrap64 (x14_3 + 1)), (by first | rfl | (simp; done) | (simp [*]; done)), H', ⟨by have := HK1.out; have := HJ11.out; have := HK3.out; have := HK4.out; omega⟩, ⟨by (with_reducible repeat (first | apply Kd.R_alloc | apply Kd.R_drewN | apply Kd.R_drew)); exact HO_8.out⟩, ⟨by (with_reducible repeat (first | apply Kd.S_alloc | apply Kd.S_drewN | apply Kd.S_drew)); exact HO_13.out⟩, ⟨by repeat (first | (with_reducible first | exact HB.out | apply below_alloc | apply pw_below_drewN | apply below_drew1) | exact HB.out)⟩⟩
                      · rw [if_neg c36] at H
                        have c36b0 : decide (x14_3 < (ji31)) = false := decide_eq_false c36
                        clear c36
                        replace H := Option.bind_eq_some_iff.mp H
                        obtain ⟨⟨t130, t131, t132⟩, A900, H⟩ := H
                        replace H : (if t132 = true then (if t131 = 0 then ((hypercuberef1_Ints.f t130 x8_11).bind fun t135 => (some t135)) else (some false)) else (some false)) = some r := H
                        have A90 := Aside0.mk A900
                        clear A900
                        by_cases c91 : t132 = true
                        · subst c91
                          have H1 : (if t131 = 0 then ((hypercuberef1_Ints.f t130 x8_11).bind fun t135 => (some t135)) else (some false)) = some r := by rw [if_pos rfl] at H; exact H
                          clear H
                          have H := H1
                          clear H1
                          by_cases c92 : t131 = 0
                          · rw [if_pos c92] at H
                            have c92b0 : (t131 == 0) = true := beq_iff_eq.mpr c92
                            have c92b1 : (t131 != 0) = false := bne_eq_false_iff_eq.mpr c92
                            clear c92
                            replace H := Option.bind_eq_some_iff.mp H
                            obtain ⟨t135, A930, H⟩ := H
                            replace H : (some t135) = some r := H
                            have A93 := Aside0.mk A930
                            clear A930
                            obtain rfl := Option.some.inj H
                            obtain ⟨Ao94, co94, eo94⟩ := Kd.S_slice HO_13.out
                            subst eo94
                            go_wp2_with (first | ((with_reducible refine gate_callee (f := 15) rfl ?_); refine goesL_ (some 115) rfl rfl Try.func15 (by kernel_rfl) rfl #[.slice Ao94 x13_3.length co94] rfl (by (try simp only [List.map_toArray, List.map_cons, List.map_nil]); first | done | rfl | (simp only [List.length_drop, List.length_take]; rfl)) ?_; (with_reducible refine (match_Assign.calls _ _ x13_3 t130 t131 true _ ?side1 ?side2 A90.out).mono ?_); (case side1 => repeat (first | exact (Kd.S_reads' HO_13.out).2.2 | (with_reducible refine Kd.C_alloc ?_ _) | (with_reducible refine Kd.C_drewN ?_ _) | (with_reducible refine Kd.C_drew ?_))); (case side2 => exact (Kd.S_reads' HO_13.out).2.1); rintro e w95 ⟨v133, rfl, ho0, hb⟩; refine ⟨_, rfl, ?_⟩; have n0_ := Aside0.mk (Kd.R_elder' (by (with_reducible repeat (first | apply Kd.R_alloc | apply Kd.R_drewN | apply Kd.R_drew)); exact HO_8.out) (Kd.R_base ho0) hb); have n1_ := Aside0.mk (Kd.S_elder' (by (with_reducible repeat (first | apply Kd.S_alloc | apply Kd.S_drewN | apply Kd.S_drew)); exact HO_13.out) (Kd.R_base ho0) hb); have n2_ := Aside0.mk (Kd.R_lower (Kd.R_new' ho0 (Kd.R_lt (by (with_reducible repeat (first | apply Kd.R_alloc | apply Kd.R_drewN | apply Kd.R_drew)); exact HO_8.out))) (below_size (by repeat (first | (with_reducible first | exact HB.out | apply below_alloc | apply pw_below_drewN | apply below_drew1) | exact HB.out)))); have n3_ := Aside0.mk (below_step (by repeat (first | (with_reducible first | exact HB.out | apply below_alloc | apply pw_below_drewN | apply below_drew1) | exact HB.out)) hb); clear HO_8; clear HO_13; clear HB; have HO_8 := n0_; have HO_13 := n1_; have HO134 := n2_; have HB := n3_; clear n0_ n1_ n2_ n3_; (try clear hb); (try clear hb2); (try clear hk); (try clear hi); (try clear ho0); obtain ⟨Ao96, co96, eo96⟩ := Kd.R_slice HO134.out; subst eo96; obtain ⟨Ao97, co97, eo97⟩ := Kd.R_slice HO_8.out; subst eo97) | (go_at_call 17; (with_reducible refine (hypercuberef1_Ints.calls _ _ t130 _ _ x8_11 t135 _ ?side1 ?side2 ?side3 ?side4 A93.out).mono ?_); (case side1 => repeat (first | exact (Kd.R_reads' HO134.out).2.2 | (with_reducible refine Kd.C_alloc ?_ _) | (with_reducible refine Kd.C_drewN ?_ _) | (with_reducible refine Kd.C_drew ?_))); (case side2 => exact (Kd.R_reads' HO134.out).2.1); (case side3 => repeat (first | exact (Kd.R_reads' HO_8.out).2.2 | (with_reducible refine Kd.C_alloc ?_ _) | (with_reducible refine Kd.C_drewN ?_ _) | (with_reducible refine Kd.C_drew ?_))); (case side4 => exact (Kd.R_reads' HO_8.out).2.1); rintro e w98 ⟨rfl, hb⟩; have n0_ := Aside0.mk (Kd.R_below (by (with_reducible repeat (first | apply Kd.R_alloc | apply Kd.R_drewN | apply Kd.R_drew)); exact HO_8.out) hb); have n1_ := Aside0.mk (Kd.S_below (by (with_reducible repeat (first | apply Kd.S_alloc | apply Kd.S_drewN | apply Kd.S_drew)); exact HO_13.out) hb); have n2_ := Aside0.mk (Kd.R_below (by (with_reducible repeat (first | apply Kd.R_alloc | apply Kd.R_drewN | apply Kd.R_drew)); exact HO134.out) hb); have n3_ := Aside0.mk (below_step (by repeat (first | (with_reducible first | exact HB.out | apply below_alloc | apply pw_below_drewN | apply below_drew1) | exact HB.out)) hb); clear HO_8; clear HO_13; clear HO134; clear HB; have HO_8 := n0_; have HO_13 := n1_; have HO134 := n2_; have HB := n3_; clear n0_ n1_ n2_ n3_; (try clear hb); (try clear hb2); (try clear hk); (try clear hi)))
                            go_ret
                            exact ⟨by first | rfl | (simp [errW_none, errW_some] <;> rfl) | (simp only [← hji31]; first | rfl | (simp [errW_none, errW_some] <;> rfl)) | (simp [*, errW_none, errW_some] <;> rfl), by repeat (first | (with_reducible first | exact HB.out | apply below_alloc | apply pw_below_drewN | apply below_drew1) | exact HB.out)⟩
                          · rw [if_neg c92] at H
                            have c92b0 : (t131 == 0) = false := beq_eq_false_iff_ne.mpr c92
                            have c92b1 : (t131 != 0) = true := bne_iff_ne.mpr c92
                            obtain rfl := Option.some.inj H
                            obtain ⟨Ao99, co99, eo99⟩ := Kd.S_slice HO_13.out
                            subst eo99
                            go_wp2_with (first | ((with_reducible refine gate_callee (f := 15) rfl ?_); refine goesL_ (some 115) rfl rfl Try.func15 (by kernel_rfl) rfl #[.slice Ao99 x13_3.length co99] rfl (by (try simp only [List.map_toArray, List.map_cons, List.map_nil]); first | done | rfl | (simp only [List.length_drop, List.length_take]; rfl)) ?_; (with_reducible refine (match_Assign.calls _ _ x13_3 t130 t131 true _ ?side1 ?side2 A90.out).mono ?_); (case side1 => repeat (first | exact (Kd.S_reads' HO_13.out).2.2 | (with_reducible refine Kd.C_alloc ?_ _) | (with_reducible refine Kd.C_drewN ?_ _) | (with_reducible refine Kd.C_drew ?_))); (case side2 => exact (Kd.S_reads' HO_13.out).2.1); rintro e w100 ⟨v133, rfl, ho0, hb⟩; refine ⟨_, rfl, ?_⟩; have n0_ := Aside0.mk (Kd.R_elder' (by (with_reducible repeat (first | apply Kd.R_alloc | apply Kd.R_drewN | apply Kd.R_drew)); exact HO_8.out) (Kd.R_base ho0) hb); have n1_ := Aside0.mk (Kd.S_elder' (by (with_reducible repeat (first | apply Kd.S_alloc | apply Kd.S_drewN | apply Kd.S_drew)); exact HO_13.out) (Kd.R_base ho0) hb); have n2_ := Aside0.mk (Kd.R_lower (Kd.R_new' ho0 (Kd.R_lt (by (with_reducible repeat (first | apply Kd.R_alloc | apply Kd.R_drewN | apply Kd.R_drew)); exact HO_8.out))) (below_size (by repeat (first | (with_reducible first | exact HB.out | apply below_alloc | apply pw_below_drewN | apply below_drew1) | exact HB.out)))); have n3_ := Aside0.mk (below_step (by repeat (first | (with_reducible first | exact HB.out | apply below_alloc | apply pw_below_drewN | apply below_drew1) | exact HB.out)) hb); clear HO_8; clear HO_13; clear HB; have HO_8 := n0_; have HO_13 := n1_; have HO134 := n2_; have HB := n3_; clear n0_ n1_ n2_ n3_; (try clear hb); (try clear hb2); (try clear hk); (try clear hi); (try clear ho0)))
                            go_ret
                            exact ⟨by first | rfl | (simp [errW_none, errW_some] <;> rfl) | (simp only [← hji31]; first | rfl | (simp [errW_none, errW_some] <;> rfl)) | (simp [*, errW_none, errW_some] <;> rfl), by repeat (first | (with_reducible first | exact HB.out | apply below_alloc | apply pw_below_drewN | apply below_drew1) | exact HB.out)⟩
                        · replace c91 := Bool.eq_false_iff.mpr c91
                          subst c91
                          have H1 : (some false) = some r := by rw [if_neg (show ¬ (false = true) by decide)] at H; exact H
                          clear H
                          have H := H1
                          clear H1
                          obtain rfl := Option.some.inj H
                          obtain ⟨Ao101, co101, eo101⟩ := Kd.S_slice HO_13.out
                          subst eo101
                          go_wp2_with (first | ((with_reducible refine gate_callee (f := 15) rfl ?_); refine goesL_ (some 115) rfl rfl Try.func15 (by kernel_rfl) rfl #[.slice Ao101 x13_3.length co101] rfl (by (try simp only [List.map_toArray, List.map_cons, List.map_nil]); first | done | rfl | (simp only [List.length_drop, List.length_take]; rfl)) ?_; (with_reducible refine (match_Assign.calls _ _ x13_3 t130 t131 false _ ?side1 ?side2 A90.out).mono ?_); (case side1 => repeat (first | exact (Kd.S_reads' HO_13.out).2.2 | (with_reducible refine Kd.C_alloc ?_ _) | (with_reducible refine Kd.C_drewN ?_ _) | (with_reducible refine Kd.C_drew ?_))); (case side2 => exact (Kd.S_reads' HO_13.out).2.1); rintro e w102 ⟨v133, rfl, ho0, hb⟩; refine ⟨_, rfl, ?_⟩; have n0_ := Aside0.mk (Kd.R_elder' (by (with_reducible repeat (first | apply Kd.R_alloc | apply Kd.R_drewN | apply Kd.R_drew)); exact HO_8.out) (Kd.R_base ho0) hb); have n1_ := Aside0.mk (Kd.S_elder' (by (with_reducible repeat (first | apply Kd.S_alloc | apply Kd.S_drewN | apply Kd.S_drew)); exact HO_13.out) (Kd.R_base ho0) hb); have n2_ := Aside0.mk (Kd.R_lower (Kd.R_new' ho0 (Kd.R_lt (by (with_reducible repeat (first | apply Kd.R_alloc | apply Kd.R_drewN | apply Kd.R_drew)); exact HO_8.out))) (below_size (by repeat (first | (with_reducible first | exact HB.out | apply below_alloc | apply pw_below_drewN | apply below_drew1) | exact HB.out)))); have n3_ := Aside0.mk (below_step (by repeat (first | (with_reducible first | exact HB.out | apply below_alloc | apply pw_below_drewN | apply below_drew1) | exact HB.out)) hb); clear HO_8; clear HO_13; clear HB; have HO_8 := n0_; have HO_13 := n1_; have HO134 := n2_; have HB := n3_; clear n0_ n1_ n2_ n3_; (try clear hb); (try clear hb2); (try clear hk); (try clear hi); (try clear ho0)))
                          go_ret
                          exact ⟨by first | rfl | (simp [errW_none, errW_some] <;> rfl) | (simp only [← hji31]; first | rfl | (simp [errW_none, errW_some] <;> rfl)) | (simp [*, errW_none, errW_some] <;> rfl), by repeat (first | (with_reducible first | exact HB.out | apply below_alloc | apply pw_below_drewN | apply below_drew1) | exact HB.out)⟩
                · rw [if_neg c33] at H
                  exact absurd H (by simp)
              · rw [if_neg c32] at H
                exact absurd H (by simp)
  · replace c5 := Bool.eq_false_iff.mpr c5
    subst c5
    have H1 : (some false) = some r := by rw [if_neg (show ¬ (false = true) by decide)] at H; exact H
    clear H
    have H := H1
    clear H1
    obtain rfl := Option.some.inj H
    go_enter Try.func7, Try.ntmps7
    go_wp2_with (first | ((with_reducible refine gate_callee (f := 13) rfl ?_); refine goesL_ (some 20) rfl rfl Try.func13 (by kernel_rfl) rfl #[] rfl (by (try simp only [List.map_toArray, List.map_cons, List.map_nil]); first | done | rfl | (simp only [List.length_drop, List.length_take]; rfl)) ?_; (with_reducible refine (hypercubelaw9_known.calls  false _ A4.out).mono ?_); rintro e w103 ⟨rfl, hb⟩; refine ⟨_, rfl, ?_⟩; have n0_ := Aside0.mk (below_step (by repeat (first | (with_reducible first | exact HB.out | apply below_alloc | apply pw_below_drewN | apply below_drew1) | exact HB.out)) hb); clear HB; have HB := n0_; clear n0_; (try clear hb); (try clear hb2); (try clear hk); (try clear hi)))
    go_ret
    exact ⟨by first | rfl | (simp [errW_none, errW_some] <;> rfl) | (simp [*, errW_none, errW_some] <;> rfl), by repeat (first | (with_reducible first | exact HB.out | apply below_alloc | apply pw_below_drewN | apply below_drew1) | exact HB.out)⟩

/-- THE ONE PURE STATEMENT of hypercubelaw9_MatchSquare: yours. -/
def hypercubelaw9_MatchSquare.Pure : Prop := ∀ (a0 : Int) (l1 : List Int) (l2 : List Int), (Lit.int .i64 a0).wf = true → l1.length ≤ maxLen → l1.length * 8 ≤ 140737488351232 → (∀ x ∈ l1, (Lit.int .i64 x).wf = true) → l2.length ≤ maxLen → l2.length * 8 ≤ 140737488351232 → (∀ x ∈ l2, (Lit.int .i64 x).wf = true) → ∃ k, hypercubelaw9_MatchSquare.f k a0 l1 l2 = some true
theorem hypercubelaw9_MatchSquare.walk (P : hypercubelaw9_MatchSquare.Pure) (a0 : Int) (a1 : Option Addr) (len1 cap1 : Nat) (z1 : List Int) (a2 : Option Addr) (len2 cap2 : Nat) (z2 : List Int) (w : World) (w0 : (Lit.int .i64 a0).wf = true) (w1 : (a1 = none ∧ len1 = 0 ∧ cap1 = 0 ∧ z1 = []) ∨ ∃ x, a1 = some x ∧ len1 ≤ cap1 ∧ cap1 ≤ maxLen ∧ z1.length = cap1 ∧ (∀ i, i < z1.length → w.cell? (x.add i) = some (.int .i64 (z1.getD i 0))) ∧ ∀ n ∈ z1, (Lit.int .i64 n).wf = true) (y1 : len1 * 8 ≤ 140737488351232) (w2 : (a2 = none ∧ len2 = 0 ∧ cap2 = 0 ∧ z2 = []) ∨ ∃ x, a2 = some x ∧ len2 ≤ cap2 ∧ cap2 ≤ maxLen ∧ z2.length = cap2 ∧ (∀ i, i < z2.length → w.cell? (x.add i) = some (.int .i64 (z2.getD i 0))) ∧ ∀ n ∈ z2, (Lit.int .i64 n).wf = true) (y2 : len2 * 8 ≤ 140737488351232) :
    Calls Try.prog 7 #[.int .i64 a0, .slice a1 len1 cap1, .slice a2 len2 cap2] w fun e w' => e = .returned (.bool true) ∧ Below w.heap.size w w' := by
  obtain ⟨l1, rfl, hr1, hm1, hw1, hc1⟩ := ReadsInt.ofRowC w1
  obtain ⟨l2, rfl, hr2, hm2, hw2, hc2⟩ := ReadsInt.ofRowC w2
  obtain ⟨k, h⟩ := P a0 l1 l2 w0 hm1 y1 hw1 hm2 y2 hw2
  refine (hypercubelaw9_MatchSquare.calls k a0 _ _ l1 _ _ l2 true w (Kd.C_of_reads (d := (0 : Int)) (h1 := fun _ => rfl) hr1) hc1 (Kd.C_of_reads (d := (0 : Int)) (h1 := fun _ => rfl) hr2) hc2 h).mono ?_
  rintro e w' ⟨rfl, hd⟩
  exact ⟨rfl, hd⟩

end Go.Proofs.Ytgnkpahnhhmceaa.PMatchSquare
