-- Cut by pack.py, a program of this session; not trusted: Lean checks it.
import Derived.Test.YtgnkpahnhhmceaaZCore5
import Derived.Test.YtgnkpahnhhmceaaZCore6
/- The document's own choice: a walk. -/
namespace Go.Proofs.Ytgnkpahnhhmceaa.Core
open Go.RowKit Go.Proofs.YtgnkpahnhhmceaaW.PrintWords Go.Proofs.YtgnkpahnhhmceaaW.PrintLast Go.Proofs.YtgnkpahnhhmceaaW.PrintMore
attribute [local go_sem] max2_int min2_int max_two min_two max_three min_three max_four min_four   -- for this text's walks alone
set_option linter.unusedVariables false
set_option linter.unusedSimpArgs false

/-! ### hypercuberef9_Assign: function 16 -/
mutual
def hypercuberef9_Assign.l0 : Nat → List (List Int) → List (List Int) → List Int → Int → Int → Option (List Int × Int × Bool)
 | 0, _, _, _, _, _ => none
 | k + 1, x0, x5, x6, x7, x8 => if x8 < (x0.length : Int) then (hypercuberef9_Assign.l1 k x0 x5 x6 x7 x8 0) else (if 0 < (x5.length : Int) then (if 0 < ((rd_L1 x5 0).length : Int) then (some (x6, rd (rd_L1 x5 0) 0, true)) else (none)) else (none))
def hypercuberef9_Assign.l1 : Nat → List (List Int) → List (List Int) → List Int → Int → Int → Int → Option (List Int × Int × Bool)
 | 0, _, _, _, _, _, _ => none
 | k + 1, x0, x5, x6, x7, x8, x9 => if 0 ≤ (IntKind.u64.wrap (x9)) then (if (Go.bits .and .i64 (shr .i64 x7 (IntKind.u64.wrap (x9))) 1) = 1 then (hypercuberef9_Assign.l1 k x0 x5 x6 x7 x8 (wrap64 (x9 + 1))) else (if 0 ≤ (wrap64 (x8 + 1)) then (if (wrap64 (x8 + 1)) < (x5.length : Int) then (if 0 ≤ (Go.bits .or .i64 x7 (shl .i64 1 (IntKind.u64.wrap (x9)))) then (if (Go.bits .or .i64 x7 (shl .i64 1 (IntKind.u64.wrap (x9)))) < ((rd_L1 x5 (wrap64 (x8 + 1))).length : Int) then (if (rd (rd_L1 x5 (wrap64 (x8 + 1))) (Go.bits .or .i64 x7 (shl .i64 1 (IntKind.u64.wrap (x9))))) < 0 then (hypercuberef9_Assign.l1 k x0 x5 x6 x7 x8 (wrap64 (x9 + 1))) else (if 0 ≤ x8 then (if x8 < (x0.length : Int) then (if 0 ≤ x9 then (if x9 < ((rd_L1 x0 x8).length : Int) then (if x8 < (x5.length : Int) then (if 0 ≤ x7 then (if x7 < ((rd_L1 x5 x8).length : Int) then (if (wrap64 ((rd (rd_L1 x5 (wrap64 (x8 + 1))) (Go.bits .or .i64 x7 (shl .i64 1 (IntKind.u64.wrap (x9))))) + (rd (rd_L1 x0 x8) x9))) = (rd (rd_L1 x5 x8) x7) then (if x6.length < 17592186044416 then (hypercuberef9_Assign.l0 k x0 x5 (x6 ++ [x9]) (Go.bits .or .i64 x7 (shl .i64 1 (IntKind.u64.wrap (x9)))) (wrap64 (x8 + 1))) else (none)) else (hypercuberef9_Assign.l1 k x0 x5 x6 x7 x8 (wrap64 (x9 + 1)))) else (none)) else (none)) else (none)) else (none)) else (none)) else (none)) else (none))) else (none)) else (none)) else (none)) else (none))) else (none)
end
def hypercuberef9_Assign.f (k : Nat) (l0 : List (List Int)) : Option (List Int × Int × Bool) := (hypercuberef9_right.f k l0).bind fun t190 => (if t190 = true then (if (l0.length : Int) = 0 then (some (([] : List Int), 0, true)) else ((hypercuberef9_ahead.f k l0).bind fun t191 => (hypercuberef9_Assign.l0 k l0 t191 ([] : List Int) 0 0))) else (some (([] : List Int), 0, false)))
theorem hypercuberef9_Assign.mono_l : ∀ k, (∀ y0 y1 y2 y3 y4, LeO (hypercuberef9_Assign.l0 k y0 y1 y2 y3 y4) (hypercuberef9_Assign.l0 (k + 1) y0 y1 y2 y3 y4)) ∧ (∀ y0 y1 y2 y3 y4 y5, LeO (hypercuberef9_Assign.l1 k y0 y1 y2 y3 y4 y5) (hypercuberef9_Assign.l1 (k + 1) y0 y1 y2 y3 y4 y5))
 | 0 => ⟨fun _ _ _ _ _ r h => by simp [hypercuberef9_Assign.l0] at h, fun _ _ _ _ _ _ r h => by simp [hypercuberef9_Assign.l1] at h⟩
 | k + 1 => by
  obtain ⟨ih0, ih1⟩ := hypercuberef9_Assign.mono_l k
  refine ⟨?_, ?_⟩
  ·intro y0 y1 y2 y3 y4
   unfold hypercuberef9_Assign.l0
   repeat' first
   | (with_reducible exact ih0 _ _ _ _ _)
   | (with_reducible exact ih1 _ _ _ _ _ _)
   | (with_reducible exact hypercuberef9_ahead.mono _ _)
   | (with_reducible exact hypercuberef9_right.mono _ _)
   | (with_reducible exact LeO.refl _)
   | (with_reducible exact LeO.none _)
   | (with_reducible refine LeO.ite ?_ ?_)
   | (with_reducible refine LeO.bind ?_ (fun _ => ?_))
   | exact ih0 _ _ _ _ _
   | exact ih1 _ _ _ _ _ _
   | exact hypercuberef9_ahead.mono _ _
   | exact hypercuberef9_right.mono _ _
   | exact LeO.none _
   | refine LeO.ite ?_ ?_
   | refine LeO.bind ?_ (fun _ => ?_)
  ·intro y0 y1 y2 y3 y4 y5
   unfold hypercuberef9_Assign.l1
   repeat' first
   | (with_reducible exact ih0 _ _ _ _ _)
   | (with_reducible exact ih1 _ _ _ _ _ _)
   | (with_reducible exact hypercuberef9_ahead.mono _ _)
   | (with_reducible exact hypercuberef9_right.mono _ _)
   | (with_reducible exact LeO.refl _)
   | (with_reducible exact LeO.none _)
   | (with_reducible refine LeO.ite ?_ ?_)
   | (with_reducible refine LeO.bind ?_ (fun _ => ?_))
   | exact ih0 _ _ _ _ _
   | exact ih1 _ _ _ _ _ _
   | exact hypercuberef9_ahead.mono _ _
   | exact hypercuberef9_right.mono _ _
   | exact LeO.none _
   | refine LeO.ite ?_ ?_
   | refine LeO.bind ?_ (fun _ => ?_)
set_option maxHeartbeats 8000000 in
set_option maxRecDepth 100000 in
theorem hypercuberef9_Assign.calls (k : Nat) (A0 : Option Addr) (c0 : Nat) (l0 : List (List Int)) (r1 : List Int) (r2 : Int) (r3 : Bool) (w : World) (hr0 : Kd.C (Kd.slice 3 (Kd.int .i64)) w A0 l0.length l0) (hc0 : l0.length ≤ c0) (h : hypercuberef9_Assign.f k l0 = some (r1, r2, r3)) :
  Calls Try.prog 16 #[.slice A0 l0.length c0] w fun e w' => ∃ v0_ : Value, e = .returned (.tuple #[v0_, .int .i64 r2, .bool r3]) ∧ Kd.R (Kd.int .i64) 3 w' w.heap.size (fun _ => True) v0_ r1 ∧ Below w.heap.size w w' := by
 have HR0 := Aside0.mk hr0
 have HC0 := Aside0.mk hc0
 clear hr0 hc0
 have HB := Aside0.mk (Below.refl w.heap.size w)
 have H : ((hypercuberef9_right.f k l0).bind fun t190 => (if t190 = true then (if (l0.length : Int) = 0 then (some (([] : List Int), 0, true)) else ((hypercuberef9_ahead.f k l0).bind fun t191 => (hypercuberef9_Assign.l0 k l0 t191 ([] : List Int) 0 0))) else (some (([] : List Int), 0, false)))) = some (r1, r2, r3) := h
 clear h
 replace H := Option.bind_eq_some_iff.mp H
 obtain ⟨t190, A20, H⟩ := H
 replace H : (if t190 = true then (if (l0.length : Int) = 0 then (some (([] : List Int), 0, true)) else ((hypercuberef9_ahead.f k l0).bind fun t191 => (hypercuberef9_Assign.l0 k l0 t191 ([] : List Int) 0 0))) else (some (([] : List Int), 0, false))) = some (r1, r2, r3) := H
 have A2 := Aside0.mk A20
 clear A20
 by_cases c3 : t190 = true
 ·subst c3
  have H1 : (if (l0.length : Int) = 0 then (some (([] : List Int), 0, true)) else ((hypercuberef9_ahead.f k l0).bind fun t191 => (hypercuberef9_Assign.l0 k l0 t191 ([] : List Int) 0 0))) = some (r1, r2, r3) := by rw [if_pos rfl] at H; exact H
  clear H
  have H := H1
  clear H1
  by_cases c4 : (l0.length : Int) = 0
  ·rw [if_pos c4] at H
   have c4b0 : ((l0.length : Int) == 0) = true := beq_iff_eq.mpr c4
   have c4b1 : ((l0.length : Int) != 0) = false := bne_eq_false_iff_eq.mpr c4
   clear c4
   simp only [Option.some.injEq, Prod.mk.injEq] at H
   obtain ⟨rfl, rfl, rfl⟩ := H
   go_enter Try.func16, Try.ntmps16
   go_wp2_with (first | (go_at_call 21; (with_reducible refine (hypercuberef9_right.calls k _ _ l0 true _ ?side1 ?side2 A2.out).mono ?_); (case side1 => repeat (first | exact HR0.out | (with_reducible refine Kd.C_alloc ?_ _) | (with_reducible refine Kd.C_drewN ?_ _) | (with_reducible refine Kd.C_drew ?_))); (case side2 => exact HC0.out); rintro e w' ⟨rfl, ⟨nd, rfl⟩⟩; (try first | exact ⟨rfl, _, World.drewN_drewN _ _ _⟩ | exact ⟨rfl, _, Eq.trans (World.drewN_drewN _ _ _) (congrArg (World.drewN _) (Nat.add_assoc _ _ _))⟩)))
   repeat (go_quiet (first | (go_at_call 21; (with_reducible refine (hypercuberef9_right.calls k _ _ l0 true _ ?side1 ?side2 A2.out).mono ?_); (case side1 => repeat (first | exact HR0.out | (with_reducible refine Kd.C_alloc ?_ _) | (with_reducible refine Kd.C_drewN ?_ _) | (with_reducible refine Kd.C_drew ?_))); (case side2 => exact HC0.out); rintro e w' ⟨rfl, ⟨nd, rfl⟩⟩; (try first | exact ⟨rfl, _, World.drewN_drewN _ _ _⟩ | exact ⟨rfl, _, Eq.trans (World.drewN_drewN _ _ _) (congrArg (World.drewN _) (Nat.add_assoc _ _ _))⟩))); try go_wp2_with (first | (go_at_call 21; (with_reducible refine (hypercuberef9_right.calls k _ _ l0 true _ ?side1 ?side2 A2.out).mono ?_); (case side1 => repeat (first | exact HR0.out | (with_reducible refine Kd.C_alloc ?_ _) | (with_reducible refine Kd.C_drewN ?_ _) | (with_reducible refine Kd.C_drew ?_))); (case side2 => exact HC0.out); rintro e w' ⟨rfl, ⟨nd, rfl⟩⟩; (try first | exact ⟨rfl, _, World.drewN_drewN _ _ _⟩ | exact ⟨rfl, _, Eq.trans (World.drewN_drewN _ _ _) (congrArg (World.drewN _) (Nat.add_assoc _ _ _))⟩))))
   go_ret3
   exact ⟨_, by first | rfl | (simp [errW_none, errW_some] <;> rfl) | (simp [*, errW_none, errW_some] <;> rfl), by first | exact Kd.R_nil _ _ _ _ _ | exact Kd.N_nil _ _ _ _ _ | exact Kd.V_nil _ _ _ _ _ | exact Kd.Q_nil _ _ _ _ _ | exact Kd.S_nil _ _ _ _ _, by repeat (first | (with_reducible first | exact HB.out | apply below_alloc | apply pw_below_drewN | apply below_drew1) | exact HB.out)⟩
  ·rw [if_neg c4] at H
   have c4b0 : ((l0.length : Int) == 0) = false := beq_eq_false_iff_ne.mpr c4
   have c4b1 : ((l0.length : Int) != 0) = true := bne_iff_ne.mpr c4
   have c4b2 : ¬ (l0 = []) := fun h_ => c4 (by rw [h_]; rfl)
   replace H := Option.bind_eq_some_iff.mp H
   obtain ⟨t191, A50, H⟩ := H
   replace H : (hypercuberef9_Assign.l0 k l0 t191 ([] : List Int) 0 0) = some (r1, r2, r3) := H
   have A5 := Aside0.mk A50
   clear A50
   have H' := Aside0.mk H
   clear H
   go_enter Try.func16, Try.ntmps16
   go_wp2_with (first | (go_at_call 21; (with_reducible refine (hypercuberef9_right.calls k _ _ l0 true _ ?side1 ?side2 A2.out).mono ?_); (case side1 => repeat (first | exact HR0.out | (with_reducible refine Kd.C_alloc ?_ _) | (with_reducible refine Kd.C_drewN ?_ _) | (with_reducible refine Kd.C_drew ?_))); (case side2 => exact HC0.out); rintro e w' ⟨rfl, ⟨nd, rfl⟩⟩; (try first | exact ⟨rfl, _, World.drewN_drewN _ _ _⟩ | exact ⟨rfl, _, Eq.trans (World.drewN_drewN _ _ _) (congrArg (World.drewN _) (Nat.add_assoc _ _ _))⟩)) | (go_at_call 22; (with_reducible refine (hypercuberef9_ahead.calls k _ _ l0 t191 _ ?side1 ?side2 A5.out).mono ?_); (case side1 => repeat (first | exact HR0.out | (with_reducible refine Kd.C_alloc ?_ _) | (with_reducible refine Kd.C_drewN ?_ _) | (with_reducible refine Kd.C_drew ?_))); (case side2 => exact HC0.out); rintro e w6 ⟨v192, rfl, ho0, hb⟩; have n0_ := Aside0.mk (Kd.S_lower ho0 (below_size (by repeat (first | (with_reducible first | exact HB.out | apply below_alloc | apply pw_below_drewN | apply below_drew1) | exact HB.out)))); have n1_ := Aside0.mk (below_step (by repeat (first | (with_reducible first | exact HB.out | apply below_alloc | apply pw_below_drewN | apply below_drew1) | exact HB.out)) hb); clear HB; have HO193 := n0_; have HB := n1_; clear n0_ n1_; (try clear hb); (try clear hb2); (try clear hk); (try clear hi); (try clear ho0)))
   repeat (go_quiet (first | (go_at_call 21; (with_reducible refine (hypercuberef9_right.calls k _ _ l0 true _ ?side1 ?side2 A2.out).mono ?_); (case side1 => repeat (first | exact HR0.out | (with_reducible refine Kd.C_alloc ?_ _) | (with_reducible refine Kd.C_drewN ?_ _) | (with_reducible refine Kd.C_drew ?_))); (case side2 => exact HC0.out); rintro e w' ⟨rfl, ⟨nd, rfl⟩⟩; (try first | exact ⟨rfl, _, World.drewN_drewN _ _ _⟩ | exact ⟨rfl, _, Eq.trans (World.drewN_drewN _ _ _) (congrArg (World.drewN _) (Nat.add_assoc _ _ _))⟩)) | (go_at_call 22; (with_reducible refine (hypercuberef9_ahead.calls k _ _ l0 t191 _ ?side1 ?side2 A5.out).mono ?_); (case side1 => repeat (first | exact HR0.out | (with_reducible refine Kd.C_alloc ?_ _) | (with_reducible refine Kd.C_drewN ?_ _) | (with_reducible refine Kd.C_drew ?_))); (case side2 => exact HC0.out); rintro e w6 ⟨v192, rfl, ho0, hb⟩; have n0_ := Aside0.mk (Kd.S_lower ho0 (below_size (by repeat (first | (with_reducible first | exact HB.out | apply below_alloc | apply pw_below_drewN | apply below_drew1) | exact HB.out)))); have n1_ := Aside0.mk (below_step (by repeat (first | (with_reducible first | exact HB.out | apply below_alloc | apply pw_below_drewN | apply below_drew1) | exact HB.out)) hb); clear HB; have HO193 := n0_; have HB := n1_; clear n0_ n1_; (try clear hb); (try clear hb2); (try clear hk); (try clear hi); (try clear ho0))); try go_wp2_with (first | (go_at_call 21; (with_reducible refine (hypercuberef9_right.calls k _ _ l0 true _ ?side1 ?side2 A2.out).mono ?_); (case side1 => repeat (first | exact HR0.out | (with_reducible refine Kd.C_alloc ?_ _) | (with_reducible refine Kd.C_drewN ?_ _) | (with_reducible refine Kd.C_drew ?_))); (case side2 => exact HC0.out); rintro e w' ⟨rfl, ⟨nd, rfl⟩⟩; (try first | exact ⟨rfl, _, World.drewN_drewN _ _ _⟩ | exact ⟨rfl, _, Eq.trans (World.drewN_drewN _ _ _) (congrArg (World.drewN _) (Nat.add_assoc _ _ _))⟩)) | (go_at_call 22; (with_reducible refine (hypercuberef9_ahead.calls k _ _ l0 t191 _ ?side1 ?side2 A5.out).mono ?_); (case side1 => repeat (first | exact HR0.out | (with_reducible refine Kd.C_alloc ?_ _) | (with_reducible refine Kd.C_drewN ?_ _) | (with_reducible refine Kd.C_drew ?_))); (case side2 => exact HC0.out); rintro e w6 ⟨v192, rfl, ho0, hb⟩; have n0_ := Aside0.mk (Kd.S_lower ho0 (below_size (by repeat (first | (with_reducible first | exact HB.out | apply below_alloc | apply pw_below_drewN | apply below_drew1) | exact HB.out)))); have n1_ := Aside0.mk (below_step (by repeat (first | (with_reducible first | exact HB.out | apply below_alloc | apply pw_below_drewN | apply below_drew1) | exact HB.out)) hb); clear HB; have HO193 := n0_; have HB := n1_; clear n0_ n1_; (try clear hb); (try clear hb2); (try clear hk); (try clear hi); (try clear ho0))))
   go_loopg [6, 7, 8] k (fun kq v6 v7 v8 w' => ∃ (x6_1 : List Int) (x7_1 : Int) (x8_1 : Int), v7 = .int .i64 x7_1 ∧ v8 = .int .i64 x8_1 ∧ Aside0 (hypercuberef9_Assign.l0 kq l0 t191 x6_1 x7_1 x8_1 = some (r1, r2, r3)) ∧ Aside0 (kq ≤ k) ∧ Aside0 (Kd.S (Kd.slice 3 (Kd.int .i64)) 22 w' w.heap.size (fun k_ => some k_ ≠ (v6 : Value).ownBlock) v192 t191) ∧ Aside0 (Kd.R (Kd.int .i64) 3 w' w.heap.size (fun _ => True) v6 x6_1) ∧ Aside0 (Below w.heap.size w w'))
   case atStart => exact ⟨(([] : List Int)), (0), (0), (by first | rfl | (simp; done) | (simp [*]; done)), (by first | rfl | (simp; done) | (simp [*]; done)), H', ⟨Nat.le_refl _⟩, ⟨by (with_reducible repeat (first | apply Kd.S_alloc | apply Kd.S_drewN | apply Kd.S_drew)); exact Kd.S_mono HO193.out (fun _ hk => (by simp [Value.ownBlock]))⟩, ⟨by first | exact Kd.R_nil _ _ _ _ _ | exact Kd.N_nil _ _ _ _ _ | exact Kd.V_nil _ _ _ _ _ | exact Kd.Q_nil _ _ _ _ _ | exact Kd.S_nil _ _ _ _ _⟩, ⟨by repeat (first | (with_reducible first | exact HB.out | apply below_alloc | apply pw_below_drewN | apply below_drew1) | exact HB.out)⟩⟩
   case round =>
    clear H'
    try clear c1
    try clear p2
    try clear c3
    try clear c4
    try clear c4b0
    try clear c4b1
    try clear c4b2
    obtain ⟨x6_1, x7_1, x8_1, rfl, rfl, HA, HK1, HO_5, HO_6, HB⟩ := hrel
    cases gk with
    | zero => exact absurd HA.out (by simp [hypercuberef9_Assign.l0])
    | succ k1 =>
     have H := HA.out
     clear HA
     simp only [hypercuberef9_Assign.l0] at H
     by_cases c7 : x8_1 < (l0.length : Int)
     ·rw [if_pos c7] at H
      have c7b0 : decide (x8_1 < (l0.length : Int)) = true := decide_eq_true c7
      clear c7
      have H' := Aside0.mk H
      clear H
      go_wp2
      repeat (go_quiet (fail); try go_wp2)
      go_loopg [9] k1 (fun kq v9 w' => ∃ (x9_2 : Int), v9 = .int .i64 x9_2 ∧ Aside0 (hypercuberef9_Assign.l1 kq l0 t191 x6_1 x7_1 x8_1 x9_2 = some (r1, r2, r3)) ∧ Aside0 (kq ≤ k1) ∧ Aside0 (Kd.S (Kd.slice 3 (Kd.int .i64)) 22 w' w.heap.size (fun k_ => some k_ ≠ (u6 : Value).ownBlock) v192 t191) ∧ Aside0 (Kd.R (Kd.int .i64) 3 w' w.heap.size (fun _ => True) u6 x6_1) ∧ Aside0 (Below w.heap.size w w'))
      case atStart => exact ⟨(0), (by first | rfl | (simp; done) | (simp [*]; done)), H', ⟨Nat.le_refl _⟩, ⟨by (with_reducible repeat (first | apply Kd.S_alloc | apply Kd.S_drewN | apply Kd.S_drew)); exact HO_5.out⟩, ⟨by (with_reducible repeat (first | apply Kd.R_alloc | apply Kd.R_drewN | apply Kd.R_drew)); exact HO_6.out⟩, ⟨by repeat (first | (with_reducible first | exact HB.out | apply below_alloc | apply pw_below_drewN | apply below_drew1) | exact HB.out)⟩⟩
      case round =>
       clear H'
       try clear c1
       try clear p2
       try clear c3
       try clear c4
       try clear c4b0
       try clear c4b1
       try clear c4b2
       try clear c7
       try clear c7b0
       try clear p2
       obtain ⟨x9_2, rfl, HA, HK2, HO_5, HO_6, HB⟩ := hrel
       cases gk with
       | zero => exact absurd HA.out (by simp [hypercuberef9_Assign.l1])
       | succ k2 =>
        have H := HA.out
        clear HA
        simp only [hypercuberef9_Assign.l1] at H
        obtain ⟨ji8, hji8⟩ : ∃ j_ : Int, (IntKind.u64.wrap (x9_2)) = j_ := ⟨_, rfl⟩
        replace H : (if 0 ≤ (ji8) then (if (Go.bits .and .i64 (shr .i64 x7_1 (ji8)) 1) = 1 then (hypercuberef9_Assign.l1 k2 l0 t191 x6_1 x7_1 x8_1 (wrap64 (x9_2 + 1))) else (if 0 ≤ (wrap64 (x8_1 + 1)) then (if (wrap64 (x8_1 + 1)) < (t191.length : Int) then (if 0 ≤ (Go.bits .or .i64 x7_1 (shl .i64 1 (ji8))) then (if (Go.bits .or .i64 x7_1 (shl .i64 1 (ji8))) < ((rd_L1 t191 (wrap64 (x8_1 + 1))).length : Int) then (if (rd (rd_L1 t191 (wrap64 (x8_1 + 1))) (Go.bits .or .i64 x7_1 (shl .i64 1 (ji8)))) < 0 then (hypercuberef9_Assign.l1 k2 l0 t191 x6_1 x7_1 x8_1 (wrap64 (x9_2 + 1))) else (if 0 ≤ x8_1 then (if x8_1 < (l0.length : Int) then (if 0 ≤ x9_2 then (if x9_2 < ((rd_L1 l0 x8_1).length : Int) then (if x8_1 < (t191.length : Int) then (if 0 ≤ x7_1 then (if x7_1 < ((rd_L1 t191 x8_1).length : Int) then (if (wrap64 ((rd (rd_L1 t191 (wrap64 (x8_1 + 1))) (Go.bits .or .i64 x7_1 (shl .i64 1 (ji8)))) + (rd (rd_L1 l0 x8_1) x9_2))) = (rd (rd_L1 t191 x8_1) x7_1) then (if x6_1.length < 17592186044416 then (hypercuberef9_Assign.l0 k2 l0 t191 (x6_1 ++ [x9_2]) (Go.bits .or .i64 x7_1 (shl .i64 1 (ji8))) (wrap64 (x8_1 + 1))) else (none)) else (hypercuberef9_Assign.l1 k2 l0 t191 x6_1 x7_1 x8_1 (wrap64 (x9_2 + 1)))) else (none)) else (none)) else (none)) else (none)) else (none)) else (none)) else (none))) else (none)) else (none)) else (none)) else (none))) else (none)) = some (r1, r2, r3) := by first | (rw [hji8] at H; exact H) | (simp only [hji8] at H ⊢; exact H)
        by_cases c9 : 0 ≤ (ji8)
        ·rw [if_pos c9] at H
         have c9b0 := eq_true c9
         have c9b1 : decide (0 ≤ (ji8)) = true := decide_eq_true c9
         clear c9
         obtain ⟨ji10, hji10⟩ : ∃ j_ : Int, (shr .i64 x7_1 (ji8)) = j_ := ⟨_, rfl⟩
         replace H : (if (Go.bits .and .i64 (ji10) 1) = 1 then (hypercuberef9_Assign.l1 k2 l0 t191 x6_1 x7_1 x8_1 (wrap64 (x9_2 + 1))) else (if 0 ≤ (wrap64 (x8_1 + 1)) then (if (wrap64 (x8_1 + 1)) < (t191.length : Int) then (if 0 ≤ (Go.bits .or .i64 x7_1 (shl .i64 1 (ji8))) then (if (Go.bits .or .i64 x7_1 (shl .i64 1 (ji8))) < ((rd_L1 t191 (wrap64 (x8_1 + 1))).length : Int) then (if (rd (rd_L1 t191 (wrap64 (x8_1 + 1))) (Go.bits .or .i64 x7_1 (shl .i64 1 (ji8)))) < 0 then (hypercuberef9_Assign.l1 k2 l0 t191 x6_1 x7_1 x8_1 (wrap64 (x9_2 + 1))) else (if 0 ≤ x8_1 then (if x8_1 < (l0.length : Int) then (if 0 ≤ x9_2 then (if x9_2 < ((rd_L1 l0 x8_1).length : Int) then (if x8_1 < (t191.length : Int) then (if 0 ≤ x7_1 then (if x7_1 < ((rd_L1 t191 x8_1).length : Int) then (if (wrap64 ((rd (rd_L1 t191 (wrap64 (x8_1 + 1))) (Go.bits .or .i64 x7_1 (shl .i64 1 (ji8)))) + (rd (rd_L1 l0 x8_1) x9_2))) = (rd (rd_L1 t191 x8_1) x7_1) then (if x6_1.length < 17592186044416 then (hypercuberef9_Assign.l0 k2 l0 t191 (x6_1 ++ [x9_2]) (Go.bits .or .i64 x7_1 (shl .i64 1 (ji8))) (wrap64 (x8_1 + 1))) else (none)) else (hypercuberef9_Assign.l1 k2 l0 t191 x6_1 x7_1 x8_1 (wrap64 (x9_2 + 1)))) else (none)) else (none)) else (none)) else (none)) else (none)) else (none)) else (none))) else (none)) else (none)) else (none)) else (none))) = some (r1, r2, r3) := by first | (rw [hji10] at H; exact H) | (simp only [hji10] at H ⊢; exact H)
         have hji10_ : (x7_1 / 2 ^ min (ji8).toNat 64) = ji10 := hji10
         have hji10z : (ji8) ≤ 64 → (x7_1 / 2 ^ (ji8).toNat) = ji10 := shr_small hji10
         by_cases c11 : (Go.bits .and .i64 (ji10) 1) = 1
         ·rw [if_pos c11] at H
          have c11b0 : ((Go.bits .and .i64 (ji10) 1) == 1) = true := beq_iff_eq.mpr c11
          have c11b1 : ((Go.bits .and .i64 (ji10) 1) != 1) = false := bne_eq_false_iff_eq.mpr c11
          clear c11
          have H' := Aside0.mk H
          clear H
          go_wp2
          repeat (go_quiet (fail); try go_wp2)
          go_roundg k2
          case measure => have := HK1.out; have := HK2.out; omega
          case rel => exact ⟨(wrap64 (x9_2 + 1)), (by first | rfl | (simp; done) | (simp [*]; done)), H', ⟨by have := HK1.out; have := HK2.out; omega⟩, ⟨by (with_reducible repeat (first | apply Kd.S_alloc | apply Kd.S_drewN | apply Kd.S_drew)); exact HO_5.out⟩, ⟨by (with_reducible repeat (first | apply Kd.R_alloc | apply Kd.R_drewN | apply Kd.R_drew)); exact HO_6.out⟩, ⟨by repeat (first | (with_reducible first | exact HB.out | apply below_alloc | apply pw_below_drewN | apply below_drew1) | exact HB.out)⟩⟩
         ·rw [if_neg c11] at H
          have c11b0 : ((Go.bits .and .i64 (ji10) 1) == 1) = false := beq_eq_false_iff_ne.mpr c11
          have c11b1 : ((Go.bits .and .i64 (ji10) 1) != 1) = true := bne_iff_ne.mpr c11
          obtain ⟨ji12, hji12⟩ : ∃ j_ : Int, (wrap64 (x8_1 + 1)) = j_ := ⟨_, rfl⟩
          replace H : (if 0 ≤ (ji12) then (if (ji12) < (t191.length : Int) then (if 0 ≤ (Go.bits .or .i64 x7_1 (shl .i64 1 (ji8))) then (if (Go.bits .or .i64 x7_1 (shl .i64 1 (ji8))) < ((rd_L1 t191 (ji12)).length : Int) then (if (rd (rd_L1 t191 (ji12)) (Go.bits .or .i64 x7_1 (shl .i64 1 (ji8)))) < 0 then (hypercuberef9_Assign.l1 k2 l0 t191 x6_1 x7_1 x8_1 (wrap64 (x9_2 + 1))) else (if 0 ≤ x8_1 then (if x8_1 < (l0.length : Int) then (if 0 ≤ x9_2 then (if x9_2 < ((rd_L1 l0 x8_1).length : Int) then (if x8_1 < (t191.length : Int) then (if 0 ≤ x7_1 then (if x7_1 < ((rd_L1 t191 x8_1).length : Int) then (if (wrap64 ((rd (rd_L1 t191 (ji12)) (Go.bits .or .i64 x7_1 (shl .i64 1 (ji8)))) + (rd (rd_L1 l0 x8_1) x9_2))) = (rd (rd_L1 t191 x8_1) x7_1) then (if x6_1.length < 17592186044416 then (hypercuberef9_Assign.l0 k2 l0 t191 (x6_1 ++ [x9_2]) (Go.bits .or .i64 x7_1 (shl .i64 1 (ji8))) ji12) else (none)) else (hypercuberef9_Assign.l1 k2 l0 t191 x6_1 x7_1 x8_1 (wrap64 (x9_2 + 1)))) else (none)) else (none)) else (none)) else (none)) else (none)) else (none)) else (none))) else (none)) else (none)) else (none)) else (none)) = some (r1, r2, r3) := by first | (rw [hji12] at H; exact H) | (simp only [hji12] at H ⊢; exact H)
          have hji12w : (IntKind.i64.wrap (x8_1 + 1)) = ji12 := (i64_w _).trans hji12
          by_cases c13 : 0 ≤ (ji12)
          ·rw [if_pos c13] at H
           have c13b0 : decide (0 ≤ (ji12)) = true := decide_eq_true c13
           clear c13
           by_cases c14 : (ji12) < (t191.length : Int)
           ·rw [if_pos c14] at H
            have c14b0 : decide ((ji12) < (t191.length : Int)) = true := decide_eq_true c14
            clear c14
            have c15b0 := eq_true (of_decide_eq_true (by first | (with_reducible assumption) | assumption) : 0 ≤ (ji8))
            obtain ⟨ji16, hji16⟩ : ∃ j_ : Int, (shl .i64 1 (ji8)) = j_ := ⟨_, rfl⟩
            replace H : (if 0 ≤ (Go.bits .or .i64 x7_1 (ji16)) then (if (Go.bits .or .i64 x7_1 (ji16)) < ((rd_L1 t191 (ji12)).length : Int) then (if (rd (rd_L1 t191 (ji12)) (Go.bits .or .i64 x7_1 (ji16))) < 0 then (hypercuberef9_Assign.l1 k2 l0 t191 x6_1 x7_1 x8_1 (wrap64 (x9_2 + 1))) else (if 0 ≤ x8_1 then (if x8_1 < (l0.length : Int) then (if 0 ≤ x9_2 then (if x9_2 < ((rd_L1 l0 x8_1).length : Int) then (if x8_1 < (t191.length : Int) then (if 0 ≤ x7_1 then (if x7_1 < ((rd_L1 t191 x8_1).length : Int) then (if (wrap64 ((rd (rd_L1 t191 (ji12)) (Go.bits .or .i64 x7_1 (ji16))) + (rd (rd_L1 l0 x8_1) x9_2))) = (rd (rd_L1 t191 x8_1) x7_1) then (if x6_1.length < 17592186044416 then (hypercuberef9_Assign.l0 k2 l0 t191 (x6_1 ++ [x9_2]) (Go.bits .or .i64 x7_1 (ji16)) ji12) else (none)) else (hypercuberef9_Assign.l1 k2 l0 t191 x6_1 x7_1 x8_1 (wrap64 (x9_2 + 1)))) else (none)) else (none)) else (none)) else (none)) else (none)) else (none)) else (none))) else (none)) else (none)) = some (r1, r2, r3) := by first | (rw [hji16] at H; exact H) | (simp only [hji16] at H ⊢; exact H)
            have hji16_ : (IntKind.i64.wrap (1 * 2 ^ min (ji8).toNat 64)) = ji16 := hji16
            have hji16z : (ji8) ≤ 64 → (IntKind.i64.wrap (1 * 2 ^ (ji8).toNat)) = ji16 := shl_small hji16
            have hji16u : (IntKind.i64.wrap (2 ^ min (ji8).toNat 64)) = ji16 := by have h_ := hji16_; rw [Int.one_mul] at h_; exact h_
            have hji16v : (ji8) ≤ 64 → (IntKind.i64.wrap (2 ^ (ji8).toNat)) = ji16 := fun hle_ => by have h_ := hji16z hle_; rw [Int.one_mul] at h_; exact h_
            have hji16y : (wrap64 (1 * 2 ^ min (ji8).toNat 64)) = ji16 := (i64_w _).symm.trans hji16_
            have hji16x : (ji8) ≤ 64 → (wrap64 (1 * 2 ^ (ji8).toNat)) = ji16 := fun h_ => (i64_w _).symm.trans (hji16z h_)
            by_cases c17 : 0 ≤ (Go.bits .or .i64 x7_1 (ji16))
            ·rw [if_pos c17] at H
             have c17b0 : decide (0 ≤ (Go.bits .or .i64 x7_1 (ji16))) = true := decide_eq_true c17
             clear c17
             by_cases c18 : (Go.bits .or .i64 x7_1 (ji16)) < ((rd_L1 t191 (ji12)).length : Int)
             ·rw [if_pos c18] at H
              have c18b0 : decide ((Go.bits .or .i64 x7_1 (ji16)) < ((rd_L1 t191 (ji12)).length : Int)) = true := decide_eq_true c18
              clear c18
              by_cases c19 : (rd (rd_L1 t191 (ji12)) (Go.bits .or .i64 x7_1 (ji16))) < 0
              ·rw [if_pos c19] at H
               have c19b0 : decide ((rd (rd_L1 t191 (ji12)) (Go.bits .or .i64 x7_1 (ji16))) < 0) = true := decide_eq_true c19
               clear c19
               have H' := Aside0.mk H
               clear H
               obtain ⟨Ao20, co20, eo20⟩ := Kd.S_slice HO_5.out
               subst eo20
               have p196 : 0 ≤ ((ji12) : Int) := of_decide_eq_true (by first | (with_reducible assumption) | assumption)
               have q196 : (ji12) < (t191.length : Int) := of_decide_eq_true (by first | (with_reducible assumption) | assumption)
               obtain ⟨ad196, A196_0, c196_0, e196, hx196_0, hl196_0, hi196_0⟩ := at_L1 (Kd.S_reads' HO_5.out).2.2 (ji12) p196 q196
               cases e196
               obtain ⟨ce196, hce196, hMe196, hcc196⟩ := Kd.S_get HO_5.out [] (ji12) p196 (by first | exact q196 | exact of_decide_eq_true (by first | (with_reducible assumption) | assumption) | (have e_ := (Kd.S_reads' HO_5.out).1; omega))
               obtain ⟨ve196_0, rfl, ge196_0⟩ := hMe196
               have hv196_0 := hcc196 0 _ rfl
               rw [Nat.add_zero, show ((Kd.slice 3 (Kd.int .i64))).sz = 1 from rfl, Nat.mul_one] at hv196_0
               replace hv196_0 := Option.some.inj (hv196_0.symm.trans hx196_0)
               rw [hv196_0] at ge196_0
               have HL196_0 := Aside0.mk (show Kd.R (Kd.int .i64) 3 _ _ _ _ (rd_L1 t191 (ji12)) from ge196_0)
               clear hv196_0 ge196_0
               clear hcc196 hce196
               have HR196_0 := Aside0.mk hi196_0
               have HC196_0 := Aside0.mk hl196_0
               clear hi196_0 hl196_0
               replace p196 := eq_true p196
               replace q196 := eq_true q196
               have p197 : 0 ≤ ((Go.bits .or .i64 x7_1 (ji16)) : Int) := of_decide_eq_true (by first | (with_reducible assumption) | assumption)
               have q197 : (Go.bits .or .i64 x7_1 (ji16)) < ((rd_L1 t191 (ji12)).length : Int) := of_decide_eq_true (by first | (with_reducible assumption) | assumption)
               obtain ⟨ad197, e197, hx197_0⟩ := Kd.at_int (by repeat (first | (with_reducible exact HR196_0.out) | (with_reducible refine Kd.C_alloc ?_ _) | (with_reducible refine Kd.C_drewN ?_ _) | (with_reducible refine Kd.C_drew ?_) | exact HR196_0.out)) (Go.bits .or .i64 x7_1 (ji16)) p197 q197
               cases e197
               replace p197 := eq_true p197
               replace q197 := eq_true q197
               go_wp2
               repeat (go_quiet (fail); try go_wp2)
               go_roundg k2
               case measure => have := HK1.out; have := HK2.out; omega
               case rel => exact ⟨(wrap64 (x9_2 + 1)), (by first | rfl | (simp; done) | (simp [*]; done)), H', ⟨by have := HK1.out; have := HK2.out; omega⟩, ⟨by (with_reducible repeat (first | apply Kd.S_alloc | apply Kd.S_drewN | apply Kd.S_drew)); exact HO_5.out⟩, ⟨by (with_reducible repeat (first | apply Kd.R_alloc | apply Kd.R_drewN | apply Kd.R_drew)); exact HO_6.out⟩, ⟨by repeat (first | (with_reducible first | exact HB.out | apply below_alloc | apply pw_below_drewN | apply below_drew1) | exact HB.out)⟩⟩
              ·rw [if_neg c19] at H
               have c19b0 : decide ((rd (rd_L1 t191 (ji12)) (Go.bits .or .i64 x7_1 (ji16))) < 0) = false := decide_eq_false c19
               clear c19
               have c21b0 := eq_true (of_decide_eq_true (by first | (with_reducible assumption) | assumption) : 0 ≤ (ji8))
               by_cases c23 : 0 ≤ x8_1
               ·rw [if_pos c23] at H
                have c23b0 : decide (0 ≤ x8_1) = true := decide_eq_true c23
                clear c23
                by_cases c24 : x8_1 < (l0.length : Int)
                ·rw [if_pos c24] at H
                 have c24b0 : decide (x8_1 < (l0.length : Int)) = true := decide_eq_true c24
                 clear c24
                 by_cases c25 : 0 ≤ x9_2
                 ·rw [if_pos c25] at H
                  have c25b0 : decide (0 ≤ x9_2) = true := decide_eq_true c25
                  clear c25
                  by_cases c26 : x9_2 < ((rd_L1 l0 x8_1).length : Int)
                  ·rw [if_pos c26] at H
                   have c26b0 : decide (x9_2 < ((rd_L1 l0 x8_1).length : Int)) = true := decide_eq_true c26
                   clear c26
                   by_cases c27 : x8_1 < (t191.length : Int)
                   ·rw [if_pos c27] at H
                    have c27b0 : decide (x8_1 < (t191.length : Int)) = true := decide_eq_true c27
                    clear c27
                    by_cases c28 : 0 ≤ x7_1
                    ·rw [if_pos c28] at H
                     have c28b0 : decide (0 ≤ x7_1) = true := decide_eq_true c28
                     clear c28
                     by_cases c29 : x7_1 < ((rd_L1 t191 x8_1).length : Int)
                     ·rw [if_pos c29] at H
                      have c29b0 : decide (x7_1 < ((rd_L1 t191 x8_1).length : Int)) = true := decide_eq_true c29
                      clear c29
                      by_cases c30 : (wrap64 ((rd (rd_L1 t191 (ji12)) (Go.bits .or .i64 x7_1 (ji16))) + (rd (rd_L1 l0 x8_1) x9_2))) = (rd (rd_L1 t191 x8_1) x7_1)
                      ·rw [if_pos c30] at H
                       have c30b0 : ((wrap64 ((rd (rd_L1 t191 (ji12)) (Go.bits .or .i64 x7_1 (ji16))) + (rd (rd_L1 l0 x8_1) x9_2))) == (rd (rd_L1 t191 x8_1) x7_1)) = true := beq_iff_eq.mpr c30
                       have c30b1 : ((wrap64 ((rd (rd_L1 t191 (ji12)) (Go.bits .or .i64 x7_1 (ji16))) + (rd (rd_L1 l0 x8_1) x9_2))) != (rd (rd_L1 t191 x8_1) x7_1)) = false := bne_eq_false_iff_eq.mpr c30
                       clear c30
                       by_cases c31 : x6_1.length < 17592186044416
                       ·rw [if_pos c31] at H
                        have LMc31 := Aside0.mk c31
                        clear c31
                        obtain ⟨y204, hy204⟩ : ∃ y_ : List Int, y_ = (x6_1 ++ [x9_2]) := ⟨_, rfl⟩
                        replace H : (hypercuberef9_Assign.l0 k2 l0 t191 y204 (Go.bits .or .i64 x7_1 (ji16)) ji12) = some (r1, r2, r3) := by first | (rw [hy204]; with_reducible exact H) | (have H2_ := (Option.bind_some _ _).symm.trans H; rw [hy204]; with_reducible exact H2_) | (have H2_ := (Option.bind_some _ _).symm.trans H; with_reducible exact H2_) | with_reducible exact H | (rw [hy204]; exact H) | exact H
                        have Ny204 := Aside0.mk hy204
                        clear hy204
                        have c32b0 := eq_true (of_decide_eq_true (by first | (with_reducible assumption) | assumption) : 0 ≤ (ji8))
                        have H' := Aside0.mk H
                        clear H
                        obtain ⟨Ao34, co34, eo34⟩ := Kd.S_slice HO_5.out
                        subst eo34
                        have p196 : 0 ≤ ((ji12) : Int) := of_decide_eq_true (by first | (with_reducible assumption) | assumption)
                        have q196 : (ji12) < (t191.length : Int) := of_decide_eq_true (by first | (with_reducible assumption) | assumption)
                        obtain ⟨ad196, A196_0, c196_0, e196, hx196_0, hl196_0, hi196_0⟩ := at_L1 (Kd.S_reads' HO_5.out).2.2 (ji12) p196 q196
                        cases e196
                        obtain ⟨ce196, hce196, hMe196, hcc196⟩ := Kd.S_get HO_5.out [] (ji12) p196 (by first | exact q196 | exact of_decide_eq_true (by first | (with_reducible assumption) | assumption) | (have e_ := (Kd.S_reads' HO_5.out).1; omega))
                        obtain ⟨ve196_0, rfl, ge196_0⟩ := hMe196
                        have hv196_0 := hcc196 0 _ rfl
                        rw [Nat.add_zero, show ((Kd.slice 3 (Kd.int .i64))).sz = 1 from rfl, Nat.mul_one] at hv196_0
                        replace hv196_0 := Option.some.inj (hv196_0.symm.trans hx196_0)
                        rw [hv196_0] at ge196_0
                        have HL196_0 := Aside0.mk (show Kd.R (Kd.int .i64) 3 _ _ _ _ (rd_L1 t191 (ji12)) from ge196_0)
                        clear hv196_0 ge196_0
                        clear hcc196 hce196
                        have HR196_0 := Aside0.mk hi196_0
                        have HC196_0 := Aside0.mk hl196_0
                        clear hi196_0 hl196_0
                        replace p196 := eq_true p196
                        replace q196 := eq_true q196
                        have p197 : 0 ≤ ((Go.bits .or .i64 x7_1 (ji16)) : Int) := of_decide_eq_true (by first | (with_reducible assumption) | assumption)
                        have q197 : (Go.bits .or .i64 x7_1 (ji16)) < ((rd_L1 t191 (ji12)).length : Int) := of_decide_eq_true (by first | (with_reducible assumption) | assumption)
                        obtain ⟨ad197, e197, hx197_0⟩ := Kd.at_int (by repeat (first | (with_reducible exact HR196_0.out) | (with_reducible refine Kd.C_alloc ?_ _) | (with_reducible refine Kd.C_drewN ?_ _) | (with_reducible refine Kd.C_drew ?_) | exact HR196_0.out)) (Go.bits .or .i64 x7_1 (ji16)) p197 q197
                        cases e197
                        replace p197 := eq_true p197
                        replace q197 := eq_true q197
                        have p198 : 0 ≤ ((ji12) : Int) := of_decide_eq_true (by first | (with_reducible assumption) | assumption)
                        have q198 : (ji12) < (t191.length : Int) := of_decide_eq_true (by first | (with_reducible assumption) | assumption)
                        obtain ⟨ad198, A198_0, c198_0, e198, hx198_0, hl198_0, hi198_0⟩ := at_L1 (Kd.S_reads' HO_5.out).2.2 (ji12) p198 q198
                        obtain rfl : ad196 = ad198 := (by injection e198)
                        obtain ⟨ce198, hce198, hMe198, hcc198⟩ := Kd.S_get HO_5.out [] (ji12) p198 (by first | exact q198 | exact of_decide_eq_true (by first | (with_reducible assumption) | assumption) | (have e_ := (Kd.S_reads' HO_5.out).1; omega))
                        obtain ⟨ve198_0, rfl, ge198_0⟩ := hMe198
                        have hv198_0 := hcc198 0 _ rfl
                        rw [Nat.add_zero, show ((Kd.slice 3 (Kd.int .i64))).sz = 1 from rfl, Nat.mul_one] at hv198_0
                        replace hv198_0 := Option.some.inj (hv198_0.symm.trans hx198_0)
                        rw [hv198_0] at ge198_0
                        have HL198_0 := Aside0.mk (show Kd.R (Kd.int .i64) 3 _ _ _ _ (rd_L1 t191 (ji12)) from ge198_0)
                        clear hv198_0 ge198_0
                        clear hcc198 hce198
                        have HR198_0 := Aside0.mk hi198_0
                        have HC198_0 := Aside0.mk hl198_0
                        clear hi198_0 hl198_0
                        replace p198 := eq_true p198
                        replace q198 := eq_true q198
                        have ea_ := Option.some.inj (hx196_0.symm.trans hx198_0)
                        injection ea_ with ea_ en_ ec_
                        subst ea_
                        subst ec_
                        clear en_
                        have p199 : 0 ≤ ((Go.bits .or .i64 x7_1 (ji16)) : Int) := of_decide_eq_true (by first | (with_reducible assumption) | assumption)
                        have q199 : (Go.bits .or .i64 x7_1 (ji16)) < ((rd_L1 t191 (ji12)).length : Int) := of_decide_eq_true (by first | (with_reducible assumption) | assumption)
                        obtain ⟨ad199, e199, hx199_0⟩ := Kd.at_int (by repeat (first | (with_reducible exact HR198_0.out) | (with_reducible refine Kd.C_alloc ?_ _) | (with_reducible refine Kd.C_drewN ?_ _) | (with_reducible refine Kd.C_drew ?_) | exact HR198_0.out)) (Go.bits .or .i64 x7_1 (ji16)) p199 q199
                        cases e199
                        replace p199 := eq_true p199
                        replace q199 := eq_true q199
                        have p200 : 0 ≤ (x8_1 : Int) := of_decide_eq_true (by first | (with_reducible assumption) | assumption)
                        have q200 : x8_1 < (l0.length : Int) := of_decide_eq_true (by first | (with_reducible assumption) | assumption)
                        obtain ⟨ad200, A200_0, c200_0, e200, hx200_0, hl200_0, hi200_0⟩ := at_L1 HR0.out x8_1 p200 q200
                        cases e200
                        replace hx200_0 := (HB.out.cell (World.block_lt_of_cell? w _ hx200_0)).trans hx200_0
                        have HR200_0 := Aside0.mk hi200_0
                        have HC200_0 := Aside0.mk hl200_0
                        clear hi200_0 hl200_0
                        replace p200 := eq_true p200
                        replace q200 := eq_true q200
                        have p201 : 0 ≤ (x9_2 : Int) := of_decide_eq_true (by first | (with_reducible assumption) | assumption)
                        have q201 : x9_2 < ((rd_L1 l0 x8_1).length : Int) := of_decide_eq_true (by first | (with_reducible assumption) | assumption)
                        obtain ⟨ad201, e201, hx201_0⟩ := Kd.at_int HR200_0.out x9_2 p201 q201
                        cases e201
                        replace hx201_0 := (HB.out.cell (World.block_lt_of_cell? w _ hx201_0)).trans hx201_0
                        replace p201 := eq_true p201
                        replace q201 := eq_true q201
                        have p202 : 0 ≤ (x8_1 : Int) := of_decide_eq_true (by first | (with_reducible assumption) | assumption)
                        have q202 : x8_1 < (t191.length : Int) := of_decide_eq_true (by first | (with_reducible assumption) | assumption)
                        obtain ⟨ad202, A202_0, c202_0, e202, hx202_0, hl202_0, hi202_0⟩ := at_L1 (Kd.S_reads' HO_5.out).2.2 x8_1 p202 q202
                        obtain rfl : ad196 = ad202 := (by injection e202)
                        obtain ⟨ce202, hce202, hMe202, hcc202⟩ := Kd.S_get HO_5.out [] x8_1 p202 (by first | exact q202 | exact of_decide_eq_true (by first | (with_reducible assumption) | assumption) | (have e_ := (Kd.S_reads' HO_5.out).1; omega))
                        obtain ⟨ve202_0, rfl, ge202_0⟩ := hMe202
                        have hv202_0 := hcc202 0 _ rfl
                        rw [Nat.add_zero, show ((Kd.slice 3 (Kd.int .i64))).sz = 1 from rfl, Nat.mul_one] at hv202_0
                        replace hv202_0 := Option.some.inj (hv202_0.symm.trans hx202_0)
                        rw [hv202_0] at ge202_0
                        have HL202_0 := Aside0.mk (show Kd.R (Kd.int .i64) 3 _ _ _ _ (rd_L1 t191 x8_1) from ge202_0)
                        clear hv202_0 ge202_0
                        clear hcc202 hce202
                        have HR202_0 := Aside0.mk hi202_0
                        have HC202_0 := Aside0.mk hl202_0
                        clear hi202_0 hl202_0
                        replace p202 := eq_true p202
                        replace q202 := eq_true q202
                        have p203 : 0 ≤ (x7_1 : Int) := of_decide_eq_true (by first | (with_reducible assumption) | assumption)
                        have q203 : x7_1 < ((rd_L1 t191 x8_1).length : Int) := of_decide_eq_true (by first | (with_reducible assumption) | assumption)
                        obtain ⟨ad203, e203, hx203_0⟩ := Kd.at_int (by repeat (first | (with_reducible exact HR202_0.out) | (with_reducible refine Kd.C_alloc ?_ _) | (with_reducible refine Kd.C_drewN ?_ _) | (with_reducible refine Kd.C_drew ?_) | exact HR202_0.out)) x7_1 p203 q203
                        cases e203
                        replace p203 := eq_true p203
                        replace q203 := eq_true q203
                        go_wp2_with (first | ((with_reducible refine gate_builtin (b := .append) (xs := #[.tmp 77, .tmp 79]) rfl ?_); at_builtin; refine Kd.R_append (Kd.int .i64) (w0 := w) w.heap.size rfl (.tmp 77) (.tmp 79) 22 3 (.int .i64 0) 8 rfl Try.underlying22 info3 rfl (by decide) (by omega) u6 x6_1 x9_2 [.int .i64 x9_2] (fun _ => True) (fun _ => False) rfl rfl ?aP (fun _ hk => hk.elim) ?aF ?aO ?aB ?aS ?aL ?_; (case aP => exact rfl); (case aB => exact (by repeat (first | (with_reducible first | exact HB.out | apply below_alloc | apply pw_below_drewN | apply below_drew1) | exact HB.out))); (case aF => exact (fun _ _ => trivial)); (case aO => exact (by (with_reducible repeat (first | apply Kd.R_alloc | apply Kd.R_drewN | apply Kd.R_drew)); exact HO_6.out)); (case aS => exact (below_size (by repeat (first | (with_reducible first | exact HB.out | apply below_alloc | apply pw_below_drewN | apply below_drew1) | exact HB.out)))); (case aL => have := LMc31.out; omega); intro v205 w35 ho hb hg hat; rw [← Ny204.out] at ho; have n0_ := Aside0.mk (Kd.S_after (ok := (fun _ => True)) (by (with_reducible repeat (first | apply Kd.S_alloc | apply Kd.S_drewN | apply Kd.S_drew)); exact Kd.S_mono HO_5.out (fun _ hk => ⟨trivial, hk⟩)) hg hat); have n1_ := Aside0.mk (Kd.R_after (ok := (fun k_ => some k_ ≠ (.slice (some ad196) t191.length co34 : Value).ownBlock)) (by (with_reducible repeat (first | apply Kd.R_alloc | apply Kd.R_drewN | apply Kd.R_drew)); exact Kd.R_mono HL196_0.out (fun _ hk => ⟨hk.2, hk.1⟩)) hg hat); have n2_ := Aside0.mk (Kd.R_after (ok := (fun k_ => some k_ ≠ (.slice (some ad196) t191.length co34 : Value).ownBlock)) (by (with_reducible repeat (first | apply Kd.R_alloc | apply Kd.R_drewN | apply Kd.R_drew)); exact Kd.R_mono HL198_0.out (fun _ hk => ⟨hk.2, hk.1⟩)) hg hat); have n3_ := Aside0.mk (Kd.R_after (ok := (fun k_ => some k_ ≠ (.slice (some ad196) t191.length co34 : Value).ownBlock)) (by (with_reducible repeat (first | apply Kd.R_alloc | apply Kd.R_drewN | apply Kd.R_drew)); exact Kd.R_mono HL202_0.out (fun _ hk => ⟨hk.2, hk.1⟩)) hg hat); have n4_ := Aside0.mk (hb); have n5_ := Aside0.mk (ho); clear HO_5; clear HL196_0; clear HL198_0; clear HL202_0; clear HB; clear HO_6; have HO_5 := n0_; have HL196_0 := n1_; have HL198_0 := n2_; have HL202_0 := n3_; have HB := n4_; have HO206 := n5_; clear n0_ n1_ n2_ n3_ n4_ n5_; clear ho hb hg hat))
                        repeat (go_quiet (first | ((with_reducible refine gate_builtin (b := .append) (xs := #[.tmp 77, .tmp 79]) rfl ?_); at_builtin; refine Kd.R_append (Kd.int .i64) (w0 := w) w.heap.size rfl (.tmp 77) (.tmp 79) 22 3 (.int .i64 0) 8 rfl Try.underlying22 info3 rfl (by decide) (by omega) u6 x6_1 x9_2 [.int .i64 x9_2] (fun _ => True) (fun _ => False) rfl rfl ?aP (fun _ hk => hk.elim) ?aF ?aO ?aB ?aS ?aL ?_; (case aP => exact rfl); (case aB => exact (by repeat (first | (with_reducible first | exact HB.out | apply below_alloc | apply pw_below_drewN | apply below_drew1) | exact HB.out))); (case aF => exact (fun _ _ => trivial)); (case aO => exact (by (with_reducible repeat (first | apply Kd.R_alloc | apply Kd.R_drewN | apply Kd.R_drew)); exact HO_6.out)); (case aS => exact (below_size (by repeat (first | (with_reducible first | exact HB.out | apply below_alloc | apply pw_below_drewN | apply below_drew1) | exact HB.out)))); (case aL => have := LMc31.out; omega); intro v205 w35 ho hb hg hat; rw [← Ny204.out] at ho; have n0_ := Aside0.mk (Kd.S_after (ok := (fun _ => True)) (by (with_reducible repeat (first | apply Kd.S_alloc | apply Kd.S_drewN | apply Kd.S_drew)); exact Kd.S_mono HO_5.out (fun _ hk => ⟨trivial, hk⟩)) hg hat); have n1_ := Aside0.mk (Kd.R_after (ok := (fun k_ => some k_ ≠ (.slice (some ad196) t191.length co34 : Value).ownBlock)) (by (with_reducible repeat (first | apply Kd.R_alloc | apply Kd.R_drewN | apply Kd.R_drew)); exact Kd.R_mono HL196_0.out (fun _ hk => ⟨hk.2, hk.1⟩)) hg hat); have n2_ := Aside0.mk (Kd.R_after (ok := (fun k_ => some k_ ≠ (.slice (some ad196) t191.length co34 : Value).ownBlock)) (by (with_reducible repeat (first | apply Kd.R_alloc | apply Kd.R_drewN | apply Kd.R_drew)); exact Kd.R_mono HL198_0.out (fun _ hk => ⟨hk.2, hk.1⟩)) hg hat); have n3_ := Aside0.mk (Kd.R_after (ok := (fun k_ => some k_ ≠ (.slice (some ad196) t191.length co34 : Value).ownBlock)) (by (with_reducible repeat (first | apply Kd.R_alloc | apply Kd.R_drewN | apply Kd.R_drew)); exact Kd.R_mono HL202_0.out (fun _ hk => ⟨hk.2, hk.1⟩)) hg hat); have n4_ := Aside0.mk (hb); have n5_ := Aside0.mk (ho); clear HO_5; clear HL196_0; clear HL198_0; clear HL202_0; clear HB; clear HO_6; have HO_5 := n0_; have HL196_0 := n1_; have HL198_0 := n2_; have HL202_0 := n3_; have HB := n4_; have HO206 := n5_; clear n0_ n1_ n2_ n3_ n4_ n5_; clear ho hb hg hat)); try go_wp2_with (first | ((with_reducible refine gate_builtin (b := .append) (xs := #[.tmp 77, .tmp 79]) rfl ?_); at_builtin; refine Kd.R_append (Kd.int .i64) (w0 := w) w.heap.size rfl (.tmp 77) (.tmp 79) 22 3 (.int .i64 0) 8 rfl Try.underlying22 info3 rfl (by decide) (by omega) u6 x6_1 x9_2 [.int .i64 x9_2] (fun _ => True) (fun _ => False) rfl rfl ?aP (fun _ hk => hk.elim) ?aF ?aO ?aB ?aS ?aL ?_; (case aP => exact rfl); (case aB => exact (by repeat (first | (with_reducible first | exact HB.out | apply below_alloc | apply pw_below_drewN | apply below_drew1) | exact HB.out))); (case aF => exact (fun _ _ => trivial)); (case aO => exact (by (with_reducible repeat (first | apply Kd.R_alloc | apply Kd.R_drewN | apply Kd.R_drew)); exact HO_6.out)); (case aS => exact (below_size (by repeat (first | (with_reducible first | exact HB.out | apply below_alloc | apply pw_below_drewN | apply below_drew1) | exact HB.out)))); (case aL => have := LMc31.out; omega); intro v205 w35 ho hb hg hat; rw [← Ny204.out] at ho; have n0_ := Aside0.mk (Kd.S_after (ok := (fun _ => True)) (by (with_reducible repeat (first | apply Kd.S_alloc | apply Kd.S_drewN | apply Kd.S_drew)); exact Kd.S_mono HO_5.out (fun _ hk => ⟨trivial, hk⟩)) hg hat); have n1_ := Aside0.mk (Kd.R_after (ok := (fun k_ => some k_ ≠ (.slice (some ad196) t191.length co34 : Value).ownBlock)) (by (with_reducible repeat (first | apply Kd.R_alloc | apply Kd.R_drewN | apply Kd.R_drew)); exact Kd.R_mono HL196_0.out (fun _ hk => ⟨hk.2, hk.1⟩)) hg hat); have n2_ := Aside0.mk (Kd.R_after (ok := (fun k_ => some k_ ≠ (.slice (some ad196) t191.length co34 : Value).ownBlock)) (by (with_reducible repeat (first | apply Kd.R_alloc | apply Kd.R_drewN | apply Kd.R_drew)); exact Kd.R_mono HL198_0.out (fun _ hk => ⟨hk.2, hk.1⟩)) hg hat); have n3_ := Aside0.mk (Kd.R_after (ok := (fun k_ => some k_ ≠ (.slice (some ad196) t191.length co34 : Value).ownBlock)) (by (with_reducible repeat (first | apply Kd.R_alloc | apply Kd.R_drewN | apply Kd.R_drew)); exact Kd.R_mono HL202_0.out (fun _ hk => ⟨hk.2, hk.1⟩)) hg hat); have n4_ := Aside0.mk (hb); have n5_ := Aside0.mk (ho); clear HO_5; clear HL196_0; clear HL198_0; clear HL202_0; clear HB; clear HO_6; have HO_5 := n0_; have HL196_0 := n1_; have HL198_0 := n2_; have HL202_0 := n3_; have HB := n4_; have HO206 := n5_; clear n0_ n1_ n2_ n3_ n4_ n5_; clear ho hb hg hat)))
                        go_roundg k2
                        case measure => have := HK1.out; have := HK2.out; omega
                        case rel => exact ⟨(y204), (Go.bits .or .i64 x7_1 (ji16)), (ji12), (by first | rfl | (simp; done) | (simp only [← hji16] <;> (first | rfl | simp)) | (simp [*]; done)), (by first | rfl | (simp; done) | (simp only [← hji12] <;> (first | rfl | simp)) | (simp [*]; done)), H', ⟨by have := HK1.out; have := HK2.out; omega⟩, ⟨by (with_reducible repeat (first | apply Kd.S_alloc | apply Kd.S_drewN | apply Kd.S_drew)); exact Kd.S_mono HO_5.out (fun _ hk => hk.2)⟩, ⟨by (with_reducible repeat (first | apply Kd.R_alloc | apply Kd.R_drewN | apply Kd.R_drew)); exact HO206.out⟩, ⟨by repeat (first | (with_reducible first | exact HB.out | apply below_alloc | apply pw_below_drewN | apply below_drew1) | exact HB.out)⟩⟩
                       ·rw [if_neg c31] at H
                        exact absurd H (by simp)
                      ·rw [if_neg c30] at H
                       have c30b0 : ((wrap64 ((rd (rd_L1 t191 (ji12)) (Go.bits .or .i64 x7_1 (ji16))) + (rd (rd_L1 l0 x8_1) x9_2))) == (rd (rd_L1 t191 x8_1) x7_1)) = false := beq_eq_false_iff_ne.mpr c30
                       have c30b1 : ((wrap64 ((rd (rd_L1 t191 (ji12)) (Go.bits .or .i64 x7_1 (ji16))) + (rd (rd_L1 l0 x8_1) x9_2))) != (rd (rd_L1 t191 x8_1) x7_1)) = true := bne_iff_ne.mpr c30
                       have H' := Aside0.mk H
                       clear H
                       obtain ⟨Ao36, co36, eo36⟩ := Kd.S_slice HO_5.out
                       subst eo36
                       have p196 : 0 ≤ ((ji12) : Int) := of_decide_eq_true (by first | (with_reducible assumption) | assumption)
                       have q196 : (ji12) < (t191.length : Int) := of_decide_eq_true (by first | (with_reducible assumption) | assumption)
                       obtain ⟨ad196, A196_0, c196_0, e196, hx196_0, hl196_0, hi196_0⟩ := at_L1 (Kd.S_reads' HO_5.out).2.2 (ji12) p196 q196
                       cases e196
                       obtain ⟨ce196, hce196, hMe196, hcc196⟩ := Kd.S_get HO_5.out [] (ji12) p196 (by first | exact q196 | exact of_decide_eq_true (by first | (with_reducible assumption) | assumption) | (have e_ := (Kd.S_reads' HO_5.out).1; omega))
                       obtain ⟨ve196_0, rfl, ge196_0⟩ := hMe196
                       have hv196_0 := hcc196 0 _ rfl
                       rw [Nat.add_zero, show ((Kd.slice 3 (Kd.int .i64))).sz = 1 from rfl, Nat.mul_one] at hv196_0
                       replace hv196_0 := Option.some.inj (hv196_0.symm.trans hx196_0)
                       rw [hv196_0] at ge196_0
                       have HL196_0 := Aside0.mk (show Kd.R (Kd.int .i64) 3 _ _ _ _ (rd_L1 t191 (ji12)) from ge196_0)
                       clear hv196_0 ge196_0
                       clear hcc196 hce196
                       have HR196_0 := Aside0.mk hi196_0
                       have HC196_0 := Aside0.mk hl196_0
                       clear hi196_0 hl196_0
                       replace p196 := eq_true p196
                       replace q196 := eq_true q196
                       have p197 : 0 ≤ ((Go.bits .or .i64 x7_1 (ji16)) : Int) := of_decide_eq_true (by first | (with_reducible assumption) | assumption)
                       have q197 : (Go.bits .or .i64 x7_1 (ji16)) < ((rd_L1 t191 (ji12)).length : Int) := of_decide_eq_true (by first | (with_reducible assumption) | assumption)
                       obtain ⟨ad197, e197, hx197_0⟩ := Kd.at_int (by repeat (first | (with_reducible exact HR196_0.out) | (with_reducible refine Kd.C_alloc ?_ _) | (with_reducible refine Kd.C_drewN ?_ _) | (with_reducible refine Kd.C_drew ?_) | exact HR196_0.out)) (Go.bits .or .i64 x7_1 (ji16)) p197 q197
                       cases e197
                       replace p197 := eq_true p197
                       replace q197 := eq_true q197
                       have p198 : 0 ≤ ((ji12) : Int) := of_decide_eq_true (by first | (with_reducible assumption) | assumption)
                       have q198 : (ji12) < (t191.length : Int) := of_decide_eq_true (by first | (with_reducible assumption) | assumption)
                       obtain ⟨ad198, A198_0, c198_0, e198, hx198_0, hl198_0, hi198_0⟩ := at_L1 (Kd.S_reads' HO_5.out).2.2 (ji12) p198 q198
                       obtain rfl : ad196 = ad198 := (by injection e198)
                       obtain ⟨ce198, hce198, hMe198, hcc198⟩ := Kd.S_get HO_5.out [] (ji12) p198 (by first | exact q198 | exact of_decide_eq_true (by first | (with_reducible assumption) | assumption) | (have e_ := (Kd.S_reads' HO_5.out).1; omega))
                       obtain ⟨ve198_0, rfl, ge198_0⟩ := hMe198
                       have hv198_0 := hcc198 0 _ rfl
                       rw [Nat.add_zero, show ((Kd.slice 3 (Kd.int .i64))).sz = 1 from rfl, Nat.mul_one] at hv198_0
                       replace hv198_0 := Option.some.inj (hv198_0.symm.trans hx198_0)
                       rw [hv198_0] at ge198_0
                       have HL198_0 := Aside0.mk (show Kd.R (Kd.int .i64) 3 _ _ _ _ (rd_L1 t191 (ji12)) from ge198_0)
                       clear hv198_0 ge198_0
                       clear hcc198 hce198
                       have HR198_0 := Aside0.mk hi198_0
                       have HC198_0 := Aside0.mk hl198_0
                       clear hi198_0 hl198_0
                       replace p198 := eq_true p198
                       replace q198 := eq_true q198
                       have ea_ := Option.some.inj (hx196_0.symm.trans hx198_0)
                       injection ea_ with ea_ en_ ec_
                       subst ea_
                       subst ec_
                       clear en_
                       have p199 : 0 ≤ ((Go.bits .or .i64 x7_1 (ji16)) : Int) := of_decide_eq_true (by first | (with_reducible assumption) | assumption)
                       have q199 : (Go.bits .or .i64 x7_1 (ji16)) < ((rd_L1 t191 (ji12)).length : Int) := of_decide_eq_true (by first | (with_reducible assumption) | assumption)
                       obtain ⟨ad199, e199, hx199_0⟩ := Kd.at_int (by repeat (first | (with_reducible exact HR198_0.out) | (with_reducible refine Kd.C_alloc ?_ _) | (with_reducible refine Kd.C_drewN ?_ _) | (with_reducible refine Kd.C_drew ?_) | exact HR198_0.out)) (Go.bits .or .i64 x7_1 (ji16)) p199 q199
                       cases e199
                       replace p199 := eq_true p199
                       replace q199 := eq_true q199
                       have p200 : 0 ≤ (x8_1 : Int) := of_decide_eq_true (by first | (with_reducible assumption) | assumption)
                       have q200 : x8_1 < (l0.length : Int) := of_decide_eq_true (by first | (with_reducible assumption) | assumption)
                       obtain ⟨ad200, A200_0, c200_0, e200, hx200_0, hl200_0, hi200_0⟩ := at_L1 HR0.out x8_1 p200 q200
                       cases e200
                       replace hx200_0 := (HB.out.cell (World.block_lt_of_cell? w _ hx200_0)).trans hx200_0
                       have HR200_0 := Aside0.mk hi200_0
                       have HC200_0 := Aside0.mk hl200_0
                       clear hi200_0 hl200_0
                       replace p200 := eq_true p200
                       replace q200 := eq_true q200
                       have p201 : 0 ≤ (x9_2 : Int) := of_decide_eq_true (by first | (with_reducible assumption) | assumption)
                       have q201 : x9_2 < ((rd_L1 l0 x8_1).length : Int) := of_decide_eq_true (by first | (with_reducible assumption) | assumption)
                       obtain ⟨ad201, e201, hx201_0⟩ := Kd.at_int HR200_0.out x9_2 p201 q201
                       cases e201
                       replace hx201_0 := (HB.out.cell (World.block_lt_of_cell? w _ hx201_0)).trans hx201_0
                       replace p201 := eq_true p201
                       replace q201 := eq_true q201
                       have p202 : 0 ≤ (x8_1 : Int) := of_decide_eq_true (by first | (with_reducible assumption) | assumption)
                       have q202 : x8_1 < (t191.length : Int) := of_decide_eq_true (by first | (with_reducible assumption) | assumption)
                       obtain ⟨ad202, A202_0, c202_0, e202, hx202_0, hl202_0, hi202_0⟩ := at_L1 (Kd.S_reads' HO_5.out).2.2 x8_1 p202 q202
                       obtain rfl : ad196 = ad202 := (by injection e202)
                       obtain ⟨ce202, hce202, hMe202, hcc202⟩ := Kd.S_get HO_5.out [] x8_1 p202 (by first | exact q202 | exact of_decide_eq_true (by first | (with_reducible assumption) | assumption) | (have e_ := (Kd.S_reads' HO_5.out).1; omega))
                       obtain ⟨ve202_0, rfl, ge202_0⟩ := hMe202
                       have hv202_0 := hcc202 0 _ rfl
                       rw [Nat.add_zero, show ((Kd.slice 3 (Kd.int .i64))).sz = 1 from rfl, Nat.mul_one] at hv202_0
                       replace hv202_0 := Option.some.inj (hv202_0.symm.trans hx202_0)
                       rw [hv202_0] at ge202_0
                       have HL202_0 := Aside0.mk (show Kd.R (Kd.int .i64) 3 _ _ _ _ (rd_L1 t191 x8_1) from ge202_0)
                       clear hv202_0 ge202_0
                       clear hcc202 hce202
                       have HR202_0 := Aside0.mk hi202_0
                       have HC202_0 := Aside0.mk hl202_0
                       clear hi202_0 hl202_0
                       replace p202 := eq_true p202
                       replace q202 := eq_true q202
                       have p203 : 0 ≤ (x7_1 : Int) := of_decide_eq_true (by first | (with_reducible assumption) | assumption)
                       have q203 : x7_1 < ((rd_L1 t191 x8_1).length : Int) := of_decide_eq_true (by first | (with_reducible assumption) | assumption)
                       obtain ⟨ad203, e203, hx203_0⟩ := Kd.at_int (by repeat (first | (with_reducible exact HR202_0.out) | (with_reducible refine Kd.C_alloc ?_ _) | (with_reducible refine Kd.C_drewN ?_ _) | (with_reducible refine Kd.C_drew ?_) | exact HR202_0.out)) x7_1 p203 q203
                       cases e203
                       replace p203 := eq_true p203
                       replace q203 := eq_true q203
                       go_wp2
                       repeat (go_quiet (fail); try go_wp2)
                       go_roundg k2
                       case measure => have := HK1.out; have := HK2.out; omega
                       case rel => exact ⟨(wrap64 (x9_2 + 1)), (by first | rfl | (simp; done) | (simp [*]; done)), H', ⟨by have := HK1.out; have := HK2.out; omega⟩, ⟨by (with_reducible repeat (first | apply Kd.S_alloc | apply Kd.S_drewN | apply Kd.S_drew)); exact HO_5.out⟩, ⟨by (with_reducible repeat (first | apply Kd.R_alloc | apply Kd.R_drewN | apply Kd.R_drew)); exact HO_6.out⟩, ⟨by repeat (first | (with_reducible first | exact HB.out | apply below_alloc | apply pw_below_drewN | apply below_drew1) | exact HB.out)⟩⟩
                     ·rw [if_neg c29] at H
                      exact absurd H (by simp)
                    ·rw [if_neg c28] at H
                     exact absurd H (by simp)
                   ·rw [if_neg c27] at H
                    exact absurd H (by simp)
                  ·rw [if_neg c26] at H
                   exact absurd H (by simp)
                 ·rw [if_neg c25] at H
                  exact absurd H (by simp)
                ·rw [if_neg c24] at H
                 exact absurd H (by simp)
               ·rw [if_neg c23] at H
                exact absurd H (by simp)
             ·rw [if_neg c18] at H
              exact absurd H (by simp)
            ·rw [if_neg c17] at H
             exact absurd H (by simp)
           ·rw [if_neg c14] at H
            exact absurd H (by simp)
          ·rw [if_neg c13] at H
           exact absurd H (by simp)
        ·rw [if_neg c9] at H
         exact absurd H (by simp)
     ·rw [if_neg c7] at H
      have c7b0 : decide (x8_1 < (l0.length : Int)) = false := decide_eq_false c7
      clear c7
      by_cases c37 : 0 < (t191.length : Int)
      ·rw [if_pos c37] at H
       have c37b0 : decide (0 < (t191.length : Int)) = true := decide_eq_true c37
       have c37b1 : decide (0 < t191.length) = true := decide_eq_true (by omega)
       clear c37
       by_cases c38 : 0 < ((rd_L1 t191 0).length : Int)
       ·rw [if_pos c38] at H
        have c38b0 : decide (0 < ((rd_L1 t191 0).length : Int)) = true := decide_eq_true c38
        have c38b1 : decide (0 < (rd_L1 t191 0).length) = true := decide_eq_true (by omega)
        clear c38
        simp only [Option.some.injEq, Prod.mk.injEq] at H
        obtain ⟨rfl, rfl, rfl⟩ := H
        obtain ⟨Ao39, co39, eo39⟩ := Kd.S_slice HO_5.out
        subst eo39
        have p194 : 0 ≤ (0 : Int) := (by omega)
        have q194 : 0 < (t191.length : Int) := of_decide_eq_true (by first | (with_reducible assumption) | assumption)
        obtain ⟨ad194, A194_0, c194_0, e194, hx194_0, hl194_0, hi194_0⟩ := at_L1 (Kd.S_reads' HO_5.out).2.2 0 p194 q194
        cases e194
        obtain ⟨ce194, hce194, hMe194, hcc194⟩ := Kd.S_get HO_5.out [] 0 p194 (by first | exact q194 | exact of_decide_eq_true (by first | (with_reducible assumption) | assumption) | (have e_ := (Kd.S_reads' HO_5.out).1; omega))
        obtain ⟨ve194_0, rfl, ge194_0⟩ := hMe194
        have hv194_0 := hcc194 0 _ rfl
        rw [Nat.add_zero, show ((Kd.slice 3 (Kd.int .i64))).sz = 1 from rfl, Nat.mul_one] at hv194_0
        replace hv194_0 := Option.some.inj (hv194_0.symm.trans hx194_0)
        rw [hv194_0] at ge194_0
        have HL194_0 := Aside0.mk (show Kd.R (Kd.int .i64) 3 _ _ _ _ (rd_L1 t191 0) from ge194_0)
        clear hv194_0 ge194_0
        clear hcc194 hce194
        have qi194 : (0 < t191.length) = True := eq_true (by omega)
        (try rw [show ((0 : Int)).toNat = 0 from rfl] at hx194_0)
        (try rw [Addr.add_zero'] at hx194_0)
        have HR194_0 := Aside0.mk hi194_0
        have HC194_0 := Aside0.mk hl194_0
        clear hi194_0 hl194_0
        replace p194 := eq_true p194
        replace q194 := eq_true q194
        have p195 : 0 ≤ (0 : Int) := (by omega)
        have q195 : 0 < ((rd_L1 t191 0).length : Int) := of_decide_eq_true (by first | (with_reducible assumption) | assumption)
        obtain ⟨ad195, e195, hx195_0⟩ := Kd.at_int (by repeat (first | (with_reducible exact HR194_0.out) | (with_reducible refine Kd.C_alloc ?_ _) | (with_reducible refine Kd.C_drewN ?_ _) | (with_reducible refine Kd.C_drew ?_) | exact HR194_0.out)) 0 p195 q195
        cases e195
        have qi195 : (0 < (rd_L1 t191 0).length) = True := eq_true (by omega)
        (try rw [show ((0 : Int)).toNat = 0 from rfl] at hx195_0)
        (try rw [Addr.add_zero'] at hx195_0)
        replace p195 := eq_true p195
        replace q195 := eq_true q195
        go_wp2
        repeat (go_quiet (fail); try go_wp2)
        go_ret3
        exact ⟨_, by first | rfl | (simp [errW_none, errW_some] <;> rfl) | (simp [*, errW_none, errW_some] <;> rfl), by (with_reducible repeat (first | apply Kd.R_alloc | apply Kd.R_drewN | apply Kd.R_drew)); exact HO_6.out, by repeat (first | (with_reducible first | exact HB.out | apply below_alloc | apply pw_below_drewN | apply below_drew1) | exact HB.out)⟩
       ·rw [if_neg c38] at H
        exact absurd H (by simp)
      ·rw [if_neg c37] at H
       exact absurd H (by simp)
 ·replace c3 := Bool.eq_false_iff.mpr c3
  subst c3
  have H1 : (some (([] : List Int), 0, false)) = some (r1, r2, r3) := by rw [if_neg (show ¬ (false = true) by decide)] at H; exact H
  clear H
  have H := H1
  clear H1
  simp only [Option.some.injEq, Prod.mk.injEq] at H
  obtain ⟨rfl, rfl, rfl⟩ := H
  go_enter Try.func16, Try.ntmps16
  go_wp2_with (first | (go_at_call 21; (with_reducible refine (hypercuberef9_right.calls k _ _ l0 false _ ?side1 ?side2 A2.out).mono ?_); (case side1 => repeat (first | exact HR0.out | (with_reducible refine Kd.C_alloc ?_ _) | (with_reducible refine Kd.C_drewN ?_ _) | (with_reducible refine Kd.C_drew ?_))); (case side2 => exact HC0.out); rintro e w' ⟨rfl, ⟨nd, rfl⟩⟩; (try first | exact ⟨rfl, _, World.drewN_drewN _ _ _⟩ | exact ⟨rfl, _, Eq.trans (World.drewN_drewN _ _ _) (congrArg (World.drewN _) (Nat.add_assoc _ _ _))⟩)))
  repeat (go_quiet (first | (go_at_call 21; (with_reducible refine (hypercuberef9_right.calls k _ _ l0 false _ ?side1 ?side2 A2.out).mono ?_); (case side1 => repeat (first | exact HR0.out | (with_reducible refine Kd.C_alloc ?_ _) | (with_reducible refine Kd.C_drewN ?_ _) | (with_reducible refine Kd.C_drew ?_))); (case side2 => exact HC0.out); rintro e w' ⟨rfl, ⟨nd, rfl⟩⟩; (try first | exact ⟨rfl, _, World.drewN_drewN _ _ _⟩ | exact ⟨rfl, _, Eq.trans (World.drewN_drewN _ _ _) (congrArg (World.drewN _) (Nat.add_assoc _ _ _))⟩))); try go_wp2_with (first | (go_at_call 21; (with_reducible refine (hypercuberef9_right.calls k _ _ l0 false _ ?side1 ?side2 A2.out).mono ?_); (case side1 => repeat (first | exact HR0.out | (with_reducible refine Kd.C_alloc ?_ _) | (with_reducible refine Kd.C_drewN ?_ _) | (with_reducible refine Kd.C_drew ?_))); (case side2 => exact HC0.out); rintro e w' ⟨rfl, ⟨nd, rfl⟩⟩; (try first | exact ⟨rfl, _, World.drewN_drewN _ _ _⟩ | exact ⟨rfl, _, Eq.trans (World.drewN_drewN _ _ _) (congrArg (World.drewN _) (Nat.add_assoc _ _ _))⟩))))
  go_ret3
  exact ⟨_, by first | rfl | (simp [errW_none, errW_some] <;> rfl) | (simp [*, errW_none, errW_some] <;> rfl), by first | exact Kd.R_nil _ _ _ _ _ | exact Kd.N_nil _ _ _ _ _ | exact Kd.V_nil _ _ _ _ _ | exact Kd.Q_nil _ _ _ _ _ | exact Kd.S_nil _ _ _ _ _, by repeat (first | (with_reducible first | exact HB.out | apply below_alloc | apply pw_below_drewN | apply below_drew1) | exact HB.out)⟩

end Go.Proofs.Ytgnkpahnhhmceaa.Core
