-- Cut by pack.py, a program of this session; not trusted: Lean checks it.
import Derived.Test.YtlplaidcdocbmaaZG0
import Derived.Test.YtlplaidcdocbmaaZPSortsAllx12

namespace Go.Proofs.Ytlplaidcdocbmaa.PSortsAll
open Go.RowKit Go.Proofs.YtlplaidcdocbmaaW.PrintWords Go.Proofs.YtlplaidcdocbmaaW.PrintLast Go.Proofs.YtlplaidcdocbmaaW.PrintMore
private theorem od_ {p : Prop} [Decidable p] (h : decide p = true := by first | (with_reducible assumption) | assumption) : p := of_decide_eq_true h
attribute [local go_sem] max2_int min2_int max_two min_two max_three min_three max_four min_four
set_option linter.unusedVariables false
set_option linter.unusedSimpArgs false
def hypercubelaw10_same.l0 : Nat → List (List Int) → List (List Int) → Int → Option (Bool)
 | 0, _, _, _ => none
 | k + 1, x0, x1, x5 => if x5 < (x0.length : Int) then (if 0 ≤ x5 then (if x5 < (x1.length : Int) then ((hypercuberef1_Ints.f k (rd_L1 x0 x5) (rd_L1 x1 x5)).bind fun t353 => (if t353 = true then (hypercubelaw10_same.l0 k x0 x1 (wrap64 (x5 + 1))) else (some false))) else (none)) else (none)) else (some true)
def hypercubelaw10_same.f (k : Nat) (l0 : List (List Int)) (l1 : List (List Int)) : Option (Bool) := if (l0.length : Int) = (l1.length : Int) then (hypercubelaw10_same.l0 k l0 l1 0) else (some false)
set_option maxHeartbeats 8000000 in
set_option maxRecDepth 100000 in
theorem hypercubelaw10_same.calls (k : Nat) (A0 : Option Addr) (c0 : Nat) (l0 : List (List Int)) (A1 : Option Addr) (c1 : Nat) (l1 : List (List Int)) (r : Bool) (w : World) (hr0 : Kd.C (Kd.slice 3 (Kd.int .i64)) w A0 l0.length l0) (hc0 : l0.length ≤ c0) (hr1 : Kd.C (Kd.slice 3 (Kd.int .i64)) w A1 l1.length l1) (hc1 : l1.length ≤ c1) (h : hypercubelaw10_same.f k l0 l1 = some r) :
 Calls Try.prog 58 #[.slice A0 l0.length c0, .slice A1 l1.length c1] w fun e w' => e = .returned (.bool r) ∧ Drawn0 w w' := by
 have HR0 := Aside0.mk hr0
 have HC0 := Aside0.mk hc0
 clear hr0 hc0
 have HR1 := Aside0.mk hr1
 have HC1 := Aside0.mk hc1
 clear hr1 hc1
 have H : (if (l0.length : Int) = (l1.length : Int) then (hypercubelaw10_same.l0 k l0 l1 0) else (some false)) = some r := h
 clear h
 by_cases c3 : (l0.length : Int) = (l1.length : Int)
 rotate_left
 ·rw [if_neg c3] at H
  have c3b0 : ((l0.length : Int) == (l1.length : Int)) = false := beq_eq_false_iff_ne.mpr c3
  have c3b1 : ((l0.length : Int) != (l1.length : Int)) = true := bne_iff_ne.mpr c3
  have c3b2 : (l0.length == l1.length) = false := by first | simpa using c3 | (simp at c3 ⊢; omega)
  obtain rfl := Option.some.inj H
  go_enter Try.func58, Try.ntmps58
  go_wp2
  repeat (go_quiet (fail); try go_wp2)
  go_ret
  exact ⟨by first | rfl | (simp; done) | (simp [*]; done), by repeat (first | exact Drawn0.refl _ | apply Drawn0.step)⟩
 rw [if_pos c3] at H
 have c3b0 : ((l0.length : Int) == (l1.length : Int)) = true := beq_iff_eq.mpr c3
 have c3b1 : ((l0.length : Int) != (l1.length : Int)) = false := bne_eq_false_iff_eq.mpr c3
 have c3b2 : (l0.length == l1.length) = true := by first | simpa using c3 | (simp at c3 ⊢; omega)
 clear c3
 have H' := Aside0.mk H
 clear H
 go_enter Try.func58, Try.ntmps58
 go_wp2
 repeat (go_quiet (fail); try go_wp2)
 go_loopg [5] k (fun kq v5 w' => ∃ (x5_1 : Int), v5 = .int .i64 x5_1 ∧ Aside0 (hypercubelaw10_same.l0 kq l0 l1 x5_1 = some r) ∧ Aside0 (kq ≤ k) ∧ Drawn0 w w')
 case atStart => exact ⟨(0), (by first | rfl | (simp; done) | (simp [*]; done)), H', ⟨Nat.le_refl _⟩, by repeat (first | exact Drawn0.refl _ | apply Drawn0.step)⟩
 case round =>
  clear H'
  obtain ⟨x5_1, rfl, HA, HK1, ⟨m1, rfl⟩⟩ := hrel
  cases gk with
  | zero => exact absurd HA.out (by simp [hypercubelaw10_same.l0])
  | succ k1 =>
   have H := HA.out
   clear HA
   simp only [hypercubelaw10_same.l0] at H
   by_cases c4 : x5_1 < (l0.length : Int)
   rotate_left
   ·rw [if_neg c4] at H
    have c4b0 : decide (x5_1 < (l0.length : Int)) = false := decide_eq_false c4
    clear c4
    obtain rfl := Option.some.inj H
    go_wp2
    repeat (go_quiet (fail); try go_wp2)
    go_ret
    exact ⟨by first | rfl | (simp; done) | (simp [*]; done), by repeat (first | exact Drawn0.refl _ | apply Drawn0.step)⟩
   rw [if_pos c4] at H
   have c4b0 : decide (x5_1 < (l0.length : Int)) = true := decide_eq_true c4
   clear c4
   by_cases c5 : 0 ≤ x5_1
   rotate_left
   ·rw [if_neg c5] at H
    exact absurd H (by simp)
   rw [if_pos c5] at H
   have c5b0 : decide (0 ≤ x5_1) = true := decide_eq_true c5
   clear c5
   by_cases c6 : x5_1 < (l1.length : Int)
   rotate_left
   ·rw [if_neg c6] at H
    exact absurd H (by simp)
   rw [if_pos c6] at H
   have c6b0 : decide (x5_1 < (l1.length : Int)) = true := decide_eq_true c6
   clear c6
   replace H := Option.bind_eq_some_iff.mp H
   obtain ⟨t353, A70, H⟩ := H
   replace H : (if t353 = true then (hypercubelaw10_same.l0 k1 l0 l1 (wrap64 (x5_1 + 1))) else (some false)) = some r := H
   have A7 := Aside0.mk A70
   clear A70
   by_cases c8 : t353 = true
   rotate_left
   ·replace c8 := Bool.eq_false_iff.mpr c8
    subst c8
    have H1 : (some false) = some r := by rw [if_neg (show ¬ (false = true) by decide)] at H; exact H
    clear H
    have H := H1
    clear H1
    obtain rfl := Option.some.inj H
    have p351 : 0 ≤ (x5_1 : Int) := od_
    have q351 : x5_1 < (l0.length : Int) := od_
    obtain ⟨ad351, A351_0, c351_0, e351, hx351_0, hl351_0, hi351_0⟩ := at_L1 HR0.out x5_1 p351 q351
    cases e351
    have HR351_0 := Aside0.mk hi351_0
    have HC351_0 := Aside0.mk hl351_0
    clear hi351_0 hl351_0
    replace p351 := eq_true p351
    replace q351 := eq_true q351
    have p352 : 0 ≤ (x5_1 : Int) := od_
    have q352 : x5_1 < (l1.length : Int) := od_
    obtain ⟨ad352, A352_0, c352_0, e352, hx352_0, hl352_0, hi352_0⟩ := at_L1 HR1.out x5_1 p352 q352
    cases e352
    have HR352_0 := Aside0.mk hi352_0
    have HC352_0 := Aside0.mk hl352_0
    clear hi352_0 hl352_0
    replace p352 := eq_true p352
    replace q352 := eq_true q352
    go_wp2_with (first | (go_at_call 33; (with_reducible refine (hypercuberef1_Ints.calls k1 _ _ (rd_L1 l0 x5_1) _ _ (rd_L1 l1 x5_1) false _ ?side1 ?side2 ?side3 ?side4 A7.out).mono ?_); (case side1 => repeat (first | exact HR351_0.out | (with_reducible refine Kd.C_alloc ?_ _) | (with_reducible refine Kd.C_drewN ?_ _) | (with_reducible refine Kd.C_drew ?_))); (case side2 => exact HC351_0.out); (case side3 => repeat (first | exact HR352_0.out | (with_reducible refine Kd.C_alloc ?_ _) | (with_reducible refine Kd.C_drewN ?_ _) | (with_reducible refine Kd.C_drew ?_))); (case side4 => exact HC352_0.out); rintro e w' ⟨rfl, ⟨nd, rfl⟩⟩; (try first | exact ⟨rfl, _, World.drewN_drewN _ _ _⟩ | exact ⟨rfl, _, Eq.trans (World.drewN_drewN _ _ _) (congrArg (World.drewN _) (Nat.add_assoc _ _ _))⟩)))
    repeat (go_quiet (first | (go_at_call 33; (with_reducible refine (hypercuberef1_Ints.calls k1 _ _ (rd_L1 l0 x5_1) _ _ (rd_L1 l1 x5_1) false _ ?side1 ?side2 ?side3 ?side4 A7.out).mono ?_); (case side1 => repeat (first | exact HR351_0.out | (with_reducible refine Kd.C_alloc ?_ _) | (with_reducible refine Kd.C_drewN ?_ _) | (with_reducible refine Kd.C_drew ?_))); (case side2 => exact HC351_0.out); (case side3 => repeat (first | exact HR352_0.out | (with_reducible refine Kd.C_alloc ?_ _) | (with_reducible refine Kd.C_drewN ?_ _) | (with_reducible refine Kd.C_drew ?_))); (case side4 => exact HC352_0.out); rintro e w' ⟨rfl, ⟨nd, rfl⟩⟩; (try first | exact ⟨rfl, _, World.drewN_drewN _ _ _⟩ | exact ⟨rfl, _, Eq.trans (World.drewN_drewN _ _ _) (congrArg (World.drewN _) (Nat.add_assoc _ _ _))⟩))); try go_wp2_with (first | (go_at_call 33; (with_reducible refine (hypercuberef1_Ints.calls k1 _ _ (rd_L1 l0 x5_1) _ _ (rd_L1 l1 x5_1) false _ ?side1 ?side2 ?side3 ?side4 A7.out).mono ?_); (case side1 => repeat (first | exact HR351_0.out | (with_reducible refine Kd.C_alloc ?_ _) | (with_reducible refine Kd.C_drewN ?_ _) | (with_reducible refine Kd.C_drew ?_))); (case side2 => exact HC351_0.out); (case side3 => repeat (first | exact HR352_0.out | (with_reducible refine Kd.C_alloc ?_ _) | (with_reducible refine Kd.C_drewN ?_ _) | (with_reducible refine Kd.C_drew ?_))); (case side4 => exact HC352_0.out); rintro e w' ⟨rfl, ⟨nd, rfl⟩⟩; (try first | exact ⟨rfl, _, World.drewN_drewN _ _ _⟩ | exact ⟨rfl, _, Eq.trans (World.drewN_drewN _ _ _) (congrArg (World.drewN _) (Nat.add_assoc _ _ _))⟩))))
    go_ret
    exact ⟨by first | rfl | (simp; done) | (simp [*]; done), by repeat (first | exact Drawn0.refl _ | apply Drawn0.step)⟩
   subst c8
   have H1 : (hypercubelaw10_same.l0 k1 l0 l1 (wrap64 (x5_1 + 1))) = some r := by rw [if_pos rfl] at H; exact H
   clear H
   have H := H1
   clear H1
   have H' := Aside0.mk H
   clear H
   have p351 : 0 ≤ (x5_1 : Int) := od_
   have q351 : x5_1 < (l0.length : Int) := od_
   obtain ⟨ad351, A351_0, c351_0, e351, hx351_0, hl351_0, hi351_0⟩ := at_L1 HR0.out x5_1 p351 q351
   cases e351
   have HR351_0 := Aside0.mk hi351_0
   have HC351_0 := Aside0.mk hl351_0
   clear hi351_0 hl351_0
   replace p351 := eq_true p351
   replace q351 := eq_true q351
   have p352 : 0 ≤ (x5_1 : Int) := od_
   have q352 : x5_1 < (l1.length : Int) := od_
   obtain ⟨ad352, A352_0, c352_0, e352, hx352_0, hl352_0, hi352_0⟩ := at_L1 HR1.out x5_1 p352 q352
   cases e352
   have HR352_0 := Aside0.mk hi352_0
   have HC352_0 := Aside0.mk hl352_0
   clear hi352_0 hl352_0
   replace p352 := eq_true p352
   replace q352 := eq_true q352
   go_wp2_with (first | (go_at_call 33; (with_reducible refine (hypercuberef1_Ints.calls k1 _ _ (rd_L1 l0 x5_1) _ _ (rd_L1 l1 x5_1) true _ ?side1 ?side2 ?side3 ?side4 A7.out).mono ?_); (case side1 => repeat (first | exact HR351_0.out | (with_reducible refine Kd.C_alloc ?_ _) | (with_reducible refine Kd.C_drewN ?_ _) | (with_reducible refine Kd.C_drew ?_))); (case side2 => exact HC351_0.out); (case side3 => repeat (first | exact HR352_0.out | (with_reducible refine Kd.C_alloc ?_ _) | (with_reducible refine Kd.C_drewN ?_ _) | (with_reducible refine Kd.C_drew ?_))); (case side4 => exact HC352_0.out); rintro e w' ⟨rfl, ⟨nd, rfl⟩⟩; (try first | exact ⟨rfl, _, World.drewN_drewN _ _ _⟩ | exact ⟨rfl, _, Eq.trans (World.drewN_drewN _ _ _) (congrArg (World.drewN _) (Nat.add_assoc _ _ _))⟩)))
   repeat (go_quiet (first | (go_at_call 33; (with_reducible refine (hypercuberef1_Ints.calls k1 _ _ (rd_L1 l0 x5_1) _ _ (rd_L1 l1 x5_1) true _ ?side1 ?side2 ?side3 ?side4 A7.out).mono ?_); (case side1 => repeat (first | exact HR351_0.out | (with_reducible refine Kd.C_alloc ?_ _) | (with_reducible refine Kd.C_drewN ?_ _) | (with_reducible refine Kd.C_drew ?_))); (case side2 => exact HC351_0.out); (case side3 => repeat (first | exact HR352_0.out | (with_reducible refine Kd.C_alloc ?_ _) | (with_reducible refine Kd.C_drewN ?_ _) | (with_reducible refine Kd.C_drew ?_))); (case side4 => exact HC352_0.out); rintro e w' ⟨rfl, ⟨nd, rfl⟩⟩; (try first | exact ⟨rfl, _, World.drewN_drewN _ _ _⟩ | exact ⟨rfl, _, Eq.trans (World.drewN_drewN _ _ _) (congrArg (World.drewN _) (Nat.add_assoc _ _ _))⟩))); try go_wp2_with (first | (go_at_call 33; (with_reducible refine (hypercuberef1_Ints.calls k1 _ _ (rd_L1 l0 x5_1) _ _ (rd_L1 l1 x5_1) true _ ?side1 ?side2 ?side3 ?side4 A7.out).mono ?_); (case side1 => repeat (first | exact HR351_0.out | (with_reducible refine Kd.C_alloc ?_ _) | (with_reducible refine Kd.C_drewN ?_ _) | (with_reducible refine Kd.C_drew ?_))); (case side2 => exact HC351_0.out); (case side3 => repeat (first | exact HR352_0.out | (with_reducible refine Kd.C_alloc ?_ _) | (with_reducible refine Kd.C_drewN ?_ _) | (with_reducible refine Kd.C_drew ?_))); (case side4 => exact HC352_0.out); rintro e w' ⟨rfl, ⟨nd, rfl⟩⟩; (try first | exact ⟨rfl, _, World.drewN_drewN _ _ _⟩ | exact ⟨rfl, _, Eq.trans (World.drewN_drewN _ _ _) (congrArg (World.drewN _) (Nat.add_assoc _ _ _))⟩))))
   go_roundg k1
   case measure => have := HK1.out; omega
   case rel => exact ⟨(wrap64 (x5_1 + 1)), (by first | rfl | (simp; done) | (simp [*]; done)), H', ⟨by have := HK1.out; omega⟩, by repeat (first | exact Drawn0.refl _ | apply Drawn0.step)⟩
mutual
def hypercuberef10_order.l0 : Nat → List (S49) → Int → Int → Option (List Int)
 | 0, _, _, _ => none
 | k + 1, x0, x1, x5 => if x5 < (x0.length : Int) then (if 0 ≤ x5 then (if (rd_T49 x0 x5).f2 = true then (hypercuberef10_order.j1 k x0 x1 x5 (((rd_T49 x0 x5).f1) == x1)) else (hypercuberef10_order.j1 k x0 x1 x5 false)) else (none)) else (hypercuberef10_order.l2 k x1 ([] : List Int) 0)
def hypercuberef10_order.j1 : Nat → List (S49) → Int → Int → Bool → Option (List Int)
 | 0, _, _, _, _ => none
 | k + 1, x0, x1, x5, x30 => if x30 = true then (if 0 ≤ x5 then (if x5 < (x0.length : Int) then ((hypercuberef10_order.f k x0 ((rd_T49 x0 x5).f0)).bind fun t357 => (hypercuberef10_order.l1 k t357 (Go.bits .andNot .i64 x1 ((rd_T49 x0 x5).f0)) 0)) else (none)) else (none)) else (hypercuberef10_order.l0 k x0 x1 (wrap64 (x5 + 1)))
def hypercuberef10_order.l1 : Nat → List Int → Int → Int → Option (List Int)
 | 0, _, _, _ => none
 | k + 1, x6, x7, x8 => if x8 < 4 then (if 0 ≤ (IntKind.u64.wrap (x8)) then (if (Go.bits .and .i64 (shr .i64 x7 (IntKind.u64.wrap (x8))) 1) = 1 then (if x6.length < 17592186044416 then (hypercuberef10_order.l1 k (x6 ++ [x8]) x7 (wrap64 (x8 + 1))) else (none)) else (hypercuberef10_order.l1 k x6 x7 (wrap64 (x8 + 1)))) else (none)) else (some x6)
def hypercuberef10_order.l2 : Nat → Int → List Int → Int → Option (List Int)
 | 0, _, _, _ => none
 | k + 1, x1, x9, x10 => if x10 < 4 then (if 0 ≤ (IntKind.u64.wrap (x10)) then (if (Go.bits .and .i64 (shr .i64 x1 (IntKind.u64.wrap (x10))) 1) = 1 then (if x9.length < 17592186044416 then (hypercuberef10_order.l2 k x1 (x9 ++ [x10]) (wrap64 (x10 + 1))) else (none)) else (hypercuberef10_order.l2 k x1 x9 (wrap64 (x10 + 1)))) else (none)) else (some x9)
def hypercuberef10_order.f : Nat → List (S49) → Int → Option (List Int)
 | 0, _, _ => none
 | k + 1, l0, a1 => hypercuberef10_order.l0 k l0 a1 0
end
theorem hypercuberef10_order.mono_l : ∀ k, (∀ y0 y1, LeO (hypercuberef10_order.f k y0 y1) (hypercuberef10_order.f (k + 1) y0 y1)) ∧ (∀ y0 y1 y2, LeO (hypercuberef10_order.l0 k y0 y1 y2) (hypercuberef10_order.l0 (k + 1) y0 y1 y2)) ∧ (∀ y0 y1 y2 y3, LeO (hypercuberef10_order.j1 k y0 y1 y2 y3) (hypercuberef10_order.j1 (k + 1) y0 y1 y2 y3)) ∧ (∀ y0 y1 y2, LeO (hypercuberef10_order.l1 k y0 y1 y2) (hypercuberef10_order.l1 (k + 1) y0 y1 y2)) ∧ (∀ y0 y1 y2, LeO (hypercuberef10_order.l2 k y0 y1 y2) (hypercuberef10_order.l2 (k + 1) y0 y1 y2))
 | 0 => ⟨fun _ _ r h => by simp [hypercuberef10_order.f] at h, fun _ _ _ r h => by simp [hypercuberef10_order.l0] at h, fun _ _ _ _ r h => by simp [hypercuberef10_order.j1] at h, fun _ _ _ r h => by simp [hypercuberef10_order.l1] at h, fun _ _ _ r h => by simp [hypercuberef10_order.l2] at h⟩
 | k + 1 => by
  obtain ⟨ih0, ih1, ih2, ih3, ih4⟩ := hypercuberef10_order.mono_l k
  refine ⟨?_, ?_, ?_, ?_, ?_⟩
  ·intro y0 y1
   unfold hypercuberef10_order.f
   repeat' first
   | (with_reducible exact LeO.refl _)
   | exact ih0 _ _
   | exact ih1 _ _ _
   | exact ih2 _ _ _ _
   | exact ih3 _ _ _
   | exact ih4 _ _ _
   | exact LeO.none _
   | refine LeO.ite ?_ ?_
   | refine LeO.bind ?_ (fun _ => ?_)
  ·intro y0 y1 y2
   unfold hypercuberef10_order.l0
   repeat' first
   | (with_reducible exact LeO.refl _)
   | exact ih0 _ _
   | exact ih1 _ _ _
   | exact ih2 _ _ _ _
   | exact ih3 _ _ _
   | exact ih4 _ _ _
   | exact LeO.none _
   | refine LeO.ite ?_ ?_
   | refine LeO.bind ?_ (fun _ => ?_)
  ·intro y0 y1 y2 y3
   unfold hypercuberef10_order.j1
   repeat' first
   | (with_reducible exact LeO.refl _)
   | exact ih0 _ _
   | exact ih1 _ _ _
   | exact ih2 _ _ _ _
   | exact ih3 _ _ _
   | exact ih4 _ _ _
   | exact LeO.none _
   | refine LeO.ite ?_ ?_
   | refine LeO.bind ?_ (fun _ => ?_)
  ·intro y0 y1 y2
   unfold hypercuberef10_order.l1
   repeat' first
   | (with_reducible exact LeO.refl _)
   | exact ih0 _ _
   | exact ih1 _ _ _
   | exact ih2 _ _ _ _
   | exact ih3 _ _ _
   | exact ih4 _ _ _
   | exact LeO.none _
   | refine LeO.ite ?_ ?_
   | refine LeO.bind ?_ (fun _ => ?_)
  intro y0 y1 y2
  unfold hypercuberef10_order.l2
  repeat' first
  | (with_reducible exact LeO.refl _)
  | exact ih0 _ _
  | exact ih1 _ _ _
  | exact ih2 _ _ _ _
  | exact ih3 _ _ _
  | exact ih4 _ _ _
  | exact LeO.none _
  | refine LeO.ite ?_ ?_
  | refine LeO.bind ?_ (fun _ => ?_)
set_option maxHeartbeats 8000000 in
set_option maxRecDepth 100000 in
theorem hypercuberef10_order.calls (k : Nat) : ∀ (A0 : Option Addr) (c0 : Nat) (l0 : List (S49)) (a1 : Int) (r : List Int) (w : World) (hr0 : Kd.C k49 w A0 l0.length l0) (hc0 : l0.length ≤ c0) (h : hypercuberef10_order.f k l0 a1 = some r),
 Calls Try.prog 86 #[.slice A0 l0.length c0, .int .i64 a1] w fun e w' => ∃ v0_ : Value, e = .returned (v0_) ∧ Kd.R (Kd.int .i64) 3 w' w.heap.size (fun _ => True) v0_ r ∧ Below w.heap.size w w' := by
 induction k using Nat.strongRecOn with
 | _ k ih =>
 intro A0 c0 l0 a1 r w hr0 hc0 h
 cases k with
 | zero => exact absurd h (by simp [hypercuberef10_order.f])
 | succ k =>
 simp only [hypercuberef10_order.f] at h
 have HR0 := Aside0.mk hr0
 have HC0 := Aside0.mk hc0
 clear hr0 hc0
 have HB := Aside0.mk (Below.refl w.heap.size w)
 have H : (hypercuberef10_order.l0 k l0 a1 0) = some r := h
 clear h
 have H' := Aside0.mk H
 clear H
 go_enter Try.func86, Try.ntmps86
 go_wp2
 go_loopg [5] k (fun kq v5 w' => ∃ (x5_1 : Int), v5 = .int .i64 x5_1 ∧ Aside0 (hypercuberef10_order.l0 kq l0 a1 x5_1 = some r) ∧ Aside0 (kq ≤ k) ∧ Aside0 (Below w.heap.size w w'))
 case atStart => exact ⟨(0), (by first | rfl | (simp; done) | (simp [*]; done)), H', ⟨Nat.le_refl _⟩, ⟨by repeat (first | (with_reducible first | exact HB.out | apply below_alloc | apply pw_below_drewN | apply below_drew1) | exact HB.out)⟩⟩
 case round =>
  clear H'
  obtain ⟨x5_1, rfl, HA, HK1, HB⟩ := hrel
  cases gk with
  | zero => exact absurd HA.out (by simp [hypercuberef10_order.l0])
  | succ k1 =>
   have H := HA.out
   clear HA
   simp only [hypercuberef10_order.l0] at H
   by_cases c3 : x5_1 < (l0.length : Int)
   rotate_left
   ·rw [if_neg c3] at H
    have c3b0 : decide (x5_1 < (l0.length : Int)) = false := decide_eq_false c3
    clear c3
    have H' := Aside0.mk H
    clear H
    go_wp2
    go_loopg [9, 10] k1 (fun kq v9 v10 w' => ∃ (x9_2 : List Int) (x10_2 : Int), v10 = .int .i64 x10_2 ∧ Aside0 (hypercuberef10_order.l2 kq a1 x9_2 x10_2 = some r) ∧ Aside0 (kq ≤ k1) ∧ Aside0 (Kd.R (Kd.int .i64) 3 w' w.heap.size (fun _ => True) v9 x9_2) ∧ Aside0 (Below w.heap.size w w'))
    case atStart => exact ⟨(([] : List Int)), (0), (by first | rfl | (simp; done) | (simp [*]; done)), H', ⟨Nat.le_refl _⟩, ⟨by first | exact Kd.R_nil _ _ _ _ _ | exact Kd.N_nil _ _ _ _ _ | exact Kd.V_nil _ _ _ _ _ | exact Kd.Q_nil _ _ _ _ _ | exact Kd.S_nil _ _ _ _ _⟩, ⟨by repeat (first | (with_reducible first | exact HB.out | apply below_alloc | apply pw_below_drewN | apply below_drew1) | exact HB.out)⟩⟩
    case round =>
     clear H'
     obtain ⟨x9_2, x10_2, rfl, HA, HK2, HO_9, HB⟩ := hrel
     cases gk with
     | zero => exact absurd HA.out (by simp [hypercuberef10_order.l2])
     | succ k2 =>
      have H := HA.out
      clear HA
      simp only [hypercuberef10_order.l2] at H
      by_cases c20 : x10_2 < 4
      rotate_left
      ·rw [if_neg c20] at H
       have c20b0 : decide (x10_2 < 4) = false := decide_eq_false c20
       clear c20
       obtain rfl := Option.some.inj H
       go_wp2
       go_ret
       exact ⟨_, by first | rfl | (simp [errW_none, errW_some] <;> rfl) | (simp [*, errW_none, errW_some] <;> rfl), by (with_reducible repeat (first | apply Kd.R_alloc | apply Kd.R_drewN | apply Kd.R_drew)); exact HO_9.out, by repeat (first | (with_reducible first | exact HB.out | apply below_alloc | apply pw_below_drewN | apply below_drew1) | exact HB.out)⟩
      rw [if_pos c20] at H
      have c20b0 : decide (x10_2 < 4) = true := decide_eq_true c20
      clear c20
      obtain ⟨ji21, hji21⟩ : ∃ j_ : Int, (IntKind.u64.wrap (x10_2)) = j_ := ⟨_, rfl⟩
      replace H : (if 0 ≤ (ji21) then (if (Go.bits .and .i64 (shr .i64 a1 (ji21)) 1) = 1 then (if x9_2.length < 17592186044416 then (hypercuberef10_order.l2 k2 a1 (x9_2 ++ [x10_2]) (wrap64 (x10_2 + 1))) else (none)) else (hypercuberef10_order.l2 k2 a1 x9_2 (wrap64 (x10_2 + 1)))) else (none)) = some r := by first | (rw [hji21] at H; exact H) | (simp only [hji21] at H ⊢; exact H)
      by_cases c22 : 0 ≤ (ji21)
      rotate_left
      ·rw [if_neg c22] at H
       exact absurd H (by simp)
      rw [if_pos c22] at H
      have c22b0 := eq_true c22
      have c22b1 : decide (0 ≤ (ji21)) = true := decide_eq_true c22
      clear c22
      obtain ⟨ji23, hji23⟩ : ∃ j_ : Int, (shr .i64 a1 (ji21)) = j_ := ⟨_, rfl⟩
      replace H : (if (Go.bits .and .i64 (ji23) 1) = 1 then (if x9_2.length < 17592186044416 then (hypercuberef10_order.l2 k2 a1 (x9_2 ++ [x10_2]) (wrap64 (x10_2 + 1))) else (none)) else (hypercuberef10_order.l2 k2 a1 x9_2 (wrap64 (x10_2 + 1)))) = some r := by first | (rw [hji23] at H; exact H) | (simp only [hji23] at H ⊢; exact H)
      have hji23_ : (a1 / 2 ^ min (ji21).toNat 64) = ji23 := hji23
      have hji23z : (ji21) ≤ 64 → (a1 / 2 ^ (ji21).toNat) = ji23 := shr_small hji23
      by_cases c24 : (Go.bits .and .i64 (ji23) 1) = 1
      rotate_left
      ·rw [if_neg c24] at H
       have c24b0 : ((Go.bits .and .i64 (ji23) 1) == 1) = false := beq_eq_false_iff_ne.mpr c24
       have c24b1 : ((Go.bits .and .i64 (ji23) 1) != 1) = true := bne_iff_ne.mpr c24
       have H' := Aside0.mk H
       clear H
       go_wp2
       go_roundg k2
       case measure => have := HK1.out; have := HK2.out; omega
       case rel => exact ⟨(x9_2), (wrap64 (x10_2 + 1)), (by first | rfl | (simp; done) | (simp [*]; done)), H', ⟨by have := HK1.out; have := HK2.out; omega⟩, ⟨by (with_reducible repeat (first | apply Kd.R_alloc | apply Kd.R_drewN | apply Kd.R_drew)); exact HO_9.out⟩, ⟨by repeat (first | (with_reducible first | exact HB.out | apply below_alloc | apply pw_below_drewN | apply below_drew1) | exact HB.out)⟩⟩
      rw [if_pos c24] at H
      have c24b0 : ((Go.bits .and .i64 (ji23) 1) == 1) = true := beq_iff_eq.mpr c24
      have c24b1 : ((Go.bits .and .i64 (ji23) 1) != 1) = false := bne_eq_false_iff_eq.mpr c24
      clear c24
      by_cases c25 : x9_2.length < 17592186044416
      rotate_left
      ·rw [if_neg c25] at H
       exact absurd H (by simp)
      rw [if_pos c25] at H
      have LMc25 := Aside0.mk c25
      clear c25
      obtain ⟨y364, hy364⟩ : ∃ y_ : List Int, y_ = (x9_2 ++ [x10_2]) := ⟨_, rfl⟩
      replace H : (hypercuberef10_order.l2 k2 a1 y364 (wrap64 (x10_2 + 1))) = some r := by first | (rw [hy364]; with_reducible exact H) | (have H2_ := (Option.bind_some _ _).symm.trans H; rw [hy364]; with_reducible exact H2_) | (have H2_ := (Option.bind_some _ _).symm.trans H; with_reducible exact H2_) | with_reducible exact H | (rw [hy364]; exact H) | exact H
      have Ny364 := Aside0.mk hy364
      clear hy364
      have H' := Aside0.mk H
      clear H
      go_wp2_with (first | ((with_reducible refine gate_builtin (b := .append) (xs := #[.tmp 70, .tmp 72]) rfl ?_); at_builtin; refine Kd.R_append (Kd.int .i64) (w0 := w) w.heap.size rfl (.tmp 70) (.tmp 72) 24 3 (.int .i64 0) 8 rfl Try.underlying24 info3 rfl (by decide) (by omega) u9 x9_2 x10_2 [.int .i64 x10_2] (fun _ => True) (fun _ => False) rfl rfl ?aP (fun _ hk => hk.elim) ?aF ?aO ?aB ?aS ?aL ?_; (case aP => exact rfl); (case aB => exact (by repeat (first | (with_reducible first | exact HB.out | apply below_alloc | apply pw_below_drewN | apply below_drew1) | exact HB.out))); (case aF => exact (fun _ _ => trivial)); (case aO => exact (by (with_reducible repeat (first | apply Kd.R_alloc | apply Kd.R_drewN | apply Kd.R_drew)); exact HO_9.out)); (case aS => exact (below_size (by repeat (first | (with_reducible first | exact HB.out | apply below_alloc | apply pw_below_drewN | apply below_drew1) | exact HB.out)))); (case aL => have := LMc25.out; omega); intro v365 w26 ho hb hg hat; rw [← Ny364.out] at ho; have n0_ := Aside0.mk (hb); have n1_ := Aside0.mk (ho); clear HB; clear HO_9; have HB := n0_; have HO366 := n1_; clear n0_ n1_; clear ho hb hg hat))
      go_roundg k2
      case measure => have := HK1.out; have := HK2.out; omega
      case rel => exact ⟨(y364), (wrap64 (x10_2 + 1)), (by first | rfl | (simp; done) | (simp [*]; done)), H', ⟨by have := HK1.out; have := HK2.out; omega⟩, ⟨by (with_reducible repeat (first | apply Kd.R_alloc | apply Kd.R_drewN | apply Kd.R_drew)); exact HO366.out⟩, ⟨by repeat (first | (with_reducible first | exact HB.out | apply below_alloc | apply pw_below_drewN | apply below_drew1) | exact HB.out)⟩⟩
   rw [if_pos c3] at H
   have c3b0 : decide (x5_1 < (l0.length : Int)) = true := decide_eq_true c3
   clear c3
   have HC4 := Aside0.mk H
   clear H
   go_upto_region 4 with (fail)
   go_cut [30] (fun v30 wc => ∃ (kq : Nat) (x30_3 : Bool), v30 = .bool x30_3 ∧ Aside0 (hypercuberef10_order.j1 kq l0 a1 x5_1 x30_3 = some r) ∧ Aside0 (kq ≤ k1) ∧ Aside0 (Below w.heap.size w wc))
   case first =>
    have H := HC4.out
    clear HC4
    by_cases c5 : 0 ≤ x5_1
    rotate_left
    ·rw [if_neg c5] at H
     exact absurd H (by simp)
    rw [if_pos c5] at H
    have c5b0 : decide (0 ≤ x5_1) = true := decide_eq_true c5
    clear c5
    (first | rw [c5b0] | (simp only [i64_w, i32_w]; rw [c5b0]) | skip)
    obtain ⟨bq6, hbq6⟩ : ∃ b_ : Bool, b_ = ((rd_T49 l0 x5_1).f2) := ⟨_, rfl⟩
    replace H : (if bq6 = true then (hypercuberef10_order.j1 k1 l0 a1 x5_1 (((rd_T49 l0 x5_1).f1) == a1)) else (hypercuberef10_order.j1 k1 l0 a1 x5_1 false)) = some r := by rw [← hbq6] at H; exact H
    have Nbq6 := Aside0.mk hbq6
    clear hbq6
    by_cases c7 : bq6 = true
    rotate_left
    ·replace c7 := Bool.eq_false_iff.mpr c7
     subst c7
     have H1 : (hypercuberef10_order.j1 k1 l0 a1 x5_1 false) = some r := by rw [if_neg (show ¬ (false = true) by decide)] at H; exact H
     clear H
     have H := H1
     clear H1
     have H' := Aside0.mk H
     clear H
     have p354 : 0 ≤ (x5_1 : Int) := od_
     have q354 : x5_1 < (l0.length : Int) := od_
     obtain ⟨ad354, e354, hx354_0, hx354_1, hx354_2⟩ := at_T49 HR0.out x5_1 p354 q354
     (try rw [← Nbq6.out] at hx354_2)
     cases e354
     replace hx354_0 := (HB.out.cell (World.block_lt_of_cell? w _ hx354_0)).trans hx354_0
     replace hx354_1 := (HB.out.cell (World.block_lt_of_cell? w _ hx354_1)).trans hx354_1
     replace hx354_2 := (HB.out.cell (World.block_lt_of_cell? w _ hx354_2)).trans hx354_2
     replace p354 := eq_true p354
     replace q354 := eq_true q354
     go_wp2
     go_meet
     case rel => exact ⟨_, (false), (by first | rfl | (simp; done) | (simp [*]; done)), H', ⟨by have := HK1.out; first | omega | exact Nat.le_refl _⟩, ⟨by repeat (first | (with_reducible first | exact HB.out | apply below_alloc | apply pw_below_drewN | apply below_drew1) | exact HB.out)⟩⟩
    subst c7
    have H1 : (hypercuberef10_order.j1 k1 l0 a1 x5_1 (((rd_T49 l0 x5_1).f1) == a1)) = some r := by rw [if_pos rfl] at H; exact H
    clear H
    have H := H1
    clear H1
    have H' := Aside0.mk H
    clear H
    have p354 : 0 ≤ (x5_1 : Int) := od_
    have q354 : x5_1 < (l0.length : Int) := od_
    obtain ⟨ad354, e354, hx354_0, hx354_1, hx354_2⟩ := at_T49 HR0.out x5_1 p354 q354
    (try rw [← Nbq6.out] at hx354_2)
    cases e354
    replace hx354_0 := (HB.out.cell (World.block_lt_of_cell? w _ hx354_0)).trans hx354_0
    replace hx354_1 := (HB.out.cell (World.block_lt_of_cell? w _ hx354_1)).trans hx354_1
    replace hx354_2 := (HB.out.cell (World.block_lt_of_cell? w _ hx354_2)).trans hx354_2
    replace p354 := eq_true p354
    replace q354 := eq_true q354
    have p355 : 0 ≤ (x5_1 : Int) := od_
    have q355 : x5_1 < (l0.length : Int) := od_
    obtain ⟨ad355, e355, hx355_0, hx355_1, hx355_2⟩ := at_T49 HR0.out x5_1 p355 q355
    (try rw [← Nbq6.out] at hx355_2)
    obtain rfl : ad354 = ad355 := (by injection e355)
    replace hx355_0 := (HB.out.cell (World.block_lt_of_cell? w _ hx355_0)).trans hx355_0
    replace hx355_1 := (HB.out.cell (World.block_lt_of_cell? w _ hx355_1)).trans hx355_1
    replace hx355_2 := (HB.out.cell (World.block_lt_of_cell? w _ hx355_2)).trans hx355_2
    replace p355 := eq_true p355
    replace q355 := eq_true q355
    go_wp2
    go_meet
    case rel => exact ⟨_, ((((rd_T49 l0 x5_1).f1) == a1)), (by first | rfl | (simp; done) | (simp [*]; done)), H', ⟨by have := HK1.out; first | omega | exact Nat.le_refl _⟩, ⟨by repeat (first | (with_reducible first | exact HB.out | apply below_alloc | apply pw_below_drewN | apply below_drew1) | exact HB.out)⟩⟩
   case rest =>
    clear HC4
    obtain ⟨kq, x30_3, rfl, HA, HJ3, HB⟩ := hcut
    cases kq with
    | zero => exact absurd HA.out (by simp [hypercuberef10_order.j1])
    | succ kj3 =>
     have H := HA.out
     clear HA
     simp only [hypercuberef10_order.j1] at H
     by_cases c8 : x30_3 = true
     rotate_left
     ·replace c8 := Bool.eq_false_iff.mpr c8
      subst c8
      have H1 : (hypercuberef10_order.l0 kj3 l0 a1 (wrap64 (x5_1 + 1))) = some r := by rw [if_neg (show ¬ (false = true) by decide)] at H; exact H
      clear H
      have H := H1
      clear H1
      have H' := Aside0.mk H
      clear H
      go_wp2
      go_roundg kj3
      case measure => have := HK1.out; have := HJ3.out; omega
      case rel => exact ⟨(wrap64 (x5_1 + 1)), (by first | rfl | (simp; done) | (simp [*]; done)), H', ⟨by have := HK1.out; have := HJ3.out; omega⟩, ⟨by repeat (first | (with_reducible first | exact HB.out | apply below_alloc | apply pw_below_drewN | apply below_drew1) | exact HB.out)⟩⟩
     subst c8
     have H1 : (if 0 ≤ x5_1 then (if x5_1 < (l0.length : Int) then ((hypercuberef10_order.f kj3 l0 ((rd_T49 l0 x5_1).f0)).bind fun t357 => (hypercuberef10_order.l1 kj3 t357 (Go.bits .andNot .i64 a1 ((rd_T49 l0 x5_1).f0)) 0)) else (none)) else (none)) = some r := by rw [if_pos rfl] at H; exact H
     clear H
     have H := H1
     clear H1
     by_cases c9 : 0 ≤ x5_1
     rotate_left
     ·rw [if_neg c9] at H
      exact absurd H (by simp)
     rw [if_pos c9] at H
     have c9b0 : decide (0 ≤ x5_1) = true := decide_eq_true c9
     clear c9
     by_cases c10 : x5_1 < (l0.length : Int)
     rotate_left
     ·rw [if_neg c10] at H
      exact absurd H (by simp)
     rw [if_pos c10] at H
     have c10b0 : decide (x5_1 < (l0.length : Int)) = true := decide_eq_true c10
     clear c10
     replace H := Option.bind_eq_some_iff.mp H
     obtain ⟨t357, A110, H⟩ := H
     replace H : (hypercuberef10_order.l1 kj3 t357 (Go.bits .andNot .i64 a1 ((rd_T49 l0 x5_1).f0)) 0) = some r := H
     have A11 := Aside0.mk A110
     clear A110
     have H' := Aside0.mk H
     clear H
     have p356 : 0 ≤ (x5_1 : Int) := od_
     have q356 : x5_1 < (l0.length : Int) := od_
     obtain ⟨ad356, e356, hx356_0, hx356_1, hx356_2⟩ := at_T49 HR0.out x5_1 p356 q356
     cases e356
     replace hx356_0 := (HB.out.cell (World.block_lt_of_cell? w _ hx356_0)).trans hx356_0
     replace hx356_1 := (HB.out.cell (World.block_lt_of_cell? w _ hx356_1)).trans hx356_1
     replace hx356_2 := (HB.out.cell (World.block_lt_of_cell? w _ hx356_2)).trans hx356_2
     replace p356 := eq_true p356
     replace q356 := eq_true q356
     go_wp2_with (first | ((with_reducible refine gate_callee (f := 86) rfl ?_); refine goesL_ (some 37) rfl rfl Try.func86 (by kernel_rfl) rfl #[.slice (some ad356) l0.length c0, .int .i64 ((rd_T49 l0 x5_1).f0)] rfl (by (try simp only [List.map_toArray, List.map_cons, List.map_nil]); first | done | rfl | (simp only [List.length_drop, List.length_take]; rfl)) ?_; (with_reducible refine (ih kj3 (by have := HK1.out; have := HJ3.out; omega) _ _ l0 ((rd_T49 l0 x5_1).f0) t357 _ ?side1 ?side2 A11.out).mono ?_); (case side1 => repeat (first | exact (Kd.C_below HR0.out HB.out) | (with_reducible refine Kd.C_alloc ?_ _) | (with_reducible refine Kd.C_drewN ?_ _) | (with_reducible refine Kd.C_drew ?_))); (case side2 => exact HC0.out); rintro e w12 ⟨v358, rfl, ho0, hb⟩; refine ⟨_, rfl, ?_⟩; have n0_ := Aside0.mk (Kd.R_lower ho0 (below_size (by repeat (first | (with_reducible first | exact HB.out | apply below_alloc | apply pw_below_drewN | apply below_drew1) | exact HB.out)))); have n1_ := Aside0.mk (below_step (by repeat (first | (with_reducible first | exact HB.out | apply below_alloc | apply pw_below_drewN | apply below_drew1) | exact HB.out)) hb); clear HB; have HO359 := n0_; have HB := n1_; clear n0_ n1_; (try clear hb); (try clear hb2); (try clear hk); (try clear hi); (try clear ho0); have p360 : 0 ≤ (x5_1 : Int) := of_decide_eq_true (by first | (with_reducible assumption) | assumption); have q360 : x5_1 < (l0.length : Int) := of_decide_eq_true (by first | (with_reducible assumption) | assumption); obtain ⟨ad360, e360, hx360_0, hx360_1, hx360_2⟩ := at_T49 HR0.out x5_1 p360 q360; obtain rfl : ad356 = ad360 := (by injection e360); replace hx360_0 := (HB.out.cell (World.block_lt_of_cell? w _ hx360_0)).trans hx360_0; replace hx360_1 := (HB.out.cell (World.block_lt_of_cell? w _ hx360_1)).trans hx360_1; replace hx360_2 := (HB.out.cell (World.block_lt_of_cell? w _ hx360_2)).trans hx360_2; replace p360 := eq_true p360; replace q360 := eq_true q360))
     go_loopg [6, 8] kj3 (fun kq v6 v8 w' => ∃ (x6_3 : List Int) (x8_3 : Int), v8 = .int .i64 x8_3 ∧ Aside0 (hypercuberef10_order.l1 kq x6_3 (Go.bits .andNot .i64 a1 ((rd_T49 l0 x5_1).f0)) x8_3 = some r) ∧ Aside0 (kq ≤ kj3) ∧ Aside0 (Kd.R (Kd.int .i64) 3 w' w.heap.size (fun _ => True) v6 x6_3) ∧ Aside0 (Below w.heap.size w w'))
     case atStart => exact ⟨(t357), (0), (by first | rfl | (simp; done) | (simp [*]; done)), H', ⟨Nat.le_refl _⟩, ⟨by (with_reducible repeat (first | apply Kd.R_alloc | apply Kd.R_drewN | apply Kd.R_drew)); exact HO359.out⟩, ⟨by repeat (first | (with_reducible first | exact HB.out | apply below_alloc | apply pw_below_drewN | apply below_drew1) | exact HB.out)⟩⟩
     case round =>
      clear H'
      obtain ⟨x6_3, x8_3, rfl, HA, HK3, HO_6, HB⟩ := hrel
      cases gk with
      | zero => exact absurd HA.out (by simp [hypercuberef10_order.l1])
      | succ k3 =>
       have H := HA.out
       clear HA
       simp only [hypercuberef10_order.l1] at H
       by_cases c13 : x8_3 < 4
       rotate_left
       ·rw [if_neg c13] at H
        have c13b0 : decide (x8_3 < 4) = false := decide_eq_false c13
        clear c13
        obtain rfl := Option.some.inj H
        go_wp2
        go_ret
        exact ⟨_, by first | rfl | (simp [errW_none, errW_some] <;> rfl) | (simp [*, errW_none, errW_some] <;> rfl), by (with_reducible repeat (first | apply Kd.R_alloc | apply Kd.R_drewN | apply Kd.R_drew)); exact HO_6.out, by repeat (first | (with_reducible first | exact HB.out | apply below_alloc | apply pw_below_drewN | apply below_drew1) | exact HB.out)⟩
       rw [if_pos c13] at H
       have c13b0 : decide (x8_3 < 4) = true := decide_eq_true c13
       clear c13
       obtain ⟨ji14, hji14⟩ : ∃ j_ : Int, (IntKind.u64.wrap (x8_3)) = j_ := ⟨_, rfl⟩
       replace H : (if 0 ≤ (ji14) then (if (Go.bits .and .i64 (shr .i64 (Go.bits .andNot .i64 a1 ((rd_T49 l0 x5_1).f0)) (ji14)) 1) = 1 then (if x6_3.length < 17592186044416 then (hypercuberef10_order.l1 k3 (x6_3 ++ [x8_3]) (Go.bits .andNot .i64 a1 ((rd_T49 l0 x5_1).f0)) (wrap64 (x8_3 + 1))) else (none)) else (hypercuberef10_order.l1 k3 x6_3 (Go.bits .andNot .i64 a1 ((rd_T49 l0 x5_1).f0)) (wrap64 (x8_3 + 1)))) else (none)) = some r := by first | (rw [hji14] at H; exact H) | (simp only [hji14] at H ⊢; exact H)
       by_cases c15 : 0 ≤ (ji14)
       rotate_left
       ·rw [if_neg c15] at H
        exact absurd H (by simp)
       rw [if_pos c15] at H
       have c15b0 := eq_true c15
       have c15b1 : decide (0 ≤ (ji14)) = true := decide_eq_true c15
       clear c15
       obtain ⟨ji16, hji16⟩ : ∃ j_ : Int, (shr .i64 (Go.bits .andNot .i64 a1 ((rd_T49 l0 x5_1).f0)) (ji14)) = j_ := ⟨_, rfl⟩
       replace H : (if (Go.bits .and .i64 (ji16) 1) = 1 then (if x6_3.length < 17592186044416 then (hypercuberef10_order.l1 k3 (x6_3 ++ [x8_3]) (Go.bits .andNot .i64 a1 ((rd_T49 l0 x5_1).f0)) (wrap64 (x8_3 + 1))) else (none)) else (hypercuberef10_order.l1 k3 x6_3 (Go.bits .andNot .i64 a1 ((rd_T49 l0 x5_1).f0)) (wrap64 (x8_3 + 1)))) = some r := by first | (rw [hji16] at H; exact H) | (simp only [hji16] at H ⊢; exact H)
       have hji16_ : ((Go.bits .andNot .i64 a1 ((rd_T49 l0 x5_1).f0)) / 2 ^ min (ji14).toNat 64) = ji16 := hji16
       have hji16z : (ji14) ≤ 64 → ((Go.bits .andNot .i64 a1 ((rd_T49 l0 x5_1).f0)) / 2 ^ (ji14).toNat) = ji16 := shr_small hji16
       by_cases c17 : (Go.bits .and .i64 (ji16) 1) = 1
       rotate_left
       ·rw [if_neg c17] at H
        have c17b0 : ((Go.bits .and .i64 (ji16) 1) == 1) = false := beq_eq_false_iff_ne.mpr c17
        have c17b1 : ((Go.bits .and .i64 (ji16) 1) != 1) = true := bne_iff_ne.mpr c17
        have H' := Aside0.mk H
        clear H
        go_wp2
        go_roundg k3
        case measure => have := HK1.out; have := HJ3.out; have := HK3.out; omega
        case rel => exact ⟨(x6_3), (wrap64 (x8_3 + 1)), (by first | rfl | (simp; done) | (simp [*]; done)), H', ⟨by have := HK1.out; have := HJ3.out; have := HK3.out; omega⟩, ⟨by (with_reducible repeat (first | apply Kd.R_alloc | apply Kd.R_drewN | apply Kd.R_drew)); exact HO_6.out⟩, ⟨by repeat (first | (with_reducible first | exact HB.out | apply below_alloc | apply pw_below_drewN | apply below_drew1) | exact HB.out)⟩⟩
       rw [if_pos c17] at H
       have c17b0 : ((Go.bits .and .i64 (ji16) 1) == 1) = true := beq_iff_eq.mpr c17
       have c17b1 : ((Go.bits .and .i64 (ji16) 1) != 1) = false := bne_eq_false_iff_eq.mpr c17
       clear c17
       by_cases c18 : x6_3.length < 17592186044416
       rotate_left
       ·rw [if_neg c18] at H
        exact absurd H (by simp)
       rw [if_pos c18] at H
       have LMc18 := Aside0.mk c18
       clear c18
       obtain ⟨y361, hy361⟩ : ∃ y_ : List Int, y_ = (x6_3 ++ [x8_3]) := ⟨_, rfl⟩
       replace H : (hypercuberef10_order.l1 k3 y361 (Go.bits .andNot .i64 a1 ((rd_T49 l0 x5_1).f0)) (wrap64 (x8_3 + 1))) = some r := by first | (rw [hy361]; with_reducible exact H) | (have H2_ := (Option.bind_some _ _).symm.trans H; rw [hy361]; with_reducible exact H2_) | (have H2_ := (Option.bind_some _ _).symm.trans H; with_reducible exact H2_) | with_reducible exact H | (rw [hy361]; exact H) | exact H
       have Ny361 := Aside0.mk hy361
       clear hy361
       have H' := Aside0.mk H
       clear H
       go_wp2_with (first | ((with_reducible refine gate_builtin (b := .append) (xs := #[.tmp 55, .tmp 57]) rfl ?_); at_builtin; refine Kd.R_append (Kd.int .i64) (w0 := w) w.heap.size rfl (.tmp 55) (.tmp 57) 24 3 (.int .i64 0) 8 rfl Try.underlying24 info3 rfl (by decide) (by omega) u6 x6_3 x8_3 [.int .i64 x8_3] (fun _ => True) (fun _ => False) rfl rfl ?aP (fun _ hk => hk.elim) ?aF ?aO ?aB ?aS ?aL ?_; (case aP => exact rfl); (case aB => exact (by repeat (first | (with_reducible first | exact HB.out | apply below_alloc | apply pw_below_drewN | apply below_drew1) | exact HB.out))); (case aF => exact (fun _ _ => trivial)); (case aO => exact (by (with_reducible repeat (first | apply Kd.R_alloc | apply Kd.R_drewN | apply Kd.R_drew)); exact HO_6.out)); (case aS => exact (below_size (by repeat (first | (with_reducible first | exact HB.out | apply below_alloc | apply pw_below_drewN | apply below_drew1) | exact HB.out)))); (case aL => have := LMc18.out; omega); intro v362 w19 ho hb hg hat; rw [← Ny361.out] at ho; have n0_ := Aside0.mk (hb); have n1_ := Aside0.mk (ho); clear HB; clear HO_6; have HB := n0_; have HO363 := n1_; clear n0_ n1_; clear ho hb hg hat))
       go_roundg k3
       case measure => have := HK1.out; have := HJ3.out; have := HK3.out; omega
       case rel => exact ⟨(y361), (wrap64 (x8_3 + 1)), (by first | rfl | (simp; done) | (simp [*]; done)), H', ⟨by have := HK1.out; have := HJ3.out; have := HK3.out; omega⟩, ⟨by (with_reducible repeat (first | apply Kd.R_alloc | apply Kd.R_drewN | apply Kd.R_drew)); exact HO363.out⟩, ⟨by repeat (first | (with_reducible first | exact HB.out | apply below_alloc | apply pw_below_drewN | apply below_drew1) | exact HB.out)⟩⟩
def hypercuberef10_Orders.l0 : Nat → List (S49) → Int → List (List Int) → Int → Option ((List (List Int)))
 | 0, _, _, _, _ => none
 | k + 1, x0, x1, x5, x6 => if x6 < (x0.length : Int) then (if x1 > 0 then (if 0 ≤ x6 then ((hypercuberef10_order.f k x0 ((rd_T49 x0 x6).f0)).bind fun t368 => (if x5.length < 5864062014805 then (hypercuberef10_Orders.l0 k x0 x1 (x5 ++ [t368]) (wrap64 (x6 + 1))) else (none))) else (none)) else (some x5)) else (some x5)
def hypercuberef10_Orders.f (k : Nat) (l0 : List (S49)) (a1 : Int) : Option ((List (List Int))) := hypercuberef10_Orders.l0 k l0 a1 ([] : List (List Int)) 0
set_option maxHeartbeats 8000000 in
set_option maxRecDepth 100000 in
theorem hypercuberef10_Orders.calls (k : Nat) (A0 : Option Addr) (c0 : Nat) (l0 : List (S49)) (a1 : Int) (r : List (List Int)) (w : World) (hr0 : Kd.C k49 w A0 l0.length l0) (hc0 : l0.length ≤ c0) (h : hypercuberef10_Orders.f k l0 a1 = some r) :
 Calls Try.prog 59 #[.slice A0 l0.length c0, .int .i64 a1] w fun e w' => ∃ v0_ : Value, e = .returned (v0_) ∧ Kd.S (Kd.slice 3 (Kd.int .i64)) 24 w' w.heap.size (fun _ => True) v0_ r ∧ Below w.heap.size w w' := by
 have HR0 := Aside0.mk hr0
 have HC0 := Aside0.mk hc0
 clear hr0 hc0
 have HB := Aside0.mk (Below.refl w.heap.size w)
 have H : (hypercuberef10_Orders.l0 k l0 a1 ([] : List (List Int)) 0) = some r := h
 clear h
 have H' := Aside0.mk H
 clear H
 go_enter Try.func59, Try.ntmps59
 go_wp2
 go_loopg [5, 6] k (fun kq v5 v6 w' => ∃ (x5_1 : List (List Int)) (x6_1 : Int), v6 = .int .i64 x6_1 ∧ Aside0 (hypercuberef10_Orders.l0 kq l0 a1 x5_1 x6_1 = some r) ∧ Aside0 (kq ≤ k) ∧ Aside0 (Kd.S (Kd.slice 3 (Kd.int .i64)) 24 w' w.heap.size (fun _ => True) v5 x5_1) ∧ Aside0 (Below w.heap.size w w'))
 case atStart => exact ⟨(([] : List (List Int))), (0), (by first | rfl | (simp; done) | (simp [*]; done)), H', ⟨Nat.le_refl _⟩, ⟨by first | exact Kd.S_nil _ _ _ _ _ | exact Kd.N_nil _ _ _ _ _ | exact Kd.V_nil _ _ _ _ _ | exact Kd.Q_nil _ _ _ _ _ | exact Kd.R_nil _ _ _ _ _⟩, ⟨by repeat (first | (with_reducible first | exact HB.out | apply below_alloc | apply pw_below_drewN | apply below_drew1) | exact HB.out)⟩⟩
 case round =>
  clear H'
  obtain ⟨x5_1, x6_1, rfl, HA, HK1, HO_5, HB⟩ := hrel
  cases gk with
  | zero => exact absurd HA.out (by simp [hypercuberef10_Orders.l0])
  | succ k1 =>
   have H := HA.out
   clear HA
   simp only [hypercuberef10_Orders.l0] at H
   by_cases c3 : x6_1 < (l0.length : Int)
   rotate_left
   ·rw [if_neg c3] at H
    have c3b0 : decide (x6_1 < (l0.length : Int)) = false := decide_eq_false c3
    clear c3
    obtain rfl := Option.some.inj H
    go_wp2
    go_ret
    exact ⟨_, by first | rfl | (simp [errW_none, errW_some] <;> rfl) | (simp [*, errW_none, errW_some] <;> rfl), by (with_reducible repeat (first | apply Kd.S_alloc | apply Kd.S_drewN | apply Kd.S_drew)); exact HO_5.out, by repeat (first | (with_reducible first | exact HB.out | apply below_alloc | apply pw_below_drewN | apply below_drew1) | exact HB.out)⟩
   rw [if_pos c3] at H
   have c3b0 : decide (x6_1 < (l0.length : Int)) = true := decide_eq_true c3
   clear c3
   by_cases c4 : a1 > 0
   rotate_left
   ·rw [if_neg c4] at H
    have c4b0 : decide (0 < a1) = false := decide_eq_false c4
    clear c4
    obtain rfl := Option.some.inj H
    go_wp2
    go_ret
    exact ⟨_, by first | rfl | (simp [errW_none, errW_some] <;> rfl) | (simp [*, errW_none, errW_some] <;> rfl), by (with_reducible repeat (first | apply Kd.S_alloc | apply Kd.S_drewN | apply Kd.S_drew)); exact HO_5.out, by repeat (first | (with_reducible first | exact HB.out | apply below_alloc | apply pw_below_drewN | apply below_drew1) | exact HB.out)⟩
   rw [if_pos c4] at H
   have c4b0 : decide (0 < a1) = true := decide_eq_true c4
   clear c4
   by_cases c5 : 0 ≤ x6_1
   rotate_left
   ·rw [if_neg c5] at H
    exact absurd H (by simp)
   rw [if_pos c5] at H
   have c5b0 : decide (0 ≤ x6_1) = true := decide_eq_true c5
   clear c5
   replace H := Option.bind_eq_some_iff.mp H
   obtain ⟨t368, A60, H⟩ := H
   replace H : (if x5_1.length < 5864062014805 then (hypercuberef10_Orders.l0 k1 l0 a1 (x5_1 ++ [t368]) (wrap64 (x6_1 + 1))) else (none)) = some r := H
   have A6 := Aside0.mk A60
   clear A60
   by_cases c7 : x5_1.length < 5864062014805
   rotate_left
   ·rw [if_neg c7] at H
    exact absurd H (by simp)
   rw [if_pos c7] at H
   have LMc7 := Aside0.mk c7
   clear c7
   obtain ⟨y371, hy371⟩ : ∃ y_ : List (List Int), y_ = (x5_1 ++ [t368]) := ⟨_, rfl⟩
   replace H : (hypercuberef10_Orders.l0 k1 l0 a1 y371 (wrap64 (x6_1 + 1))) = some r := by first | (rw [hy371]; with_reducible exact H) | (have H2_ := (Option.bind_some _ _).symm.trans H; rw [hy371]; with_reducible exact H2_) | (have H2_ := (Option.bind_some _ _).symm.trans H; with_reducible exact H2_) | with_reducible exact H | (rw [hy371]; exact H) | exact H
   have Ny371 := Aside0.mk hy371
   clear hy371
   have H' := Aside0.mk H
   clear H
   have p367 : 0 ≤ (x6_1 : Int) := od_
   have q367 : x6_1 < (l0.length : Int) := od_
   obtain ⟨ad367, e367, hx367_0, hx367_1, hx367_2⟩ := at_T49 HR0.out x6_1 p367 q367
   cases e367
   replace hx367_0 := (HB.out.cell (World.block_lt_of_cell? w _ hx367_0)).trans hx367_0
   replace hx367_1 := (HB.out.cell (World.block_lt_of_cell? w _ hx367_1)).trans hx367_1
   replace hx367_2 := (HB.out.cell (World.block_lt_of_cell? w _ hx367_2)).trans hx367_2
   replace p367 := eq_true p367
   replace q367 := eq_true q367
   go_wp2_with (first | ((with_reducible refine gate_callee (f := 86) rfl ?_); refine goesL_ (some 24) rfl rfl Try.func86 (by kernel_rfl) rfl #[.slice (some ad367) l0.length c0, .int .i64 ((rd_T49 l0 x6_1).f0)] rfl (by (try simp only [List.map_toArray, List.map_cons, List.map_nil]); first | done | rfl | (simp only [List.length_drop, List.length_take]; rfl)) ?_; (with_reducible refine (hypercuberef10_order.calls k1 _ _ l0 ((rd_T49 l0 x6_1).f0) t368 _ ?side1 ?side2 A6.out).mono ?_); (case side1 => repeat (first | exact (Kd.C_below HR0.out HB.out) | (with_reducible refine Kd.C_alloc ?_ _) | (with_reducible refine Kd.C_drewN ?_ _) | (with_reducible refine Kd.C_drew ?_))); (case side2 => exact HC0.out); rintro e w8 ⟨v369, rfl, ho0, hb⟩; refine ⟨_, rfl, ?_⟩; have n0_ := Aside0.mk (Kd.S_elder' (by (with_reducible repeat (first | apply Kd.S_alloc | apply Kd.S_drewN | apply Kd.S_drew)); exact HO_5.out) (Kd.R_base ho0) hb); have n1_ := Aside0.mk (Kd.R_lower ho0 (below_size (by repeat (first | (with_reducible first | exact HB.out | apply below_alloc | apply pw_below_drewN | apply below_drew1) | exact HB.out)))); have n2_ := Aside0.mk (below_step (by repeat (first | (with_reducible first | exact HB.out | apply below_alloc | apply pw_below_drewN | apply below_drew1) | exact HB.out)) hb); clear HO_5; clear HB; have HO_5 := n0_; have HO370 := n1_; have HB := n2_; clear n0_ n1_ n2_; (try clear hb); (try clear hb2); (try clear hk); (try clear hi); (try clear ho0); obtain ⟨Ao10, co10, eo10⟩ := Kd.R_slice HO370.out; subst eo10) | ((with_reducible refine gate_builtin (b := .append) (xs := #[.tmp 17, .tmp 25]) rfl ?_); at_builtin; refine Kd.S_append (Kd.slice 3 (Kd.int .i64)) (w0 := w) w.heap.size rfl (.tmp 17) (.tmp 25) 37 24 (.slice none 0 0) 24 rfl Try.underlying37 info24 rfl (by decide) (by omega) u5 x5_1 t368 [.slice Ao10 t368.length co10] (fun _ => True) (fun k_ => some k_ = (.slice Ao10 t368.length co10 : Value).ownBlock) rfl rfl ?aP (fun k_ hk_ => ((Kd.R_mono (ok' := fun k_ => ((fun _ => True)) k_ ∧ some k_ ≠ (u5 : Value).ownBlock) (Kd.R_apart' (HO370.out) (Kd.S_typed HO_5.out) (by decide)) (fun k_ hk => ⟨trivial, hk.2⟩))).1 k_ hk_.symm) ?aF ?aO ?aB ?aS ?aL ?_; (case aP => exact Kd.M_row (Kd.R_mono (Kd.R_tight rfl (Kd.R_mono (ok' := fun k_ => ((fun _ => True)) k_ ∧ some k_ ≠ (u5 : Value).ownBlock) (Kd.R_apart' (HO370.out) (Kd.S_typed HO_5.out) (by decide)) (fun k_ hk => ⟨trivial, hk.2⟩))) (fun _ h_ => h_))); (case aB => exact (by repeat (first | (with_reducible first | exact HB.out | apply below_alloc | apply pw_below_drewN | apply below_drew1) | exact HB.out))); (case aF => exact (fun _ _ => trivial)); (case aO => exact (by (with_reducible repeat (first | apply Kd.S_alloc | apply Kd.S_drewN | apply Kd.S_drew)); exact Kd.S_mono HO_5.out (fun k_ hk => ⟨trivial, fun e_ => hk.2 e_⟩))); (case aS => exact (below_size (by repeat (first | (with_reducible first | exact HB.out | apply below_alloc | apply pw_below_drewN | apply below_drew1) | exact HB.out)))); (case aL => have := LMc7.out; omega); intro v372 w9 ho hb hg hat; rw [← Ny371.out] at ho; have n0_ := Aside0.mk (hb); have n1_ := Aside0.mk (ho); clear HB; clear HO_5; clear HO370; have HB := n0_; have HO373 := n1_; clear n0_ n1_; clear ho hb hg hat))
   go_roundg k1
   case measure => have := HK1.out; omega
   case rel => exact ⟨(y371), (wrap64 (x6_1 + 1)), (by first | rfl | (simp; done) | (simp [*]; done)), H', ⟨by have := HK1.out; omega⟩, ⟨by (with_reducible repeat (first | apply Kd.S_alloc | apply Kd.S_drewN | apply Kd.S_drew)); exact HO373.out⟩, ⟨by repeat (first | (with_reducible first | exact HB.out | apply below_alloc | apply pw_below_drewN | apply below_drew1) | exact HB.out)⟩⟩
end Go.Proofs.Ytlplaidcdocbmaa.PSortsAll
