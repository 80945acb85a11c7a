-- Cut by pack.py, a program of this session; not trusted: Lean checks it.
import Derived.Test.YtlplaidcdocbmaaZS10
import Derived.Test.YtlplaidcdocbmaaZM4
import Derived.Test.YtlplaidcdocbmaaZM7
import Derived.Test.YtlplaidcdocbmaaZM8
import Derived.Test.YtlplaidcdocbmaaZPSortsOrdersx0
import Derived.Test.YtlplaidcdocbmaaZPSortsOrdersx1
namespace Go.Proofs.Ytlplaidcdocbmaa.PSortsOrders
open Go.RowKit Go.Proofs.YtlplaidcdocbmaaW.PrintWords Go.Proofs.YtlplaidcdocbmaaW.PrintLast Go.Proofs.YtlplaidcdocbmaaW.PrintMore
private theorem od_ {p : Prop} [Decidable p] (h : decide p = true := by first | (with_reducible assumption) | assumption) : p := of_decide_eq_true h
attribute [local go_sem] max2_int min2_int max_two min_two max_three min_three max_four min_four   -- for this text's walks alone
set_option linter.unusedVariables false
set_option linter.unusedSimpArgs false

/-! ### sorts_order: function 84 -/


-- NOT PRINTED: function 85 (slices_Clone_int_int_85)

/-! ### sorts_Orders: function 57 -/
def sorts_Orders.f (l0 : List (S49)) (a1 : Int) : Option ((List (List Int))) := if (0 ≤ a1 ∧ a1 ≤ 4) ∧ Srt.okO a1.toNat (Srt.toEds S49.f0 S49.f1 S49.f2 l0) = true then some ((Srt.ordersS (Srt.toEds S49.f0 S49.f1 S49.f2 l0) a1.toNat).map Srt.intsL) else none
theorem sorts_Orders.calls (A0 : Option Addr) (c0 : Nat) (l0 : List (S49)) (a1 : Int) (r : List (List Int)) (w : World) (hr0 : Kd.C k49 w A0 l0.length l0) (hc0 : l0.length ≤ c0) (h : sorts_Orders.f l0 a1 = some r) :
 Calls Try.prog 57 #[.slice A0 l0.length c0, .int .i64 a1] w fun e w' => ∃ v0_ : Value, e = .returned (v0_) ∧ Kd.S (Kd.slice 3 (Kd.int .i64)) 24 w' w.heap.size (fun _ => True) v0_ r ∧ Below w.heap.size w w' := by
 unfold sorts_Orders.f at h
 by_cases hh : (0 ≤ a1 ∧ a1 ≤ 4) ∧ Srt.okO a1.toNat (Srt.toEds S49.f0 S49.f1 S49.f2 l0) = true
 rotate_left
 ·rw [if_neg hh] at h; cases h
 rw [if_pos hh] at h
 obtain rfl := Option.some.inj h
 exact Srt.orders_K k49 rfl z49 S49.f0 S49.f1 S49.f2 (fun w x cs h => k49_open h) A0 c0 l0 a1 w hr0 hh.1 hh.2

/-! ### hypercubelaw10_same: function 58 -/
def hypercubelaw10_same.l0 : Nat → List (List Int) → List (List Int) → Int → Option (Bool)
 | 0, _, _, _ => none
 | k + 1, x0, x1, x5 => if x5 < (x0.length : Int) then (if 0 ≤ x5 then (if x5 < (x1.length : Int) then ((hypercuberef1_Ints.f k (rd_L3 x0 x5) (rd_L3 x1 x5)).bind fun t217 => (if t217 = true then (hypercubelaw10_same.l0 k x0 x1 (wrap64 (x5 + 1))) else (some false))) else (none)) else (none)) else (some true)
def hypercubelaw10_same.f (k : Nat) (l0 : List (List Int)) (l1 : List (List Int)) : Option (Bool) := if (l0.length : Int) = (l1.length : Int) then (hypercubelaw10_same.l0 k l0 l1 0) else (some false)
theorem hypercubelaw10_same.mono_l : ∀ k, (∀ y0 y1 y2, LeO (hypercubelaw10_same.l0 k y0 y1 y2) (hypercubelaw10_same.l0 (k + 1) y0 y1 y2))
 | 0 => fun _ _ _ r h => by simp [hypercubelaw10_same.l0] at h
 | k + 1 => by
  have ih0 := hypercubelaw10_same.mono_l k
  intro y0 y1 y2
  unfold hypercubelaw10_same.l0
  repeat' first
  | (with_reducible exact ih0 _ _ _)
  | (with_reducible exact hypercuberef1_Ints.mono _ _ _)
  | (with_reducible exact LeO.refl _)
  | (with_reducible exact LeO.none _)
  | (with_reducible refine LeO.ite ?_ ?_)
  | (with_reducible refine LeO.bind ?_ (fun _ => ?_))
  | exact ih0 _ _ _
  | exact hypercuberef1_Ints.mono _ _ _
  | exact LeO.none _
  | refine LeO.ite ?_ ?_
  | refine LeO.bind ?_ (fun _ => ?_)
theorem hypercubelaw10_same.mono : ∀ a0 a1 k, LeO (hypercubelaw10_same.f k a0 a1) (hypercubelaw10_same.f (k + 1) a0 a1) := by
 intro a0 a1 k
 have ih0 := hypercubelaw10_same.mono_l k
 unfold hypercubelaw10_same.f
 repeat' first
  | (with_reducible exact ih0 _ _ _)
  | (with_reducible exact hypercuberef1_Ints.mono _ _ _)
  | (with_reducible exact LeO.refl _)
  | (with_reducible exact LeO.none _)
  | (with_reducible refine LeO.ite ?_ ?_)
  | (with_reducible refine LeO.bind ?_ (fun _ => ?_))
  | exact ih0 _ _ _
  | exact hypercuberef1_Ints.mono _ _ _
  | exact LeO.none _
  | refine LeO.ite ?_ ?_
  | refine LeO.bind ?_ (fun _ => ?_)
set_option maxHeartbeats 8000000 in
set_option maxRecDepth 100000 in
theorem hypercubelaw10_same.calls (k : Nat) (A0 : Option Addr) (c0 : Nat) (l0 : List (List Int)) (A1 : Option Addr) (c1 : Nat) (l1 : List (List Int)) (r : Bool) (w : World) (hr0 : Kd.C (Kd.slice 3 (Kd.int .i64)) w A0 l0.length l0) (hc0 : l0.length ≤ c0) (hr1 : Kd.C (Kd.slice 3 (Kd.int .i64)) w A1 l1.length l1) (hc1 : l1.length ≤ c1) (h : hypercubelaw10_same.f k l0 l1 = some r) :
 Calls Try.prog 58 #[.slice A0 l0.length c0, .slice A1 l1.length c1] w fun e w' => e = .returned (.bool r) ∧ Drawn0 w w' := by
 have HR0 := Aside0.mk hr0
 have HC0 := Aside0.mk hc0
 clear hr0 hc0
 have HR1 := Aside0.mk hr1
 have HC1 := Aside0.mk hc1
 clear hr1 hc1
 have H : (if (l0.length : Int) = (l1.length : Int) then (hypercubelaw10_same.l0 k l0 l1 0) else (some false)) = some r := h
 clear h
 by_cases c3 : (l0.length : Int) = (l1.length : Int)
 rotate_left
 ·rw [if_neg c3] at H
  have c3b0 : ((l0.length : Int) == (l1.length : Int)) = false := beq_eq_false_iff_ne.mpr c3
  have c3b1 : ((l0.length : Int) != (l1.length : Int)) = true := bne_iff_ne.mpr c3
  have c3b2 : (l0.length == l1.length) = false := by first | simpa using c3 | (simp at c3 ⊢; omega)
  obtain rfl := Option.some.inj H
  go_enter Try.func58, Try.ntmps58
  go_wp2
  repeat (go_quiet (fail); try go_wp2)
  go_ret
  exact ⟨by first | rfl | (simp; done) | (simp [*]; done), by repeat (first | exact Drawn0.refl _ | apply Drawn0.step)⟩
 rw [if_pos c3] at H
 have c3b0 : ((l0.length : Int) == (l1.length : Int)) = true := beq_iff_eq.mpr c3
 have c3b1 : ((l0.length : Int) != (l1.length : Int)) = false := bne_eq_false_iff_eq.mpr c3
 have c3b2 : (l0.length == l1.length) = true := by first | simpa using c3 | (simp at c3 ⊢; omega)
 clear c3
 have H' := Aside0.mk H
 clear H
 go_enter Try.func58, Try.ntmps58
 go_wp2
 repeat (go_quiet (fail); try go_wp2)
 go_loopg [5] k (fun kq v5 w' => ∃ (x5_1 : Int), v5 = .int .i64 x5_1 ∧ Aside0 (hypercubelaw10_same.l0 kq l0 l1 x5_1 = some r) ∧ Aside0 (kq ≤ k) ∧ Drawn0 w w')
 case atStart => exact ⟨(0), (by first | rfl | (simp; done) | (simp [*]; done)), H', ⟨Nat.le_refl _⟩, by repeat (first | exact Drawn0.refl _ | apply Drawn0.step)⟩
 case round =>
  clear H'
  try clear c1
  try clear p2
  try clear c3
  try clear c3b0
  try clear c3b1
  try clear c3b2
  obtain ⟨x5_1, rfl, HA, HK1, ⟨m1, rfl⟩⟩ := hrel
  cases gk with
  | zero => exact absurd HA.out (by simp [hypercubelaw10_same.l0])
  | succ k1 =>
   have H := HA.out
   clear HA
   simp only [hypercubelaw10_same.l0] at H
   by_cases c4 : x5_1 < (l0.length : Int)
   rotate_left
   ·rw [if_neg c4] at H
    have c4b0 : decide (x5_1 < (l0.length : Int)) = false := decide_eq_false c4
    clear c4
    obtain rfl := Option.some.inj H
    go_wp2
    repeat (go_quiet (fail); try go_wp2)
    go_ret
    exact ⟨by first | rfl | (simp; done) | (simp [*]; done), by repeat (first | exact Drawn0.refl _ | apply Drawn0.step)⟩
   rw [if_pos c4] at H
   have c4b0 : decide (x5_1 < (l0.length : Int)) = true := decide_eq_true c4
   clear c4
   by_cases c5 : 0 ≤ x5_1
   rotate_left
   ·rw [if_neg c5] at H
    exact absurd H (by simp)
   rw [if_pos c5] at H
   have c5b0 : decide (0 ≤ x5_1) = true := decide_eq_true c5
   clear c5
   by_cases c6 : x5_1 < (l1.length : Int)
   rotate_left
   ·rw [if_neg c6] at H
    exact absurd H (by simp)
   rw [if_pos c6] at H
   have c6b0 : decide (x5_1 < (l1.length : Int)) = true := decide_eq_true c6
   clear c6
   replace H := Option.bind_eq_some_iff.mp H
   obtain ⟨t217, A70, H⟩ := H
   replace H : (if t217 = true then (hypercubelaw10_same.l0 k1 l0 l1 (wrap64 (x5_1 + 1))) else (some false)) = some r := H
   have A7 := Aside0.mk A70
   clear A70
   by_cases c8 : t217 = true
   rotate_left
   ·replace c8 := Bool.eq_false_iff.mpr c8
    subst c8
    have H1 : (some false) = some r := by rw [if_neg (show ¬ (false = true) by decide)] at H; exact H
    clear H
    have H := H1
    clear H1
    obtain rfl := Option.some.inj H
    have p215 : 0 ≤ (x5_1 : Int) := od_
    have q215 : x5_1 < (l0.length : Int) := od_
    obtain ⟨ad215, A215_0, c215_0, e215, hx215_0, hl215_0, hi215_0⟩ := at_L3 HR0.out x5_1 p215 q215
    cases e215
    have HR215_0 := Aside0.mk hi215_0
    have HC215_0 := Aside0.mk hl215_0
    clear hi215_0 hl215_0
    replace p215 := eq_true p215
    replace q215 := eq_true q215
    have p216 : 0 ≤ (x5_1 : Int) := od_
    have q216 : x5_1 < (l1.length : Int) := od_
    obtain ⟨ad216, A216_0, c216_0, e216, hx216_0, hl216_0, hi216_0⟩ := at_L3 HR1.out x5_1 p216 q216
    cases e216
    have HR216_0 := Aside0.mk hi216_0
    have HC216_0 := Aside0.mk hl216_0
    clear hi216_0 hl216_0
    replace p216 := eq_true p216
    replace q216 := eq_true q216
    go_wp2_with (first | (go_at_call 33; (with_reducible refine (hypercuberef1_Ints.calls k1 _ _ (rd_L3 l0 x5_1) _ _ (rd_L3 l1 x5_1) false _ ?side1 ?side2 ?side3 ?side4 A7.out).mono ?_); (case side1 => repeat (first | exact HR215_0.out | (with_reducible refine Kd.C_alloc ?_ _) | (with_reducible refine Kd.C_drewN ?_ _) | (with_reducible refine Kd.C_drew ?_))); (case side2 => exact HC215_0.out); (case side3 => repeat (first | exact HR216_0.out | (with_reducible refine Kd.C_alloc ?_ _) | (with_reducible refine Kd.C_drewN ?_ _) | (with_reducible refine Kd.C_drew ?_))); (case side4 => exact HC216_0.out); rintro e w' ⟨rfl, ⟨nd, rfl⟩⟩; (try first | exact ⟨rfl, _, World.drewN_drewN _ _ _⟩ | exact ⟨rfl, _, Eq.trans (World.drewN_drewN _ _ _) (congrArg (World.drewN _) (Nat.add_assoc _ _ _))⟩)))
    repeat (go_quiet (first | (go_at_call 33; (with_reducible refine (hypercuberef1_Ints.calls k1 _ _ (rd_L3 l0 x5_1) _ _ (rd_L3 l1 x5_1) false _ ?side1 ?side2 ?side3 ?side4 A7.out).mono ?_); (case side1 => repeat (first | exact HR215_0.out | (with_reducible refine Kd.C_alloc ?_ _) | (with_reducible refine Kd.C_drewN ?_ _) | (with_reducible refine Kd.C_drew ?_))); (case side2 => exact HC215_0.out); (case side3 => repeat (first | exact HR216_0.out | (with_reducible refine Kd.C_alloc ?_ _) | (with_reducible refine Kd.C_drewN ?_ _) | (with_reducible refine Kd.C_drew ?_))); (case side4 => exact HC216_0.out); rintro e w' ⟨rfl, ⟨nd, rfl⟩⟩; (try first | exact ⟨rfl, _, World.drewN_drewN _ _ _⟩ | exact ⟨rfl, _, Eq.trans (World.drewN_drewN _ _ _) (congrArg (World.drewN _) (Nat.add_assoc _ _ _))⟩))); try go_wp2_with (first | (go_at_call 33; (with_reducible refine (hypercuberef1_Ints.calls k1 _ _ (rd_L3 l0 x5_1) _ _ (rd_L3 l1 x5_1) false _ ?side1 ?side2 ?side3 ?side4 A7.out).mono ?_); (case side1 => repeat (first | exact HR215_0.out | (with_reducible refine Kd.C_alloc ?_ _) | (with_reducible refine Kd.C_drewN ?_ _) | (with_reducible refine Kd.C_drew ?_))); (case side2 => exact HC215_0.out); (case side3 => repeat (first | exact HR216_0.out | (with_reducible refine Kd.C_alloc ?_ _) | (with_reducible refine Kd.C_drewN ?_ _) | (with_reducible refine Kd.C_drew ?_))); (case side4 => exact HC216_0.out); rintro e w' ⟨rfl, ⟨nd, rfl⟩⟩; (try first | exact ⟨rfl, _, World.drewN_drewN _ _ _⟩ | exact ⟨rfl, _, Eq.trans (World.drewN_drewN _ _ _) (congrArg (World.drewN _) (Nat.add_assoc _ _ _))⟩))))
    go_ret
    exact ⟨by first | rfl | (simp; done) | (simp [*]; done), by repeat (first | exact Drawn0.refl _ | apply Drawn0.step)⟩
   subst c8
   have H1 : (hypercubelaw10_same.l0 k1 l0 l1 (wrap64 (x5_1 + 1))) = some r := by rw [if_pos rfl] at H; exact H
   clear H
   have H := H1
   clear H1
   have H' := Aside0.mk H
   clear H
   have p215 : 0 ≤ (x5_1 : Int) := od_
   have q215 : x5_1 < (l0.length : Int) := od_
   obtain ⟨ad215, A215_0, c215_0, e215, hx215_0, hl215_0, hi215_0⟩ := at_L3 HR0.out x5_1 p215 q215
   cases e215
   have HR215_0 := Aside0.mk hi215_0
   have HC215_0 := Aside0.mk hl215_0
   clear hi215_0 hl215_0
   replace p215 := eq_true p215
   replace q215 := eq_true q215
   have p216 : 0 ≤ (x5_1 : Int) := od_
   have q216 : x5_1 < (l1.length : Int) := od_
   obtain ⟨ad216, A216_0, c216_0, e216, hx216_0, hl216_0, hi216_0⟩ := at_L3 HR1.out x5_1 p216 q216
   cases e216
   have HR216_0 := Aside0.mk hi216_0
   have HC216_0 := Aside0.mk hl216_0
   clear hi216_0 hl216_0
   replace p216 := eq_true p216
   replace q216 := eq_true q216
   go_wp2_with (first | (go_at_call 33; (with_reducible refine (hypercuberef1_Ints.calls k1 _ _ (rd_L3 l0 x5_1) _ _ (rd_L3 l1 x5_1) true _ ?side1 ?side2 ?side3 ?side4 A7.out).mono ?_); (case side1 => repeat (first | exact HR215_0.out | (with_reducible refine Kd.C_alloc ?_ _) | (with_reducible refine Kd.C_drewN ?_ _) | (with_reducible refine Kd.C_drew ?_))); (case side2 => exact HC215_0.out); (case side3 => repeat (first | exact HR216_0.out | (with_reducible refine Kd.C_alloc ?_ _) | (with_reducible refine Kd.C_drewN ?_ _) | (with_reducible refine Kd.C_drew ?_))); (case side4 => exact HC216_0.out); rintro e w' ⟨rfl, ⟨nd, rfl⟩⟩; (try first | exact ⟨rfl, _, World.drewN_drewN _ _ _⟩ | exact ⟨rfl, _, Eq.trans (World.drewN_drewN _ _ _) (congrArg (World.drewN _) (Nat.add_assoc _ _ _))⟩)))
   repeat (go_quiet (first | (go_at_call 33; (with_reducible refine (hypercuberef1_Ints.calls k1 _ _ (rd_L3 l0 x5_1) _ _ (rd_L3 l1 x5_1) true _ ?side1 ?side2 ?side3 ?side4 A7.out).mono ?_); (case side1 => repeat (first | exact HR215_0.out | (with_reducible refine Kd.C_alloc ?_ _) | (with_reducible refine Kd.C_drewN ?_ _) | (with_reducible refine Kd.C_drew ?_))); (case side2 => exact HC215_0.out); (case side3 => repeat (first | exact HR216_0.out | (with_reducible refine Kd.C_alloc ?_ _) | (with_reducible refine Kd.C_drewN ?_ _) | (with_reducible refine Kd.C_drew ?_))); (case side4 => exact HC216_0.out); rintro e w' ⟨rfl, ⟨nd, rfl⟩⟩; (try first | exact ⟨rfl, _, World.drewN_drewN _ _ _⟩ | exact ⟨rfl, _, Eq.trans (World.drewN_drewN _ _ _) (congrArg (World.drewN _) (Nat.add_assoc _ _ _))⟩))); try go_wp2_with (first | (go_at_call 33; (with_reducible refine (hypercuberef1_Ints.calls k1 _ _ (rd_L3 l0 x5_1) _ _ (rd_L3 l1 x5_1) true _ ?side1 ?side2 ?side3 ?side4 A7.out).mono ?_); (case side1 => repeat (first | exact HR215_0.out | (with_reducible refine Kd.C_alloc ?_ _) | (with_reducible refine Kd.C_drewN ?_ _) | (with_reducible refine Kd.C_drew ?_))); (case side2 => exact HC215_0.out); (case side3 => repeat (first | exact HR216_0.out | (with_reducible refine Kd.C_alloc ?_ _) | (with_reducible refine Kd.C_drewN ?_ _) | (with_reducible refine Kd.C_drew ?_))); (case side4 => exact HC216_0.out); rintro e w' ⟨rfl, ⟨nd, rfl⟩⟩; (try first | exact ⟨rfl, _, World.drewN_drewN _ _ _⟩ | exact ⟨rfl, _, Eq.trans (World.drewN_drewN _ _ _) (congrArg (World.drewN _) (Nat.add_assoc _ _ _))⟩))))
   go_roundg k1
   case measure => have := HK1.out; omega
   case rel => exact ⟨(wrap64 (x5_1 + 1)), (by first | rfl | (simp; done) | (simp [*]; done)), H', ⟨by have := HK1.out; omega⟩, by repeat (first | exact Drawn0.refl _ | apply Drawn0.step)⟩

end Go.Proofs.Ytlplaidcdocbmaa.PSortsOrders
