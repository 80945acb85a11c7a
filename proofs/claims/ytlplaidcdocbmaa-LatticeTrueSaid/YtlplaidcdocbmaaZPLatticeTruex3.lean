-- Cut by pack.py, a program of this session; not trusted: Lean checks it.
import Derived.Test.YtlplaidcdocbmaaZCore12
import Derived.Test.YtlplaidcdocbmaaZPLatticeTruex0
import Derived.Test.YtlplaidcdocbmaaZPLatticeTruex1
import Derived.Test.YtlplaidcdocbmaaZPLatticeTruex2
namespace Go.Proofs.Ytlplaidcdocbmaa.PLatticeTrue
open Go.RowKit Go.Proofs.YtlplaidcdocbmaaW.PrintWords Go.Proofs.YtlplaidcdocbmaaW.PrintLast Go.Proofs.YtlplaidcdocbmaaW.PrintMore
private theorem od_ {p : Prop} [Decidable p] (h : decide p = true := by first | (with_reducible assumption) | assumption) : p := of_decide_eq_true h
attribute [local go_sem] max2_int min2_int max_two min_two max_three min_three max_four min_four   -- for this text's walks alone
set_option linter.unusedVariables false
set_option linter.unusedSimpArgs false

/-! ### hypercuberef1_Ints: function 33 -/
def hypercuberef1_Ints.l0 : Nat → List Int → List Int → Int → Option (Bool)
 | 0, _, _, _ => none
 | k + 1, x0, x1, x5 => if x5 < (x0.length : Int) then (if 0 ≤ x5 then (if x5 < (x1.length : Int) then (if (rd x0 x5) = (rd x1 x5) then (hypercuberef1_Ints.l0 k x0 x1 (wrap64 (x5 + 1))) else (some false)) else (none)) else (none)) else (some true)
def hypercuberef1_Ints.f (k : Nat) (l0 : List Int) (l1 : List Int) : Option (Bool) := if (l0.length : Int) = (l1.length : Int) then (hypercuberef1_Ints.l0 k l0 l1 0) else (some false)
theorem hypercuberef1_Ints.mono_l : ∀ k, (∀ y0 y1 y2, LeO (hypercuberef1_Ints.l0 k y0 y1 y2) (hypercuberef1_Ints.l0 (k + 1) y0 y1 y2))
 | 0 => fun _ _ _ r h => by simp [hypercuberef1_Ints.l0] at h
 | k + 1 => by
  have ih0 := hypercuberef1_Ints.mono_l k
  intro y0 y1 y2
  unfold hypercuberef1_Ints.l0
  repeat' first
  | (with_reducible exact ih0 _ _ _)
  | (with_reducible exact LeO.refl _)
  | (with_reducible exact LeO.none _)
  | (with_reducible refine LeO.ite ?_ ?_)
  | (with_reducible refine LeO.bind ?_ (fun _ => ?_))
  | exact ih0 _ _ _
  | exact LeO.none _
  | refine LeO.ite ?_ ?_
  | refine LeO.bind ?_ (fun _ => ?_)
theorem hypercuberef1_Ints.mono : ∀ a0 a1 k, LeO (hypercuberef1_Ints.f k a0 a1) (hypercuberef1_Ints.f (k + 1) a0 a1) := by
 intro a0 a1 k
 have ih0 := hypercuberef1_Ints.mono_l k
 unfold hypercuberef1_Ints.f
 repeat' first
  | (with_reducible exact ih0 _ _ _)
  | (with_reducible exact LeO.refl _)
  | (with_reducible exact LeO.none _)
  | (with_reducible refine LeO.ite ?_ ?_)
  | (with_reducible refine LeO.bind ?_ (fun _ => ?_))
  | exact ih0 _ _ _
  | exact LeO.none _
  | refine LeO.ite ?_ ?_
  | refine LeO.bind ?_ (fun _ => ?_)
set_option maxHeartbeats 8000000 in
set_option maxRecDepth 100000 in
theorem hypercuberef1_Ints.calls (k : Nat) (A0 : Option Addr) (c0 : Nat) (l0 : List Int) (A1 : Option Addr) (c1 : Nat) (l1 : List Int) (r : Bool) (w : World) (hr0 : Kd.C (Kd.int .i64) w A0 l0.length l0) (hc0 : l0.length ≤ c0) (hr1 : Kd.C (Kd.int .i64) w A1 l1.length l1) (hc1 : l1.length ≤ c1) (h : hypercuberef1_Ints.f k l0 l1 = some r) :
 Calls Try.prog 33 #[.slice A0 l0.length c0, .slice A1 l1.length c1] w fun e w' => e = .returned (.bool r) ∧ Drawn0 w w' := by
 have HR0 := Aside0.mk hr0
 have HC0 := Aside0.mk hc0
 clear hr0 hc0
 have HR1 := Aside0.mk hr1
 have HC1 := Aside0.mk hc1
 clear hr1 hc1
 have H : (if (l0.length : Int) = (l1.length : Int) then (hypercuberef1_Ints.l0 k l0 l1 0) else (some false)) = some r := h
 clear h
 by_cases c3 : (l0.length : Int) = (l1.length : Int)
 rotate_left
 ·rw [if_neg c3] at H
  have c3b0 : ((l0.length : Int) == (l1.length : Int)) = false := beq_eq_false_iff_ne.mpr c3
  have c3b1 : ((l0.length : Int) != (l1.length : Int)) = true := bne_iff_ne.mpr c3
  have c3b2 : (l0.length == l1.length) = false := by first | simpa using c3 | (simp at c3 ⊢; omega)
  obtain rfl := Option.some.inj H
  go_enter Try.func33, Try.ntmps33
  go_wp2
  repeat (go_quiet (fail); try go_wp2)
  go_ret
  exact ⟨by first | rfl | (simp; done) | (simp [*]; done), by repeat (first | exact Drawn0.refl _ | apply Drawn0.step)⟩
 rw [if_pos c3] at H
 have c3b0 : ((l0.length : Int) == (l1.length : Int)) = true := beq_iff_eq.mpr c3
 have c3b1 : ((l0.length : Int) != (l1.length : Int)) = false := bne_eq_false_iff_eq.mpr c3
 have c3b2 : (l0.length == l1.length) = true := by first | simpa using c3 | (simp at c3 ⊢; omega)
 clear c3
 have H' := Aside0.mk H
 clear H
 go_enter Try.func33, Try.ntmps33
 go_wp2
 repeat (go_quiet (fail); try go_wp2)
 go_loopg [5] k (fun kq v5 w' => ∃ (x5_1 : Int), v5 = .int .i64 x5_1 ∧ Aside0 (hypercuberef1_Ints.l0 kq l0 l1 x5_1 = some r) ∧ Aside0 (kq ≤ k) ∧ Drawn0 w w')
 case atStart => exact ⟨(0), (by first | rfl | (simp; done) | (simp [*]; done)), H', ⟨Nat.le_refl _⟩, by repeat (first | exact Drawn0.refl _ | apply Drawn0.step)⟩
 case round =>
  clear H'
  try clear c1
  try clear p2
  try clear c3
  try clear c3b0
  try clear c3b1
  try clear c3b2
  obtain ⟨x5_1, rfl, HA, HK1, ⟨m1, rfl⟩⟩ := hrel
  cases gk with
  | zero => exact absurd HA.out (by simp [hypercuberef1_Ints.l0])
  | succ k1 =>
   have H := HA.out
   clear HA
   simp only [hypercuberef1_Ints.l0] at H
   by_cases c4 : x5_1 < (l0.length : Int)
   rotate_left
   ·rw [if_neg c4] at H
    have c4b0 : decide (x5_1 < (l0.length : Int)) = false := decide_eq_false c4
    clear c4
    obtain rfl := Option.some.inj H
    go_wp2
    repeat (go_quiet (fail); try go_wp2)
    go_ret
    exact ⟨by first | rfl | (simp; done) | (simp [*]; done), by repeat (first | exact Drawn0.refl _ | apply Drawn0.step)⟩
   rw [if_pos c4] at H
   have c4b0 : decide (x5_1 < (l0.length : Int)) = true := decide_eq_true c4
   clear c4
   by_cases c5 : 0 ≤ x5_1
   rotate_left
   ·rw [if_neg c5] at H
    exact absurd H (by simp)
   rw [if_pos c5] at H
   have c5b0 : decide (0 ≤ x5_1) = true := decide_eq_true c5
   clear c5
   by_cases c6 : x5_1 < (l1.length : Int)
   rotate_left
   ·rw [if_neg c6] at H
    exact absurd H (by simp)
   rw [if_pos c6] at H
   have c6b0 : decide (x5_1 < (l1.length : Int)) = true := decide_eq_true c6
   clear c6
   by_cases c7 : (rd l0 x5_1) = (rd l1 x5_1)
   rotate_left
   ·rw [if_neg c7] at H
    have c7b0 : ((rd l0 x5_1) == (rd l1 x5_1)) = false := beq_eq_false_iff_ne.mpr c7
    have c7b1 : ((rd l0 x5_1) != (rd l1 x5_1)) = true := bne_iff_ne.mpr c7
    obtain rfl := Option.some.inj H
    have p154 : 0 ≤ (x5_1 : Int) := od_
    have q154 : x5_1 < (l0.length : Int) := od_
    obtain ⟨ad154, e154, hx154_0⟩ := Kd.at_int HR0.out x5_1 p154 q154
    cases e154
    replace p154 := eq_true p154
    replace q154 := eq_true q154
    have p155 : 0 ≤ (x5_1 : Int) := od_
    have q155 : x5_1 < (l1.length : Int) := od_
    obtain ⟨ad155, e155, hx155_0⟩ := Kd.at_int HR1.out x5_1 p155 q155
    cases e155
    replace p155 := eq_true p155
    replace q155 := eq_true q155
    go_wp2
    repeat (go_quiet (fail); try go_wp2)
    go_ret
    exact ⟨by first | rfl | (simp; done) | (simp [*]; done), by repeat (first | exact Drawn0.refl _ | apply Drawn0.step)⟩
   rw [if_pos c7] at H
   have c7b0 : ((rd l0 x5_1) == (rd l1 x5_1)) = true := beq_iff_eq.mpr c7
   have c7b1 : ((rd l0 x5_1) != (rd l1 x5_1)) = false := bne_eq_false_iff_eq.mpr c7
   clear c7
   have H' := Aside0.mk H
   clear H
   have p154 : 0 ≤ (x5_1 : Int) := od_
   have q154 : x5_1 < (l0.length : Int) := od_
   obtain ⟨ad154, e154, hx154_0⟩ := Kd.at_int HR0.out x5_1 p154 q154
   cases e154
   replace p154 := eq_true p154
   replace q154 := eq_true q154
   have p155 : 0 ≤ (x5_1 : Int) := od_
   have q155 : x5_1 < (l1.length : Int) := od_
   obtain ⟨ad155, e155, hx155_0⟩ := Kd.at_int HR1.out x5_1 p155 q155
   cases e155
   replace p155 := eq_true p155
   replace q155 := eq_true q155
   go_wp2
   repeat (go_quiet (fail); try go_wp2)
   go_roundg k1
   case measure => have := HK1.out; omega
   case rel => exact ⟨(wrap64 (x5_1 + 1)), (by first | rfl | (simp; done) | (simp [*]; done)), H', ⟨by have := HK1.out; omega⟩, by repeat (first | exact Drawn0.refl _ | apply Drawn0.step)⟩

/-! ### lattice_Size: function 34 -/
def lattice_Size.f (l0_0 : List Int) (a0_1 : Int) (a1 : Int) (a2 : Int) : Option (Int) := if Core.okCards l0_0 = true ∧ (0 ≤ a1 ∧ a1 ≤ 1000000) ∧ (0 ≤ a2 ∧ a2 < 16) then some (Core.sizeI l0_0 a1 a2) else none
theorem lattice_Size.calls (A0_0 : Option Addr) (c0_0 : Nat) (l0_0 : List Int) (a0_1 : Int) (a1 : Int) (a2 : Int) (r : Int) (w : World) (hr0_0 : Kd.C (Kd.int .i64) w A0_0 l0_0.length l0_0) (hc0_0 : l0_0.length ≤ c0_0) (h : lattice_Size.f l0_0 a0_1 a1 a2 = some r) :
 Calls Try.prog 34 #[.agg #[.slice A0_0 l0_0.length c0_0, .int .i64 a0_1], .int .i64 a1, .int .i64 a2] w fun e w' => e = .returned (.int .i64 r) ∧ Below w.heap.size w w' := by
 unfold lattice_Size.f at h
 by_cases hh : Core.okCards l0_0 = true ∧ (0 ≤ a1 ∧ a1 ≤ 1000000) ∧ (0 ≤ a2 ∧ a2 < 16)
 rotate_left
 ·rw [if_neg hh] at h; cases h
 rw [if_pos hh] at h
 obtain rfl := Option.some.inj h
 exact Core.size_K A0_0 c0_0 l0_0 a0_1 a1 a2 w hr0_0 hh.1 hh.2.1 hh.2.2

/-! ### hypercubelaw8_LatticeTrue: function 6 -/
mutual
def hypercubelaw8_LatticeTrue.l0 : Nat → List (S39) → Int → List (List Int) → Int → List Int → Int → Option (Bool)
 | 0, _, _, _, _, _, _ => none
 | k + 1, x10, x11, x12, x13, x166000, x166001 => if x13 < (x10.length : Int) then (hypercubelaw8_LatticeTrue.l1 k x10 x11 x12 x13 ([] : List Int) 0 x166000 x166001) else ((lattice_Size.f x166000 x166001 (x10.length : Int) x11).bind fun t167 => (some (decide ((x12.length : Int) ≤ t167))))
def hypercubelaw8_LatticeTrue.l1 : Nat → List (S39) → Int → List (List Int) → Int → List Int → Int → List Int → Int → Option (Bool)
 | 0, _, _, _, _, _, _, _, _ => none
 | k + 1, x10, x11, x12, x13, x14, x15, x166000, x166001 => if x15 < (x166000.length : Int) then (if 0 ≤ (IntKind.u64.wrap (x15)) then (if (Go.bits .and .i64 (shr .i64 x11 (IntKind.u64.wrap (x15))) 1) = 1 then (if 0 ≤ x13 then (if x13 < (x10.length : Int) then (if 0 ≤ x15 then (if x15 < (((rd_T39 x10 x13).f0).length : Int) then (if x14.length < 17592186044416 then (hypercubelaw8_LatticeTrue.l1 k x10 x11 x12 x13 (x14 ++ [rd ((rd_T39 x10 x13).f0) x15]) (wrap64 (x15 + 1)) x166000 x166001) else (none)) else (none)) else (none)) else (none)) else (none)) else (hypercubelaw8_LatticeTrue.l1 k x10 x11 x12 x13 x14 (wrap64 (x15 + 1)) x166000 x166001)) else (none)) else (hypercubelaw8_LatticeTrue.l2 k x10 x11 x12 x13 x14 false 0 x166000 x166001)
def hypercubelaw8_LatticeTrue.l2 : Nat → List (S39) → Int → List (List Int) → Int → List Int → Bool → Int → List Int → Int → Option (Bool)
 | 0, _, _, _, _, _, _, _, _, _ => none
 | k + 1, x10, x11, x12, x13, x14, x16, x17, x166000, x166001 => if x17 < (x12.length : Int) then (if x16 = true then (hypercubelaw8_LatticeTrue.l2 k x10 x11 x12 x13 x14 true (wrap64 (x17 + 1)) x166000 x166001) else (if 0 ≤ x17 then ((hypercuberef1_Ints.f k (rd_L1 x12 x17) x14).bind fun t174 => (hypercubelaw8_LatticeTrue.l2 k x10 x11 x12 x13 x14 t174 (wrap64 (x17 + 1)) x166000 x166001)) else (none))) else (if x16 = true then (hypercubelaw8_LatticeTrue.l0 k x10 x11 x12 (wrap64 (x13 + 1)) x166000 x166001) else (if x12.length < 5864062014805 then (hypercubelaw8_LatticeTrue.l0 k x10 x11 (x12 ++ [x14]) (wrap64 (x13 + 1)) x166000 x166001) else (none)))
end
def hypercubelaw8_LatticeTrue.f (k : Nat) (a0 : Int) (l1 : List Int) (l2 : List Int) (a3 : Int) : Option (Bool) := (hypercubelaw8_known.f).bind fun t157 => (if t157 = true then ((hypercubelaw1_Facts.f k a0 l1 0 l2).bind fun bt158 => (if 0 ≤ (IntKind.u64.wrap ((bt158.1.length : Int))) then ((hypercubelaw8_within.f a3 (shl .i64 1 (IntKind.u64.wrap ((bt158.1.length : Int))))).bind fun t166 => (hypercubelaw8_LatticeTrue.l0 k bt158.2.2 t166 ([] : List (List Int)) 0 bt158.1 bt158.2.1)) else (none))) else (some false))
theorem hypercubelaw8_LatticeTrue.mono_l : ∀ k, (∀ y0 y1 y2 y3 y4 y5, LeO (hypercubelaw8_LatticeTrue.l0 k y0 y1 y2 y3 y4 y5) (hypercubelaw8_LatticeTrue.l0 (k + 1) y0 y1 y2 y3 y4 y5)) ∧ (∀ y0 y1 y2 y3 y4 y5 y6 y7, LeO (hypercubelaw8_LatticeTrue.l1 k y0 y1 y2 y3 y4 y5 y6 y7) (hypercubelaw8_LatticeTrue.l1 (k + 1) y0 y1 y2 y3 y4 y5 y6 y7)) ∧ (∀ y0 y1 y2 y3 y4 y5 y6 y7 y8, LeO (hypercubelaw8_LatticeTrue.l2 k y0 y1 y2 y3 y4 y5 y6 y7 y8) (hypercubelaw8_LatticeTrue.l2 (k + 1) y0 y1 y2 y3 y4 y5 y6 y7 y8))
 | 0 => ⟨fun _ _ _ _ _ _ r h => by simp [hypercubelaw8_LatticeTrue.l0] at h, fun _ _ _ _ _ _ _ _ r h => by simp [hypercubelaw8_LatticeTrue.l1] at h, fun _ _ _ _ _ _ _ _ _ r h => by simp [hypercubelaw8_LatticeTrue.l2] at h⟩
 | k + 1 => by
  obtain ⟨ih0, ih1, ih2⟩ := hypercubelaw8_LatticeTrue.mono_l k
  refine ⟨?_, ?_, ?_⟩
  ·intro y0 y1 y2 y3 y4 y5
   unfold hypercubelaw8_LatticeTrue.l0
   repeat' first
   | (with_reducible exact ih0 _ _ _ _ _ _)
   | (with_reducible exact ih1 _ _ _ _ _ _ _ _)
   | (with_reducible exact ih2 _ _ _ _ _ _ _ _ _)
   | (with_reducible exact hypercubelaw1_Facts.mono _ _ _ _ _)
   | (with_reducible exact hypercuberef1_Ints.mono _ _ _)
   | (with_reducible exact LeO.refl _)
   | (with_reducible exact LeO.none _)
   | (with_reducible refine LeO.ite ?_ ?_)
   | (with_reducible refine LeO.bind ?_ (fun _ => ?_))
   | exact ih0 _ _ _ _ _ _
   | exact ih1 _ _ _ _ _ _ _ _
   | exact ih2 _ _ _ _ _ _ _ _ _
   | exact hypercubelaw1_Facts.mono _ _ _ _ _
   | exact hypercuberef1_Ints.mono _ _ _
   | exact LeO.none _
   | refine LeO.ite ?_ ?_
   | refine LeO.bind ?_ (fun _ => ?_)
  ·intro y0 y1 y2 y3 y4 y5 y6 y7
   unfold hypercubelaw8_LatticeTrue.l1
   repeat' first
   | (with_reducible exact ih0 _ _ _ _ _ _)
   | (with_reducible exact ih1 _ _ _ _ _ _ _ _)
   | (with_reducible exact ih2 _ _ _ _ _ _ _ _ _)
   | (with_reducible exact hypercubelaw1_Facts.mono _ _ _ _ _)
   | (with_reducible exact hypercuberef1_Ints.mono _ _ _)
   | (with_reducible exact LeO.refl _)
   | (with_reducible exact LeO.none _)
   | (with_reducible refine LeO.ite ?_ ?_)
   | (with_reducible refine LeO.bind ?_ (fun _ => ?_))
   | exact ih0 _ _ _ _ _ _
   | exact ih1 _ _ _ _ _ _ _ _
   | exact ih2 _ _ _ _ _ _ _ _ _
   | exact hypercubelaw1_Facts.mono _ _ _ _ _
   | exact hypercuberef1_Ints.mono _ _ _
   | exact LeO.none _
   | refine LeO.ite ?_ ?_
   | refine LeO.bind ?_ (fun _ => ?_)
  intro y0 y1 y2 y3 y4 y5 y6 y7 y8
  unfold hypercubelaw8_LatticeTrue.l2
  repeat' first
  | (with_reducible exact ih0 _ _ _ _ _ _)
  | (with_reducible exact ih1 _ _ _ _ _ _ _ _)
  | (with_reducible exact ih2 _ _ _ _ _ _ _ _ _)
  | (with_reducible exact hypercubelaw1_Facts.mono _ _ _ _ _)
  | (with_reducible exact hypercuberef1_Ints.mono _ _ _)
  | (with_reducible exact LeO.refl _)
  | (with_reducible exact LeO.none _)
  | (with_reducible refine LeO.ite ?_ ?_)
  | (with_reducible refine LeO.bind ?_ (fun _ => ?_))
  | exact ih0 _ _ _ _ _ _
  | exact ih1 _ _ _ _ _ _ _ _
  | exact ih2 _ _ _ _ _ _ _ _ _
  | exact hypercubelaw1_Facts.mono _ _ _ _ _
  | exact hypercuberef1_Ints.mono _ _ _
  | exact LeO.none _
  | refine LeO.ite ?_ ?_
  | refine LeO.bind ?_ (fun _ => ?_)
set_option maxHeartbeats 8000000 in
set_option maxRecDepth 100000 in
theorem hypercubelaw8_LatticeTrue.calls (k : Nat) (a0 : Int) (A1 : Option Addr) (c1 : Nat) (l1 : List Int) (A2 : Option Addr) (c2 : Nat) (l2 : List Int) (a3 : Int) (r : Bool) (w : World) (hr1 : Kd.C (Kd.int .i64) w A1 l1.length l1) (hc1 : l1.length ≤ c1) (hr2 : Kd.C (Kd.int .i64) w A2 l2.length l2) (hc2 : l2.length ≤ c2) (h : hypercubelaw8_LatticeTrue.f k a0 l1 l2 a3 = some r) :
 Calls Try.prog 6 #[.int .i64 a0, .slice A1 l1.length c1, .slice A2 l2.length c2, .int .i64 a3] w fun e w' => e = .returned (.bool r) ∧ Below w.heap.size w w' := by
 have hu33 := Try.underlying33
 have HR1 := Aside0.mk hr1
 have HC1 := Aside0.mk hc1
 clear hr1 hc1
 have HR2 := Aside0.mk hr2
 have HC2 := Aside0.mk hc2
 clear hr2 hc2
 have HB := Aside0.mk (Below.refl w.heap.size w)
 have H : ((hypercubelaw8_known.f).bind fun t157 => (if t157 = true then ((hypercubelaw1_Facts.f k a0 l1 0 l2).bind fun bt158 => (if 0 ≤ (IntKind.u64.wrap ((bt158.1.length : Int))) then ((hypercubelaw8_within.f a3 (shl .i64 1 (IntKind.u64.wrap ((bt158.1.length : Int))))).bind fun t166 => (hypercubelaw8_LatticeTrue.l0 k bt158.2.2 t166 ([] : List (List Int)) 0 bt158.1 bt158.2.1)) else (none))) else (some false))) = some r := h
 clear h
 replace H := Option.bind_eq_some_iff.mp H
 obtain ⟨t157, A50, H⟩ := H
 replace H : (if t157 = true then ((hypercubelaw1_Facts.f k a0 l1 0 l2).bind fun bt158 => (if 0 ≤ (IntKind.u64.wrap ((bt158.1.length : Int))) then ((hypercubelaw8_within.f a3 (shl .i64 1 (IntKind.u64.wrap ((bt158.1.length : Int))))).bind fun t166 => (hypercubelaw8_LatticeTrue.l0 k bt158.2.2 t166 ([] : List (List Int)) 0 bt158.1 bt158.2.1)) else (none))) else (some false)) = some r := H
 have A5 := Aside0.mk A50
 clear A50
 by_cases c6 : t157 = true
 rotate_left
 ·replace c6 := Bool.eq_false_iff.mpr c6
  subst c6
  have H1 : (some false) = some r := by rw [if_neg (show ¬ (false = true) by decide)] at H; exact H
  clear H
  have H := H1
  clear H1
  obtain rfl := Option.some.inj H
  go_enter Try.func6, Try.ntmps6
  go_wp2_with (first | ((with_reducible refine gate_callee (f := 27) rfl ?_); refine goesL_ (some 18) rfl rfl Try.func27 (by kernel_rfl) rfl #[] rfl (by (try simp only [List.map_toArray, List.map_cons, List.map_nil]); first | done | rfl | (simp only [List.length_drop, List.length_take]; rfl)) ?_; (with_reducible refine (hypercubelaw8_known.calls  false _ A5.out).mono ?_); rintro e w51 ⟨rfl, hb⟩; refine ⟨_, rfl, ?_⟩; have n0_ := Aside0.mk (below_step (by repeat (first | (with_reducible first | exact HB.out | apply below_alloc | apply pw_below_drewN | apply below_drew1) | exact HB.out)) hb); clear HB; have HB := n0_; clear n0_; (try clear hb); (try clear hb2); (try clear hk); (try clear hi)))
  go_ret
  exact ⟨by first | rfl | (simp [errW_none, errW_some] <;> rfl) | (simp [*, errW_none, errW_some] <;> rfl), by repeat (first | (with_reducible first | exact HB.out | apply below_alloc | apply pw_below_drewN | apply below_drew1) | exact HB.out)⟩
 subst c6
 have H1 : ((hypercubelaw1_Facts.f k a0 l1 0 l2).bind fun bt158 => (if 0 ≤ (IntKind.u64.wrap ((bt158.1.length : Int))) then ((hypercubelaw8_within.f a3 (shl .i64 1 (IntKind.u64.wrap ((bt158.1.length : Int))))).bind fun t166 => (hypercubelaw8_LatticeTrue.l0 k bt158.2.2 t166 ([] : List (List Int)) 0 bt158.1 bt158.2.1)) else (none))) = some r := by rw [if_pos rfl] at H; exact H
 clear H
 have H := H1
 clear H1
 replace H := Option.bind_eq_some_iff.mp H
 obtain ⟨⟨t158, t161, t162⟩, A70, H⟩ := H
 replace H : (if 0 ≤ (IntKind.u64.wrap ((t158.length : Int))) then ((hypercubelaw8_within.f a3 (shl .i64 1 (IntKind.u64.wrap ((t158.length : Int))))).bind fun t166 => (hypercubelaw8_LatticeTrue.l0 k t162 t166 ([] : List (List Int)) 0 t158 t161)) else (none)) = some r := H
 have A7 := Aside0.mk A70
 clear A70
 obtain ⟨ji8, hji8⟩ : ∃ j_ : Int, (IntKind.u64.wrap ((t158.length : Int))) = j_ := ⟨_, rfl⟩
 replace H : (if 0 ≤ (ji8) then ((hypercubelaw8_within.f a3 (shl .i64 1 (ji8))).bind fun t166 => (hypercubelaw8_LatticeTrue.l0 k t162 t166 ([] : List (List Int)) 0 t158 t161)) else (none)) = some r := by first | (rw [hji8] at H; exact H) | (simp only [hji8] at H ⊢; exact H)
 (try rw [hji8] at A5)
 (try rw [hji8] at A7)
 by_cases c9 : 0 ≤ (ji8)
 rotate_left
 ·rw [if_neg c9] at H
  exact absurd H (by simp)
 rw [if_pos c9] at H
 have c9b0 := eq_true c9
 have c9b1 : decide (0 ≤ (ji8)) = true := decide_eq_true c9
 clear c9
 obtain ⟨ji10, hji10⟩ : ∃ j_ : Int, (shl .i64 1 (ji8)) = j_ := ⟨_, rfl⟩
 replace H : ((hypercubelaw8_within.f a3 (ji10)).bind fun t166 => (hypercubelaw8_LatticeTrue.l0 k t162 t166 ([] : List (List Int)) 0 t158 t161)) = some r := by first | (rw [hji10] at H; exact H) | (simp only [hji10] at H ⊢; exact H)
 (try rw [hji10] at A5)
 (try rw [hji10] at A7)
 have hji10_ : (IntKind.i64.wrap (1 * 2 ^ min (ji8).toNat 64)) = ji10 := hji10
 have hji10z : (ji8) ≤ 64 → (IntKind.i64.wrap (1 * 2 ^ (ji8).toNat)) = ji10 := shl_small hji10
 have hji10u : (IntKind.i64.wrap (2 ^ min (ji8).toNat 64)) = ji10 := by have h_ := hji10_; rw [Int.one_mul] at h_; exact h_
 have hji10v : (ji8) ≤ 64 → (IntKind.i64.wrap (2 ^ (ji8).toNat)) = ji10 := fun hle_ => by have h_ := hji10z hle_; rw [Int.one_mul] at h_; exact h_
 have hji10y : (wrap64 (1 * 2 ^ min (ji8).toNat 64)) = ji10 := (i64_w _).symm.trans hji10_
 have hji10x : (ji8) ≤ 64 → (wrap64 (1 * 2 ^ (ji8).toNat)) = ji10 := fun h_ => (i64_w _).symm.trans (hji10z h_)
 replace H := Option.bind_eq_some_iff.mp H
 obtain ⟨t166, A110, H⟩ := H
 replace H : (hypercubelaw8_LatticeTrue.l0 k t162 t166 ([] : List (List Int)) 0 t158 t161) = some r := H
 have A11 := Aside0.mk A110
 clear A110
 have H' := Aside0.mk H
 clear H
 go_enter Try.func6, Try.ntmps6
 go_wp2_with (first | ((with_reducible refine gate_callee (f := 27) rfl ?_); refine goesL_ (some 18) rfl rfl Try.func27 (by kernel_rfl) rfl #[] rfl (by (try simp only [List.map_toArray, List.map_cons, List.map_nil]); first | done | rfl | (simp only [List.length_drop, List.length_take]; rfl)) ?_; (with_reducible refine (hypercubelaw8_known.calls  true _ A5.out).mono ?_); rintro e w12 ⟨rfl, hb⟩; refine ⟨_, rfl, ?_⟩; have n0_ := Aside0.mk (below_step (by repeat (first | (with_reducible first | exact HB.out | apply below_alloc | apply pw_below_drewN | apply below_drew1) | exact HB.out)) hb); clear HB; have HB := n0_; clear n0_; (try clear hb); (try clear hb2); (try clear hk); (try clear hi)) | ((with_reducible refine gate_callee (f := 32) rfl ?_); refine goesL_ (some 24) rfl rfl Try.func32 (by kernel_rfl) rfl #[.int .i64 a0, .slice A1 l1.length c1, .int .i64 0, .slice A2 l2.length c2] rfl (by (try simp only [List.map_toArray, List.map_cons, List.map_nil]); first | done | rfl | (simp only [List.length_drop, List.length_take]; rfl)) ?_; (with_reducible refine (hypercubelaw1_Facts.calls k a0 _ _ l1 0 _ _ l2 t158 t161 t162 _ ?side1 ?side2 ?side3 ?side4 A7.out).mono ?_); (case side1 => repeat (first | exact (Kd.C_below HR1.out HB.out) | (with_reducible refine Kd.C_alloc ?_ _) | (with_reducible refine Kd.C_drewN ?_ _) | (with_reducible refine Kd.C_drew ?_))); (case side2 => exact HC1.out); (case side3 => repeat (first | exact (Kd.C_below HR2.out HB.out) | (with_reducible refine Kd.C_alloc ?_ _) | (with_reducible refine Kd.C_drewN ?_ _) | (with_reducible refine Kd.C_drew ?_))); (case side4 => exact HC2.out); rintro e w13 ⟨v159, v163, rfl, ho0, ho1, hb⟩; refine ⟨_, rfl, ?_⟩; have n0_ := Aside0.mk (Kd.R_lower ho0 (below_size (by repeat (first | (with_reducible first | exact HB.out | apply below_alloc | apply pw_below_drewN | apply below_drew1) | exact HB.out)))); have n1_ := Aside0.mk (Kd.S_lower ho1 (below_size (by repeat (first | (with_reducible first | exact HB.out | apply below_alloc | apply pw_below_drewN | apply below_drew1) | exact HB.out)))); have n2_ := Aside0.mk (below_step (by repeat (first | (with_reducible first | exact HB.out | apply below_alloc | apply pw_below_drewN | apply below_drew1) | exact HB.out)) hb); clear HB; have HO160 := n0_; have HO164 := n1_; have HB := n2_; clear n0_ n1_ n2_; (try clear hb); (try clear hb2); (try clear hk); (try clear hi); (try clear ho0); (try clear ho1)) | ((with_reducible refine gate_dst (N := 9) rfl ?_); refine box_event ?hg (N := 9) ?hd (cs := #[.slice none 0 0, .int .i64 0]) (t := 33) ?hr ?_; (case hd => rfl); (case hg => rfl); (case hr => first | (go_simp; done) | (go_simp; rfl)); intro gb165 hg w14 hbox hb; have n0_ := Aside0.mk (Kd.R_below (by (with_reducible repeat (first | apply Kd.R_alloc | apply Kd.R_drewN | apply Kd.R_drew)); exact HO160.out) hb); have n1_ := Aside0.mk (Kd.S_below (by (with_reducible repeat (first | apply Kd.S_alloc | apply Kd.S_drewN | apply Kd.S_drew)); exact HO164.out) hb); have n2_ := Aside0.mk (below_step (by repeat (first | (with_reducible first | exact HB.out | apply below_alloc | apply pw_below_drewN | apply below_drew1) | exact HB.out)) hb); have n3_ := Aside0.mk (hbox); have n4_ := Aside0.mk ((by rw [hg]; exact (below_size (by repeat (first | (with_reducible first | exact HB.out | apply below_alloc | apply pw_below_drewN | apply below_drew1) | exact HB.out))) : w.heap.size ≤ gb165)); have n5_ := Aside0.mk ((by rw [hg]; exact (below_size (by repeat (first | (with_reducible first | exact HB.out | apply below_alloc | apply pw_below_drewN | apply below_drew1) | exact HB.out))) : w.heap.size ≤ gb165)); clear HO160; clear HO164; clear HB; have HO160 := n0_; have HO164 := n1_; have HB := n2_; have BK165 := n3_; have GW165 := n4_; have GE165 := n5_; clear n0_ n1_ n2_ n3_ n4_ n5_; clear hb hbox hg; obtain ⟨Ao15, co15, eo15⟩ := Kd.R_slice HO160.out; subst eo15; have hcz16_0 : w14.cell? ⟨gb165, 0, none⟩ = some (.slice none 0 0) := (blk_cell BK165.out 0).trans rfl; have hcz16_1 : w14.cell? ⟨gb165, 1, none⟩ = some (.int .i64 0) := (blk_cell BK165.out 1).trans rfl; have hfz16_0 := blk_frozen BK165.out 0; have hfz16_1 := blk_frozen BK165.out 1) | ((with_reducible refine gate_callee (f := 28) rfl ?_); refine goesL_ (some 33) rfl rfl Try.func28 (by kernel_rfl) rfl #[.int .i64 a3, .int .i64 ji10] rfl (by (try simp only [List.map_toArray, List.map_cons, List.map_nil]); first | done | (simp only [hji10]; rfl) | rfl | (simp only [List.length_drop, List.length_take]; rfl)) ?_; (with_reducible refine (hypercubelaw8_within.calls a3 ji10 t166 _ A11.out).mono ?_); rintro e w' ⟨rfl, ⟨nd, rfl⟩⟩; refine ⟨_, rfl, ?_⟩))
 go_loopg [12, 13] k (fun kq v12 v13 w' => ∃ (x12_1 : List (List Int)) (x13_1 : Int), v13 = .int .i64 x13_1 ∧ Aside0 (hypercubelaw8_LatticeTrue.l0 kq t162 t166 x12_1 x13_1 t158 t161 = some r) ∧ Aside0 (kq ≤ k) ∧ Aside0 (Kd.S k39 39 w' w.heap.size (fun k_ => some k_ ≠ ((.slice Ao15 t158.length co15) : Value).ownBlock) v163 t162) ∧ Aside0 (Kd.S (Kd.slice 3 (Kd.int .i64)) 24 w' w.heap.size (fun k_ => some k_ ≠ ((.slice Ao15 t158.length co15) : Value).ownBlock) v12 x12_1) ∧ Aside0 (Kd.R (Kd.int .i64) 3 w' w.heap.size (fun _ => True) (.slice Ao15 t158.length co15) t158) ∧ Aside0 (w'.heap[gb165]? = some (.cells #[(.slice Ao15 t158.length co15), .int .i64 t161] 33 (0, 0))) ∧ Aside0 (Below w.heap.size w w'))
 case atStart => exact ⟨(([] : List (List Int))), (0), (by first | rfl | (simp; done) | (simp [*]; done)), H', ⟨Nat.le_refl _⟩, ⟨by (with_reducible repeat (first | apply Kd.S_alloc | apply Kd.S_drewN | apply Kd.S_drew)); exact Kd.S_mono (Kd.S_far (p := ⟨gb165, 1, none⟩) (Kd.S_far (p := ⟨gb165, 0, none⟩) (Kd.S_types HO164.out BK165.out (by decide)) (fun _ hk => hk.2) (.slice Ao15 t158.length co15)) (fun _ hk => hk.2) (.int .i64 t161)) (fun _ hk => hk.1)⟩, ⟨by first | exact Kd.S_nil _ _ _ _ _ | exact Kd.N_nil _ _ _ _ _ | exact Kd.V_nil _ _ _ _ _ | exact Kd.Q_nil _ _ _ _ _ | exact Kd.R_nil _ _ _ _ _⟩, ⟨by (with_reducible repeat (first | apply Kd.R_alloc | apply Kd.R_drewN | apply Kd.R_drew)); exact Kd.R_mono (Kd.R_far (p := ⟨gb165, 1, none⟩) (Kd.R_far (p := ⟨gb165, 0, none⟩) (Kd.R_types HO160.out BK165.out (by decide)) (fun _ hk => hk.2) (.slice Ao15 t158.length co15)) (fun _ hk => hk.2) (.int .i64 t161)) (fun _ hk => trivial)⟩, ⟨by (with_reducible repeat (first | refine blk_drewN ?_ _ | refine blk_drew ?_ | refine blk_alloc ?_ _)); refine blk_put (cs := #[.slice Ao15 t158.length co15, .int .i64 0]) ?_ 1 _ rfl; (with_reducible repeat (first | refine blk_drewN ?_ _ | refine blk_drew ?_ | refine blk_alloc ?_ _)); refine blk_put (cs := #[.slice none 0 0, .int .i64 0]) ?_ 0 _ rfl; (with_reducible repeat (first | refine blk_drewN ?_ _ | refine blk_drew ?_ | refine blk_alloc ?_ _)); exact BK165.out⟩, ⟨by repeat (first | (with_reducible first | exact HB.out | apply below_alloc | apply pw_below_drewN | apply below_drew1 | refine below_set ?_ GE165.out) | exact HB.out)⟩⟩
 case round =>
  clear H'
  try clear c1
  try clear c2
  try clear p2
  try clear c3
  try clear c6
  try clear p6
  try clear c9
  try clear c9b0
  try clear c9b1
  try clear hcz16_0
  try clear hcz16_1
  try clear hfz16_0
  try clear hfz16_1
  obtain ⟨x12_1, x13_1, rfl, HA, HK1, HO_10, HO_12, HO_166000, BK165, HB⟩ := hrel
  cases gk with
  | zero => exact absurd HA.out (by simp [hypercubelaw8_LatticeTrue.l0])
  | succ k1 =>
   have H := HA.out
   clear HA
   simp only [hypercubelaw8_LatticeTrue.l0] at H
   by_cases c17 : x13_1 < (t162.length : Int)
   rotate_left
   ·rw [if_neg c17] at H
    have c17b0 : decide (x13_1 < (t162.length : Int)) = false := decide_eq_false c17
    clear c17
    replace H := Option.bind_eq_some_iff.mp H
    obtain ⟨t167, A460, H⟩ := H
    replace H : (some (decide ((x12_1.length : Int) ≤ t167))) = some r := H
    have A46 := Aside0.mk A460
    clear A460
    obtain rfl := Option.some.inj H
    obtain ⟨Ao47, co47, eo47⟩ := Kd.S_slice HO_10.out
    subst eo47
    obtain ⟨Ao48, co48, eo48⟩ := Kd.S_slice HO_12.out
    subst eo48
    have hcz49_0 : wr.cell? ⟨gb165, 0, none⟩ = some (.slice Ao15 t158.length co15) := (blk_cell BK165.out 0).trans rfl
    have hcz49_1 : wr.cell? ⟨gb165, 1, none⟩ = some (.int .i64 t161) := (blk_cell BK165.out 1).trans rfl
    have hfz49_0 := blk_frozen BK165.out 0
    have hfz49_1 := blk_frozen BK165.out 1
    go_wp2_with (first | ((with_reducible refine gate_callee (f := 34) rfl ?_); refine goesL_ (some 91) rfl rfl Try.func34 (by kernel_rfl) rfl #[.agg #[.slice Ao15 t158.length co15, .int .i64 t161], .int .i64 (t162.length : Int), .int .i64 t166] rfl (by (try simp only [List.map_toArray, List.map_cons, List.map_nil]); first | done | rfl | (simp only [List.length_drop, List.length_take]; rfl)) ?_; (with_reducible refine (lattice_Size.calls _ _ t158 t161 (t162.length : Int) t166 t167 _ ?side1 ?side2 A46.out).mono ?_); (case side1 => repeat (first | exact (Kd.R_reads' HO_166000.out).2.2 | (with_reducible refine Kd.C_alloc ?_ _) | (with_reducible refine Kd.C_drewN ?_ _) | (with_reducible refine Kd.C_drew ?_))); (case side2 => exact (Kd.R_reads' HO_166000.out).2.1); rintro e w50 ⟨rfl, hb⟩; refine ⟨_, rfl, ?_⟩; have n0_ := Aside0.mk (Kd.S_below (by (with_reducible repeat (first | apply Kd.S_alloc | apply Kd.S_drewN | apply Kd.S_drew)); exact HO_10.out) hb); have n1_ := Aside0.mk (Kd.S_below (by (with_reducible repeat (first | apply Kd.S_alloc | apply Kd.S_drewN | apply Kd.S_drew)); exact HO_12.out) hb); have n2_ := Aside0.mk (Kd.R_below (by (with_reducible repeat (first | apply Kd.R_alloc | apply Kd.R_drewN | apply Kd.R_drew)); exact HO_166000.out) hb); have n3_ := Aside0.mk (blk_below (g := gb165) (o := .cells #[.slice Ao15 t158.length co15, .int .i64 t161] 33 (0, 0)) (by (with_reducible repeat (first | refine blk_drewN ?_ _ | refine blk_drew ?_ | refine blk_alloc ?_ _)); exact BK165.out) hb); have n4_ := Aside0.mk (below_step (by repeat (first | (with_reducible first | exact HB.out | apply below_alloc | apply pw_below_drewN | apply below_drew1 | refine below_set ?_ GE165.out) | exact HB.out)) hb); clear HO_10; clear HO_12; clear HO_166000; clear BK165; clear HB; have HO_10 := n0_; have HO_12 := n1_; have HO_166000 := n2_; have BK165 := n3_; have HB := n4_; clear n0_ n1_ n2_ n3_ n4_; (try clear hb); (try clear hb2); (try clear hk); (try clear hi)))
    go_ret
    exact ⟨by first | rfl | (simp [errW_none, errW_some] <;> rfl) | (simp only [← hji8, ← hji10]; first | rfl | (simp [errW_none, errW_some] <;> rfl)) | (simp [*, errW_none, errW_some] <;> rfl), by repeat (first | (with_reducible first | exact HB.out | apply below_alloc | apply pw_below_drewN | apply below_drew1 | refine below_set ?_ GE165.out) | exact HB.out)⟩
   rw [if_pos c17] at H
   have c17b0 : decide (x13_1 < (t162.length : Int)) = true := decide_eq_true c17
   clear c17
   have H' := Aside0.mk H
   clear H
   obtain ⟨Ao18, co18, eo18⟩ := Kd.S_slice HO_10.out
   subst eo18
   go_wp2
   go_loopg [14, 15] k1 (fun kq v14 v15 w' => ∃ (x14_2 : List Int) (x15_2 : Int), v15 = .int .i64 x15_2 ∧ Aside0 (hypercubelaw8_LatticeTrue.l1 kq t162 t166 x12_1 x13_1 x14_2 x15_2 t158 t161 = some r) ∧ Aside0 (kq ≤ k1) ∧ Aside0 (Kd.S k39 39 w' w.heap.size (fun k_ => some k_ ≠ (v14 : Value).ownBlock ∧ some k_ ≠ ((.slice Ao15 t158.length co15) : Value).ownBlock) (.slice Ao18 t162.length co18) t162) ∧ Aside0 (Kd.S (Kd.slice 3 (Kd.int .i64)) 24 w' w.heap.size (fun k_ => some k_ ≠ (v14 : Value).ownBlock ∧ some k_ ≠ ((.slice Ao15 t158.length co15) : Value).ownBlock) u12 x12_1) ∧ Aside0 (Kd.R (Kd.int .i64) 3 w' w.heap.size (fun k_ => some k_ ≠ ((.slice Ao15 t158.length co15) : Value).ownBlock) v14 x14_2) ∧ Aside0 (Kd.R (Kd.int .i64) 3 w' w.heap.size (fun k_ => some k_ ≠ (v14 : Value).ownBlock) (.slice Ao15 t158.length co15) t158) ∧ Aside0 (w'.heap[gb165]? = some (.cells #[(.slice Ao15 t158.length co15), .int .i64 t161] 33 (0, 0))) ∧ Aside0 (Below w.heap.size w w'))
   case atStart => exact ⟨(([] : List Int)), (0), (by first | rfl | (simp; done) | (simp [*]; done)), H', ⟨Nat.le_refl _⟩, ⟨by (with_reducible repeat (first | apply Kd.S_alloc | apply Kd.S_drewN | apply Kd.S_drew)); exact Kd.S_mono HO_10.out (fun _ hk => ⟨(by simp [Value.ownBlock]), hk⟩)⟩, ⟨by (with_reducible repeat (first | apply Kd.S_alloc | apply Kd.S_drewN | apply Kd.S_drew)); exact Kd.S_mono HO_12.out (fun _ hk => ⟨(by simp [Value.ownBlock]), hk⟩)⟩, ⟨by first | exact Kd.R_nil _ _ _ _ _ | exact Kd.N_nil _ _ _ _ _ | exact Kd.V_nil _ _ _ _ _ | exact Kd.Q_nil _ _ _ _ _ | exact Kd.S_nil _ _ _ _ _⟩, ⟨by (with_reducible repeat (first | apply Kd.R_alloc | apply Kd.R_drewN | apply Kd.R_drew)); exact Kd.R_mono HO_166000.out (fun _ hk => (by simp [Value.ownBlock]))⟩, ⟨by (with_reducible repeat (first | refine blk_drewN ?_ _ | refine blk_drew ?_ | refine blk_alloc ?_ _)); exact BK165.out⟩, ⟨by repeat (first | (with_reducible first | exact HB.out | apply below_alloc | apply pw_below_drewN | apply below_drew1 | refine below_set ?_ GE165.out) | exact HB.out)⟩⟩
   case round =>
    clear H'
    try clear c1
    try clear c2
    try clear p2
    try clear c3
    try clear c6
    try clear p6
    try clear c9
    try clear c9b0
    try clear c9b1
    try clear c17
    try clear c17b0
    try clear hcz16_0
    try clear hcz16_1
    try clear hfz16_0
    try clear hfz16_1
    try clear p2
    try clear p6
    obtain ⟨x14_2, x15_2, rfl, HA, HK2, HO_10, HO_12, HO_14, HO_166000, BK165, HB⟩ := hrel
    cases gk with
    | zero => exact absurd HA.out (by simp [hypercubelaw8_LatticeTrue.l1])
    | succ k2 =>
     have H := HA.out
     clear HA
     simp only [hypercubelaw8_LatticeTrue.l1] at H
     by_cases c19 : x15_2 < (t158.length : Int)
     ·rw [if_pos c19] at H
      have c19b0 : decide (x15_2 < (t158.length : Int)) = true := decide_eq_true c19
      clear c19
      obtain ⟨ji20, hji20⟩ : ∃ j_ : Int, (IntKind.u64.wrap (x15_2)) = j_ := ⟨_, rfl⟩
      replace H : (if 0 ≤ (ji20) then (if (Go.bits .and .i64 (shr .i64 t166 (ji20)) 1) = 1 then (if 0 ≤ x13_1 then (if x13_1 < (t162.length : Int) then (if 0 ≤ x15_2 then (if x15_2 < (((rd_T39 t162 x13_1).f0).length : Int) then (if x14_2.length < 17592186044416 then (hypercubelaw8_LatticeTrue.l1 k2 t162 t166 x12_1 x13_1 (x14_2 ++ [rd ((rd_T39 t162 x13_1).f0) x15_2]) (wrap64 (x15_2 + 1)) t158 t161) else (none)) else (none)) else (none)) else (none)) else (none)) else (hypercubelaw8_LatticeTrue.l1 k2 t162 t166 x12_1 x13_1 x14_2 (wrap64 (x15_2 + 1)) t158 t161)) else (none)) = some r := by first | (rw [hji20] at H; exact H) | (simp only [hji20] at H ⊢; exact H)
      by_cases c21 : 0 ≤ (ji20)
      rotate_left
      ·rw [if_neg c21] at H
       exact absurd H (by simp)
      rw [if_pos c21] at H
      have c21b0 := eq_true c21
      have c21b1 : decide (0 ≤ (ji20)) = true := decide_eq_true c21
      clear c21
      obtain ⟨ji22, hji22⟩ : ∃ j_ : Int, (shr .i64 t166 (ji20)) = j_ := ⟨_, rfl⟩
      replace H : (if (Go.bits .and .i64 (ji22) 1) = 1 then (if 0 ≤ x13_1 then (if x13_1 < (t162.length : Int) then (if 0 ≤ x15_2 then (if x15_2 < (((rd_T39 t162 x13_1).f0).length : Int) then (if x14_2.length < 17592186044416 then (hypercubelaw8_LatticeTrue.l1 k2 t162 t166 x12_1 x13_1 (x14_2 ++ [rd ((rd_T39 t162 x13_1).f0) x15_2]) (wrap64 (x15_2 + 1)) t158 t161) else (none)) else (none)) else (none)) else (none)) else (none)) else (hypercubelaw8_LatticeTrue.l1 k2 t162 t166 x12_1 x13_1 x14_2 (wrap64 (x15_2 + 1)) t158 t161)) = some r := by first | (rw [hji22] at H; exact H) | (simp only [hji22] at H ⊢; exact H)
      have hji22_ : (t166 / 2 ^ min (ji20).toNat 64) = ji22 := hji22
      have hji22z : (ji20) ≤ 64 → (t166 / 2 ^ (ji20).toNat) = ji22 := shr_small hji22
      by_cases c23 : (Go.bits .and .i64 (ji22) 1) = 1
      rotate_left
      ·rw [if_neg c23] at H
       have c23b0 : ((Go.bits .and .i64 (ji22) 1) == 1) = false := beq_eq_false_iff_ne.mpr c23
       have c23b1 : ((Go.bits .and .i64 (ji22) 1) != 1) = true := bne_iff_ne.mpr c23
       have H' := Aside0.mk H
       clear H
       have hcz31_0 : wr.cell? ⟨gb165, 0, none⟩ = some (.slice Ao15 t158.length co15) := (blk_cell BK165.out 0).trans rfl
       have hcz31_1 : wr.cell? ⟨gb165, 1, none⟩ = some (.int .i64 t161) := (blk_cell BK165.out 1).trans rfl
       have hfz31_0 := blk_frozen BK165.out 0
       have hfz31_1 := blk_frozen BK165.out 1
       go_wp2
       go_roundg k2
       case measure => have := HK1.out; have := HK2.out; omega
       case rel => exact ⟨(x14_2), (wrap64 (x15_2 + 1)), (by first | rfl | (simp; done) | (simp [*]; done)), H', ⟨by have := HK1.out; have := HK2.out; omega⟩, ⟨by (with_reducible repeat (first | apply Kd.S_alloc | apply Kd.S_drewN | apply Kd.S_drew)); exact HO_10.out⟩, ⟨by (with_reducible repeat (first | apply Kd.S_alloc | apply Kd.S_drewN | apply Kd.S_drew)); exact HO_12.out⟩, ⟨by (with_reducible repeat (first | apply Kd.R_alloc | apply Kd.R_drewN | apply Kd.R_drew)); exact HO_14.out⟩, ⟨by (with_reducible repeat (first | apply Kd.R_alloc | apply Kd.R_drewN | apply Kd.R_drew)); exact HO_166000.out⟩, ⟨by (with_reducible repeat (first | refine blk_drewN ?_ _ | refine blk_drew ?_ | refine blk_alloc ?_ _)); exact BK165.out⟩, ⟨by repeat (first | (with_reducible first | exact HB.out | apply below_alloc | apply pw_below_drewN | apply below_drew1 | refine below_set ?_ GE165.out) | exact HB.out)⟩⟩
      rw [if_pos c23] at H
      have c23b0 : ((Go.bits .and .i64 (ji22) 1) == 1) = true := beq_iff_eq.mpr c23
      have c23b1 : ((Go.bits .and .i64 (ji22) 1) != 1) = false := bne_eq_false_iff_eq.mpr c23
      clear c23
      by_cases c24 : 0 ≤ x13_1
      rotate_left
      ·rw [if_neg c24] at H
       exact absurd H (by simp)
      rw [if_pos c24] at H
      have c24b0 : decide (0 ≤ x13_1) = true := decide_eq_true c24
      clear c24
      by_cases c25 : x13_1 < (t162.length : Int)
      rotate_left
      ·rw [if_neg c25] at H
       exact absurd H (by simp)
      rw [if_pos c25] at H
      have c25b0 : decide (x13_1 < (t162.length : Int)) = true := decide_eq_true c25
      clear c25
      by_cases c26 : 0 ≤ x15_2
      rotate_left
      ·rw [if_neg c26] at H
       exact absurd H (by simp)
      rw [if_pos c26] at H
      have c26b0 : decide (0 ≤ x15_2) = true := decide_eq_true c26
      clear c26
      by_cases c27 : x15_2 < (((rd_T39 t162 x13_1).f0).length : Int)
      rotate_left
      ·rw [if_neg c27] at H
       exact absurd H (by simp)
      rw [if_pos c27] at H
      have c27b0 : decide (x15_2 < (((rd_T39 t162 x13_1).f0).length : Int)) = true := decide_eq_true c27
      clear c27
      by_cases c28 : x14_2.length < 17592186044416
      rotate_left
      ·rw [if_neg c28] at H
       exact absurd H (by simp)
      rw [if_pos c28] at H
      have LMc28 := Aside0.mk c28
      clear c28
      obtain ⟨y170, hy170⟩ : ∃ y_ : List Int, y_ = (x14_2 ++ [rd ((rd_T39 t162 x13_1).f0) x15_2]) := ⟨_, rfl⟩
      replace H : (hypercubelaw8_LatticeTrue.l1 k2 t162 t166 x12_1 x13_1 y170 (wrap64 (x15_2 + 1)) t158 t161) = some r := by first | (rw [hy170]; with_reducible exact H) | (have H2_ := (Option.bind_some _ _).symm.trans H; rw [hy170]; with_reducible exact H2_) | (have H2_ := (Option.bind_some _ _).symm.trans H; with_reducible exact H2_) | with_reducible exact H | (rw [hy170]; exact H) | exact H
      have Ny170 := Aside0.mk hy170
      clear hy170
      have H' := Aside0.mk H
      clear H
      have hcz29_0 : wr.cell? ⟨gb165, 0, none⟩ = some (.slice Ao15 t158.length co15) := (blk_cell BK165.out 0).trans rfl
      have hcz29_1 : wr.cell? ⟨gb165, 1, none⟩ = some (.int .i64 t161) := (blk_cell BK165.out 1).trans rfl
      have hfz29_0 := blk_frozen BK165.out 0
      have hfz29_1 := blk_frozen BK165.out 1
      have p168 : 0 ≤ (x13_1 : Int) := od_
      have q168 : x13_1 < (t162.length : Int) := od_
      obtain ⟨ad168, A168_0, c168_0, A168_1, c168_1, e168, hx168_0, hx168_1, hl168_0, hi168_0, hl168_1, hi168_1⟩ := at_T39 (Kd.S_reads' HO_10.out).2.2 x13_1 p168 q168
      cases e168
      obtain ⟨ce168, hce168, hMe168, hcc168⟩ := Kd.S_get HO_10.out z39 x13_1 p168 (by first | exact q168 | exact of_decide_eq_true (by first | (with_reducible assumption) | assumption) | (have e_ := (Kd.S_reads' HO_10.out).1; omega))
      obtain ⟨ve168_0, ve168_1, rfl, ge168_0, ge168_1⟩ := k39_openM hMe168
      have hv168_0 := hcc168 0 _ rfl
      rw [Nat.add_zero] at hv168_0
      replace hv168_0 := Option.some.inj (hv168_0.symm.trans hx168_0)
      rw [hv168_0] at ge168_0
      have HL168_0 := Aside0.mk (show Kd.R (Kd.int .i64) 3 _ _ _ _ ((rd_T39 t162 x13_1).f0) from ge168_0)
      clear hv168_0 ge168_0
      have hv168_1 := hcc168 1 _ rfl
      rw [add_field _ _ 1 (by omega)] at hv168_1
      replace hv168_1 := Option.some.inj (hv168_1.symm.trans hx168_1)
      rw [hv168_1] at ge168_1
      have HL168_1 := Aside0.mk (show Kd.R (Kd.int .i64) 3 _ _ _ _ ((rd_T39 t162 x13_1).f1) from ge168_1)
      clear hv168_1 ge168_1
      clear hcc168 hce168
      have HR168_0 := Aside0.mk hi168_0
      have HC168_0 := Aside0.mk hl168_0
      clear hi168_0 hl168_0
      have HR168_1 := Aside0.mk hi168_1
      have HC168_1 := Aside0.mk hl168_1
      clear hi168_1 hl168_1
      replace p168 := eq_true p168
      replace q168 := eq_true q168
      have p169 : 0 ≤ (x15_2 : Int) := od_
      have q169 : x15_2 < (((rd_T39 t162 x13_1).f0).length : Int) := od_
      obtain ⟨ad169, e169, hx169_0⟩ := Kd.at_int (by repeat (first | (with_reducible exact HR168_0.out) | (with_reducible refine Kd.C_alloc ?_ _) | (with_reducible refine Kd.C_drewN ?_ _) | (with_reducible refine Kd.C_drew ?_) | exact HR168_0.out)) x15_2 p169 q169
      cases e169
      replace p169 := eq_true p169
      replace q169 := eq_true q169
      go_wp2_with (first | ((with_reducible refine gate_builtin (b := .append) (xs := #[.tmp 53, .tmp 62]) rfl ?_); at_builtin; refine Kd.R_append (Kd.int .i64) (w0 := w) w.heap.size rfl (.tmp 53) (.tmp 62) 24 3 (.int .i64 0) 8 rfl Try.underlying24 info3 rfl (by decide) (by omega) u14 x14_2 (rd ((rd_T39 t162 x13_1).f0) x15_2) [.int .i64 (rd ((rd_T39 t162 x13_1).f0) x15_2)] (fun k_ => some k_ ≠ (.slice Ao15 t158.length co15 : Value).ownBlock) (fun _ => False) rfl rfl ?aP (fun _ hk => hk.elim) ?aF ?aO ?aB ?aS ?aL ?_; (case aP => exact rfl); (case aB => exact (by repeat (first | (with_reducible first | exact HB.out | apply below_alloc | apply pw_below_drewN | apply below_drew1 | refine below_set ?_ GE165.out) | exact HB.out))); (case aF => exact (fun k_ hk => Kd.fresh' (Kd.R_lt (by (with_reducible repeat (first | apply Kd.R_alloc | apply Kd.R_drewN | apply Kd.R_drew)); exact HO_166000.out)) k_ hk)); (case aO => exact (by (with_reducible repeat (first | apply Kd.R_alloc | apply Kd.R_drewN | apply Kd.R_drew)); exact HO_14.out)); (case aS => exact (below_size (by repeat (first | (with_reducible first | exact HB.out | apply below_alloc | apply pw_below_drewN | apply below_drew1 | refine below_set ?_ GE165.out) | exact HB.out)))); (case aL => have := LMc28.out; omega); intro v171 w30 ho hb hg hat; rw [← Ny170.out] at ho; have n0_ := Aside0.mk (Kd.S_after (ok := (fun k_ => some k_ ≠ (.slice Ao15 t158.length co15 : Value).ownBlock)) (by (with_reducible repeat (first | apply Kd.S_alloc | apply Kd.S_drewN | apply Kd.S_drew)); exact Kd.S_mono HO_10.out (fun _ hk => ⟨hk.2, hk.1⟩)) hg hat); have n1_ := Aside0.mk (Kd.S_after (ok := (fun k_ => some k_ ≠ (.slice Ao15 t158.length co15 : Value).ownBlock)) (by (with_reducible repeat (first | apply Kd.S_alloc | apply Kd.S_drewN | apply Kd.S_drew)); exact Kd.S_mono HO_12.out (fun _ hk => ⟨hk.2, hk.1⟩)) hg hat); have n2_ := Aside0.mk (Kd.R_after (ok := (fun _ => True)) (by (with_reducible repeat (first | apply Kd.R_alloc | apply Kd.R_drewN | apply Kd.R_drew)); exact Kd.R_mono HO_166000.out (fun _ hk => ⟨trivial, hk⟩)) hg hat); have n3_ := Aside0.mk (blk_grown (g := gb165) (o := .cells #[.slice Ao15 t158.length co15, .int .i64 t161] 33 (0, 0)) (by (with_reducible repeat (first | refine blk_drewN ?_ _ | refine blk_drew ?_ | refine blk_alloc ?_ _)); exact BK165.out) hg (Kd.R_ne HO_14.out BK165.out (by decide))); have n4_ := Aside0.mk (Kd.R_after (ok := (fun k_ => some k_ ≠ (.slice (some ad168) t162.length co18 : Value).ownBlock ∧ some k_ ≠ (.slice Ao15 t158.length co15 : Value).ownBlock)) (by (with_reducible repeat (first | apply Kd.R_alloc | apply Kd.R_drewN | apply Kd.R_drew)); exact Kd.R_mono HL168_0.out (fun _ hk => ⟨⟨hk.2, hk.1.2⟩, hk.1.1⟩)) hg hat); have n5_ := Aside0.mk (Kd.R_after (ok := (fun k_ => some k_ ≠ (.slice (some ad168) t162.length co18 : Value).ownBlock ∧ some k_ ≠ (.slice Ao15 t158.length co15 : Value).ownBlock)) (by (with_reducible repeat (first | apply Kd.R_alloc | apply Kd.R_drewN | apply Kd.R_drew)); exact Kd.R_mono HL168_1.out (fun _ hk => ⟨⟨hk.2, hk.1.2⟩, hk.1.1⟩)) hg hat); have n6_ := Aside0.mk (hb); have n7_ := Aside0.mk (ho); clear HO_10; clear HO_12; clear HO_166000; clear BK165; clear HL168_0; clear HL168_1; clear HB; clear HO_14; have HO_10 := n0_; have HO_12 := n1_; have HO_166000 := n2_; have BK165 := n3_; have HL168_0 := n4_; have HL168_1 := n5_; have HB := n6_; have HO172 := n7_; clear n0_ n1_ n2_ n3_ n4_ n5_ n6_ n7_; clear ho hb hg hat))
      go_roundg k2
      case measure => have := HK1.out; have := HK2.out; omega
      case rel => exact ⟨(y170), (wrap64 (x15_2 + 1)), (by first | rfl | (simp; done) | (simp [*]; done)), H', ⟨by have := HK1.out; have := HK2.out; omega⟩, ⟨by (with_reducible repeat (first | apply Kd.S_alloc | apply Kd.S_drewN | apply Kd.S_drew)); exact Kd.S_mono HO_10.out (fun _ hk => ⟨hk.2, hk.1⟩)⟩, ⟨by (with_reducible repeat (first | apply Kd.S_alloc | apply Kd.S_drewN | apply Kd.S_drew)); exact Kd.S_mono HO_12.out (fun _ hk => ⟨hk.2, hk.1⟩)⟩, ⟨by (with_reducible repeat (first | apply Kd.R_alloc | apply Kd.R_drewN | apply Kd.R_drew)); exact HO172.out⟩, ⟨by (with_reducible repeat (first | apply Kd.R_alloc | apply Kd.R_drewN | apply Kd.R_drew)); exact Kd.R_mono HO_166000.out (fun _ hk => hk.2)⟩, ⟨by (with_reducible repeat (first | refine blk_drewN ?_ _ | refine blk_drew ?_ | refine blk_alloc ?_ _)); exact BK165.out⟩, ⟨by repeat (first | (with_reducible first | exact HB.out | apply below_alloc | apply pw_below_drewN | apply below_drew1 | refine below_set ?_ GE165.out) | exact HB.out)⟩⟩
     rw [if_neg c19] at H
     have c19b0 : decide (x15_2 < (t158.length : Int)) = false := decide_eq_false c19
     clear c19
     have H' := Aside0.mk H
     clear H
     have hcz32_0 : wr.cell? ⟨gb165, 0, none⟩ = some (.slice Ao15 t158.length co15) := (blk_cell BK165.out 0).trans rfl
     have hcz32_1 : wr.cell? ⟨gb165, 1, none⟩ = some (.int .i64 t161) := (blk_cell BK165.out 1).trans rfl
     have hfz32_0 := blk_frozen BK165.out 0
     have hfz32_1 := blk_frozen BK165.out 1
     go_wp2
     go_loopg [16, 17] k2 (fun kq v16 v17 w' => ∃ (x16_3 : Bool) (x17_3 : Int), v16 = .bool x16_3 ∧ v17 = .int .i64 x17_3 ∧ Aside0 (hypercubelaw8_LatticeTrue.l2 kq t162 t166 x12_1 x13_1 x14_2 x16_3 x17_3 t158 t161 = some r) ∧ Aside0 (kq ≤ k2) ∧ Aside0 (Kd.S k39 39 w' w.heap.size (fun k_ => some k_ ≠ (u14 : Value).ownBlock ∧ some k_ ≠ ((.slice Ao15 t158.length co15) : Value).ownBlock) (.slice Ao18 t162.length co18) t162) ∧ Aside0 (Kd.S (Kd.slice 3 (Kd.int .i64)) 24 w' w.heap.size (fun k_ => some k_ ≠ (u14 : Value).ownBlock ∧ some k_ ≠ ((.slice Ao15 t158.length co15) : Value).ownBlock) u12 x12_1) ∧ Aside0 (Kd.R (Kd.int .i64) 3 w' w.heap.size (fun k_ => some k_ ≠ ((.slice Ao15 t158.length co15) : Value).ownBlock) u14 x14_2) ∧ Aside0 (Kd.R (Kd.int .i64) 3 w' w.heap.size (fun k_ => some k_ ≠ (u14 : Value).ownBlock) (.slice Ao15 t158.length co15) t158) ∧ Aside0 (w'.heap[gb165]? = some (.cells #[(.slice Ao15 t158.length co15), .int .i64 t161] 33 (0, 0))) ∧ Aside0 (Below w.heap.size w w'))
     case atStart => exact ⟨(false), (0), (by first | rfl | (simp; done) | (simp [*]; done)), (by first | rfl | (simp; done) | (simp [*]; done)), H', ⟨Nat.le_refl _⟩, ⟨by (with_reducible repeat (first | apply Kd.S_alloc | apply Kd.S_drewN | apply Kd.S_drew)); exact HO_10.out⟩, ⟨by (with_reducible repeat (first | apply Kd.S_alloc | apply Kd.S_drewN | apply Kd.S_drew)); exact HO_12.out⟩, ⟨by (with_reducible repeat (first | apply Kd.R_alloc | apply Kd.R_drewN | apply Kd.R_drew)); exact HO_14.out⟩, ⟨by (with_reducible repeat (first | apply Kd.R_alloc | apply Kd.R_drewN | apply Kd.R_drew)); exact HO_166000.out⟩, ⟨by (with_reducible repeat (first | refine blk_drewN ?_ _ | refine blk_drew ?_ | refine blk_alloc ?_ _)); exact BK165.out⟩, ⟨by repeat (first | (with_reducible first | exact HB.out | apply below_alloc | apply pw_below_drewN | apply below_drew1 | refine below_set ?_ GE165.out) | exact HB.out)⟩⟩
     case round =>
      clear H'
      try clear c1
      try clear p1
      try clear q1
      try clear hx1
      try clear c2
      try clear p2
      try clear c3
      try clear c6
      try clear p6
      try clear c9
      try clear c9b0
      try clear c9b1
      try clear c16
      try clear p16
      try clear q16
      try clear hx16
      try clear c17
      try clear c17b0
      try clear c19
      try clear c19b0
      try clear c21
      try clear c21b0
      try clear c21b1
      try clear c23
      try clear c23b0
      try clear c23b1
      try clear c24
      try clear c24b0
      try clear c25
      try clear c25b0
      try clear c26
      try clear c26b0
      try clear c27
      try clear c27b0
      try clear c28
      try clear c32
      try clear hcz16_0
      try clear hcz16_1
      try clear hcz29_0
      try clear hcz29_1
      try clear hcz31_0
      try clear hcz31_1
      try clear hcz32_0
      try clear hcz32_1
      try clear hfz16_0
      try clear hfz16_1
      try clear hfz29_0
      try clear hfz29_1
      try clear hfz31_0
      try clear hfz31_1
      try clear hfz32_0
      try clear hfz32_1
      try clear hx168_0
      try clear hx168_1
      try clear hx169_0
      try clear p168
      try clear p169
      try clear p2
      try clear p6
      try clear q168
      try clear q169
      obtain ⟨x16_3, x17_3, rfl, rfl, HA, HK3, HO_10, HO_12, HO_14, HO_166000, BK165, HB⟩ := hrel
      cases gk with
      | zero => exact absurd HA.out (by simp [hypercubelaw8_LatticeTrue.l2])
      | succ k3 =>
       have H := HA.out
       clear HA
       simp only [hypercubelaw8_LatticeTrue.l2] at H
       by_cases c33 : x17_3 < (x12_1.length : Int)
       ·rw [if_pos c33] at H
        have c33b0 : decide (x17_3 < (x12_1.length : Int)) = true := decide_eq_true c33
        clear c33
        by_cases c34 : x16_3 = true
        ·subst c34
         have H1 : (hypercubelaw8_LatticeTrue.l2 k3 t162 t166 x12_1 x13_1 x14_2 true (wrap64 (x17_3 + 1)) t158 t161) = some r := by rw [if_pos rfl] at H; exact H
         clear H
         have H := H1
         clear H1
         have H' := Aside0.mk H
         clear H
         obtain ⟨Ao35, co35, eo35⟩ := Kd.S_slice HO_12.out
         subst eo35
         go_wp2
         go_roundg k3
         case measure => have := HK1.out; have := HK2.out; have := HK3.out; omega
         case rel => exact ⟨(true), (wrap64 (x17_3 + 1)), (by first | rfl | (simp; done) | (simp [*]; done)), (by first | rfl | (simp; done) | (simp [*]; done)), H', ⟨by have := HK1.out; have := HK2.out; have := HK3.out; omega⟩, ⟨by (with_reducible repeat (first | apply Kd.S_alloc | apply Kd.S_drewN | apply Kd.S_drew)); exact HO_10.out⟩, ⟨by (with_reducible repeat (first | apply Kd.S_alloc | apply Kd.S_drewN | apply Kd.S_drew)); exact HO_12.out⟩, ⟨by (with_reducible repeat (first | apply Kd.R_alloc | apply Kd.R_drewN | apply Kd.R_drew)); exact HO_14.out⟩, ⟨by (with_reducible repeat (first | apply Kd.R_alloc | apply Kd.R_drewN | apply Kd.R_drew)); exact HO_166000.out⟩, ⟨by (with_reducible repeat (first | refine blk_drewN ?_ _ | refine blk_drew ?_ | refine blk_alloc ?_ _)); exact BK165.out⟩, ⟨by repeat (first | (with_reducible first | exact HB.out | apply below_alloc | apply pw_below_drewN | apply below_drew1 | refine below_set ?_ GE165.out) | exact HB.out)⟩⟩
        replace c34 := Bool.eq_false_iff.mpr c34
        subst c34
        have H1 : (if 0 ≤ x17_3 then ((hypercuberef1_Ints.f k3 (rd_L1 x12_1 x17_3) x14_2).bind fun t174 => (hypercubelaw8_LatticeTrue.l2 k3 t162 t166 x12_1 x13_1 x14_2 t174 (wrap64 (x17_3 + 1)) t158 t161)) else (none)) = some r := by rw [if_neg (show ¬ (false = true) by decide)] at H; exact H
        clear H
        have H := H1
        clear H1
        by_cases c36 : 0 ≤ x17_3
        rotate_left
        ·rw [if_neg c36] at H
         exact absurd H (by simp)
        rw [if_pos c36] at H
        have c36b0 : decide (0 ≤ x17_3) = true := decide_eq_true c36
        clear c36
        replace H := Option.bind_eq_some_iff.mp H
        obtain ⟨t174, A370, H⟩ := H
        replace H : (hypercubelaw8_LatticeTrue.l2 k3 t162 t166 x12_1 x13_1 x14_2 t174 (wrap64 (x17_3 + 1)) t158 t161) = some r := H
        have A37 := Aside0.mk A370
        clear A370
        have H' := Aside0.mk H
        clear H
        obtain ⟨Ao38, co38, eo38⟩ := Kd.S_slice HO_12.out
        subst eo38
        have p173 : 0 ≤ (x17_3 : Int) := od_
        have q173 : x17_3 < (x12_1.length : Int) := od_
        obtain ⟨ad173, A173_0, c173_0, e173, hx173_0, hl173_0, hi173_0⟩ := at_L1 (Kd.S_reads' HO_12.out).2.2 x17_3 p173 q173
        cases e173
        obtain ⟨ce173, hce173, hMe173, hcc173⟩ := Kd.S_get HO_12.out [] x17_3 p173 (by first | exact q173 | exact of_decide_eq_true (by first | (with_reducible assumption) | assumption) | (have e_ := (Kd.S_reads' HO_12.out).1; omega))
        obtain ⟨ve173_0, rfl, ge173_0⟩ := hMe173
        have hv173_0 := hcc173 0 _ rfl
        rw [Nat.add_zero, show ((Kd.slice 3 (Kd.int .i64))).sz = 1 from rfl, Nat.mul_one] at hv173_0
        replace hv173_0 := Option.some.inj (hv173_0.symm.trans hx173_0)
        rw [hv173_0] at ge173_0
        have HL173_0 := Aside0.mk (show Kd.R (Kd.int .i64) 3 _ _ _ _ (rd_L1 x12_1 x17_3) from ge173_0)
        clear hv173_0 ge173_0
        clear hcc173 hce173
        have HR173_0 := Aside0.mk hi173_0
        have HC173_0 := Aside0.mk hl173_0
        clear hi173_0 hl173_0
        replace p173 := eq_true p173
        replace q173 := eq_true q173
        obtain ⟨Ao39, co39, eo39⟩ := Kd.R_slice HO_14.out
        subst eo39
        go_wp2_with (first | (go_at_call 33; (with_reducible refine (hypercuberef1_Ints.calls k3 _ _ (rd_L1 x12_1 x17_3) _ _ x14_2 t174 _ ?side1 ?side2 ?side3 ?side4 A37.out).mono ?_); (case side1 => repeat (first | exact (by repeat (first | (with_reducible exact HR173_0.out) | (with_reducible refine Kd.C_alloc ?_ _) | (with_reducible refine Kd.C_drewN ?_ _) | (with_reducible refine Kd.C_drew ?_) | exact HR173_0.out)) | (with_reducible refine Kd.C_alloc ?_ _) | (with_reducible refine Kd.C_drewN ?_ _) | (with_reducible refine Kd.C_drew ?_))); (case side2 => exact HC173_0.out); (case side3 => repeat (first | exact (Kd.R_reads' HO_14.out).2.2 | (with_reducible refine Kd.C_alloc ?_ _) | (with_reducible refine Kd.C_drewN ?_ _) | (with_reducible refine Kd.C_drew ?_))); (case side4 => exact (Kd.R_reads' HO_14.out).2.1); rintro e w' ⟨rfl, ⟨nd, rfl⟩⟩))
        go_roundg k3
        case measure => have := HK1.out; have := HK2.out; have := HK3.out; omega
        case rel => exact ⟨(t174), (wrap64 (x17_3 + 1)), (by first | rfl | (simp; done) | (simp [*]; done)), (by first | rfl | (simp; done) | (simp [*]; done)), H', ⟨by have := HK1.out; have := HK2.out; have := HK3.out; omega⟩, ⟨by (with_reducible repeat (first | apply Kd.S_alloc | apply Kd.S_drewN | apply Kd.S_drew)); exact HO_10.out⟩, ⟨by (with_reducible repeat (first | apply Kd.S_alloc | apply Kd.S_drewN | apply Kd.S_drew)); exact HO_12.out⟩, ⟨by (with_reducible repeat (first | apply Kd.R_alloc | apply Kd.R_drewN | apply Kd.R_drew)); exact HO_14.out⟩, ⟨by (with_reducible repeat (first | apply Kd.R_alloc | apply Kd.R_drewN | apply Kd.R_drew)); exact HO_166000.out⟩, ⟨by (with_reducible repeat (first | refine blk_drewN ?_ _ | refine blk_drew ?_ | refine blk_alloc ?_ _)); exact BK165.out⟩, ⟨by repeat (first | (with_reducible first | exact HB.out | apply below_alloc | apply pw_below_drewN | apply below_drew1 | refine below_set ?_ GE165.out) | exact HB.out)⟩⟩
       rw [if_neg c33] at H
       have c33b0 : decide (x17_3 < (x12_1.length : Int)) = false := decide_eq_false c33
       clear c33
       by_cases c40 : x16_3 = true
       ·subst c40
        have H1 : (hypercubelaw8_LatticeTrue.l0 k3 t162 t166 x12_1 (wrap64 (x13_1 + 1)) t158 t161) = some r := by rw [if_pos rfl] at H; exact H
        clear H
        have H := H1
        clear H1
        have H' := Aside0.mk H
        clear H
        obtain ⟨Ao41, co41, eo41⟩ := Kd.S_slice HO_12.out
        subst eo41
        go_wp2
        go_roundg k3
        case measure => have := HK1.out; have := HK2.out; have := HK3.out; omega
        case rel => exact ⟨(x12_1), (wrap64 (x13_1 + 1)), (by first | rfl | (simp; done) | (simp [*]; done)), H', ⟨by have := HK1.out; have := HK2.out; have := HK3.out; omega⟩, ⟨by (with_reducible repeat (first | apply Kd.S_alloc | apply Kd.S_drewN | apply Kd.S_drew)); exact Kd.S_mono HO_10.out (fun _ hk => hk.2)⟩, ⟨by (with_reducible repeat (first | apply Kd.S_alloc | apply Kd.S_drewN | apply Kd.S_drew)); exact Kd.S_mono HO_12.out (fun _ hk => hk.2)⟩, ⟨by (with_reducible repeat (first | apply Kd.R_alloc | apply Kd.R_drewN | apply Kd.R_drew)); exact Kd.R_mono HO_166000.out (fun _ hk => trivial)⟩, ⟨by (with_reducible repeat (first | refine blk_drewN ?_ _ | refine blk_drew ?_ | refine blk_alloc ?_ _)); exact BK165.out⟩, ⟨by repeat (first | (with_reducible first | exact HB.out | apply below_alloc | apply pw_below_drewN | apply below_drew1 | refine below_set ?_ GE165.out) | exact HB.out)⟩⟩
       replace c40 := Bool.eq_false_iff.mpr c40
       subst c40
       have H1 : (if x12_1.length < 5864062014805 then (hypercubelaw8_LatticeTrue.l0 k3 t162 t166 (x12_1 ++ [x14_2]) (wrap64 (x13_1 + 1)) t158 t161) else (none)) = some r := by rw [if_neg (show ¬ (false = true) by decide)] at H; exact H
       clear H
       have H := H1
       clear H1
       by_cases c42 : x12_1.length < 5864062014805
       rotate_left
       ·rw [if_neg c42] at H
        exact absurd H (by simp)
       rw [if_pos c42] at H
       have LMc42 := Aside0.mk c42
       clear c42
       obtain ⟨y175, hy175⟩ : ∃ y_ : List (List Int), y_ = (x12_1 ++ [x14_2]) := ⟨_, rfl⟩
       replace H : (hypercubelaw8_LatticeTrue.l0 k3 t162 t166 y175 (wrap64 (x13_1 + 1)) t158 t161) = some r := by first | (rw [hy175]; with_reducible exact H) | (have H2_ := (Option.bind_some _ _).symm.trans H; rw [hy175]; with_reducible exact H2_) | (have H2_ := (Option.bind_some _ _).symm.trans H; with_reducible exact H2_) | with_reducible exact H | (rw [hy175]; exact H) | exact H
       have Ny175 := Aside0.mk hy175
       clear hy175
       have H' := Aside0.mk H
       clear H
       obtain ⟨Ao43, co43, eo43⟩ := Kd.S_slice HO_12.out
       subst eo43
       obtain ⟨Ao45, co45, eo45⟩ := Kd.R_slice HO_14.out
       subst eo45
       go_wp2_with (first | ((with_reducible refine gate_builtin (b := .append) (xs := #[.tmp 81, .tmp 83]) rfl ?_); at_builtin; refine Kd.S_append (Kd.slice 3 (Kd.int .i64)) (w0 := w) w.heap.size rfl (.tmp 81) (.tmp 83) 37 24 (.slice none 0 0) 24 rfl Try.underlying37 info24 rfl (by decide) (by omega) (.slice Ao43 x12_1.length co43) x12_1 x14_2 [.slice Ao45 x14_2.length co45] (fun k_ => some k_ ≠ (.slice Ao15 t158.length co15 : Value).ownBlock) (fun k_ => some k_ = (.slice Ao45 x14_2.length co45 : Value).ownBlock) rfl rfl ?aP (fun k_ hk_ => ((Kd.R_mono (ok' := fun k_ => ((fun k_ => some k_ ≠ (.slice Ao15 t158.length co15 : Value).ownBlock)) k_ ∧ some k_ ≠ (.slice Ao43 x12_1.length co43 : Value).ownBlock) (Kd.R_apart' (HO_14.out) (Kd.S_typed HO_12.out) (by decide)) (fun k_ hk => ⟨hk.1, hk.2⟩))).1 k_ hk_.symm) ?aF ?aO ?aB ?aS ?aL ?_; (case aP => exact Kd.M_row (Kd.R_mono (Kd.R_tight rfl (Kd.R_mono (ok' := fun k_ => ((fun k_ => some k_ ≠ (.slice Ao15 t158.length co15 : Value).ownBlock)) k_ ∧ some k_ ≠ (.slice Ao43 x12_1.length co43 : Value).ownBlock) (Kd.R_apart' (HO_14.out) (Kd.S_typed HO_12.out) (by decide)) (fun k_ hk => ⟨hk.1, hk.2⟩))) (fun _ h_ => h_))); (case aB => exact (by repeat (first | (with_reducible first | exact HB.out | apply below_alloc | apply pw_below_drewN | apply below_drew1 | refine below_set ?_ GE165.out) | exact HB.out))); (case aF => exact (fun k_ hk => Kd.fresh' (Kd.R_lt (by (with_reducible repeat (first | apply Kd.R_alloc | apply Kd.R_drewN | apply Kd.R_drew)); exact HO_166000.out)) k_ hk)); (case aO => exact (by (with_reducible repeat (first | apply Kd.S_alloc | apply Kd.S_drewN | apply Kd.S_drew)); exact Kd.S_mono HO_12.out (fun k_ hk => ⟨hk.2, fun e_ => hk.1 e_⟩))); (case aS => exact (below_size (by repeat (first | (with_reducible first | exact HB.out | apply below_alloc | apply pw_below_drewN | apply below_drew1 | refine below_set ?_ GE165.out) | exact HB.out)))); (case aL => have := LMc42.out; omega); intro v176 w44 ho hb hg hat; rw [← Ny175.out] at ho; have n0_ := Aside0.mk (Kd.S_over' (by (with_reducible repeat (first | apply Kd.S_alloc | apply Kd.S_drewN | apply Kd.S_drew)); exact HO_10.out) (Kd.S_typed (by (with_reducible repeat (first | apply Kd.S_alloc | apply Kd.S_drewN | apply Kd.S_drew)); exact HO_12.out)) (by decide) hg); have n1_ := Aside0.mk (Kd.R_over' (by (with_reducible repeat (first | apply Kd.R_alloc | apply Kd.R_drewN | apply Kd.R_drew)); exact HO_166000.out) (Kd.S_typed (by (with_reducible repeat (first | apply Kd.S_alloc | apply Kd.S_drewN | apply Kd.S_drew)); exact HO_12.out)) (by decide) hg); have n2_ := Aside0.mk (blk_grown (g := gb165) (o := .cells #[.slice Ao15 t158.length co15, .int .i64 t161] 33 (0, 0)) (by (with_reducible repeat (first | refine blk_drewN ?_ _ | refine blk_drew ?_ | refine blk_alloc ?_ _)); exact BK165.out) hg (Kd.S_ne HO_12.out BK165.out (by decide))); have n3_ := Aside0.mk (hb); have n4_ := Aside0.mk (ho); clear HO_10; clear HO_166000; clear BK165; clear HB; clear HO_12; clear HO_14; have HO_10 := n0_; have HO_166000 := n1_; have BK165 := n2_; have HB := n3_; have HO177 := n4_; clear n0_ n1_ n2_ n3_ n4_; clear ho hb hg hat))
       go_roundg k3
       case measure => have := HK1.out; have := HK2.out; have := HK3.out; omega
       case rel => exact ⟨(y175), (wrap64 (x13_1 + 1)), (by first | rfl | (simp; done) | (simp [*]; done)), H', ⟨by have := HK1.out; have := HK2.out; have := HK3.out; omega⟩, ⟨by (with_reducible repeat (first | apply Kd.S_alloc | apply Kd.S_drewN | apply Kd.S_drew)); exact Kd.S_mono HO_10.out (fun _ hk => hk.2)⟩, ⟨by (with_reducible repeat (first | apply Kd.S_alloc | apply Kd.S_drewN | apply Kd.S_drew)); exact HO177.out⟩, ⟨by (with_reducible repeat (first | apply Kd.R_alloc | apply Kd.R_drewN | apply Kd.R_drew)); exact Kd.R_mono HO_166000.out (fun _ hk => trivial)⟩, ⟨by (with_reducible repeat (first | refine blk_drewN ?_ _ | refine blk_drew ?_ | refine blk_alloc ?_ _)); exact BK165.out⟩, ⟨by repeat (first | (with_reducible first | exact HB.out | apply below_alloc | apply pw_below_drewN | apply below_drew1 | refine below_set ?_ GE165.out) | exact HB.out)⟩⟩

/-- THE ONE PURE STATEMENT of hypercubelaw8_LatticeTrue: yours. -/
def hypercubelaw8_LatticeTrue.Pure : Prop := ∀ (a0 : Int) (l1 : List Int) (l2 : List Int) (a3 : Int), (Lit.int .i64 a0).wf = true → l1.length ≤ maxLen → l1.length * 8 ≤ 140737488351232 → (∀ x ∈ l1, (Lit.int .i64 x).wf = true) → l2.length ≤ maxLen → l2.length * 8 ≤ 140737488351232 → (∀ x ∈ l2, (Lit.int .i64 x).wf = true) → (Lit.int .i64 a3).wf = true → ∃ k, hypercubelaw8_LatticeTrue.f k a0 l1 l2 a3 = some true
theorem hypercubelaw8_LatticeTrue.walk (P : hypercubelaw8_LatticeTrue.Pure) (a0 : Int) (a1 : Option Addr) (len1 cap1 : Nat) (z1 : List Int) (a2 : Option Addr) (len2 cap2 : Nat) (z2 : List Int) (a3 : Int) (w : World) (w0 : (Lit.int .i64 a0).wf = true) (w1 : (a1 = none ∧ len1 = 0 ∧ cap1 = 0 ∧ z1 = []) ∨ ∃ x, a1 = some x ∧ len1 ≤ cap1 ∧ cap1 ≤ maxLen ∧ z1.length = cap1 ∧ (∀ i, i < z1.length → w.cell? (x.add i) = some (.int .i64 (z1.getD i 0))) ∧ ∀ n ∈ z1, (Lit.int .i64 n).wf = true) (y1 : len1 * 8 ≤ 140737488351232) (w2 : (a2 = none ∧ len2 = 0 ∧ cap2 = 0 ∧ z2 = []) ∨ ∃ x, a2 = some x ∧ len2 ≤ cap2 ∧ cap2 ≤ maxLen ∧ z2.length = cap2 ∧ (∀ i, i < z2.length → w.cell? (x.add i) = some (.int .i64 (z2.getD i 0))) ∧ ∀ n ∈ z2, (Lit.int .i64 n).wf = true) (y2 : len2 * 8 ≤ 140737488351232) (w3 : (Lit.int .i64 a3).wf = true) :
 Calls Try.prog 6 #[.int .i64 a0, .slice a1 len1 cap1, .slice a2 len2 cap2, .int .i64 a3] w fun e w' => e = .returned (.bool true) ∧ Below w.heap.size w w' := by
 obtain ⟨l1, rfl, hr1, hm1, hw1, hc1⟩ := ReadsInt.ofRowC w1
 obtain ⟨l2, rfl, hr2, hm2, hw2, hc2⟩ := ReadsInt.ofRowC w2
 obtain ⟨k, h⟩ := P a0 l1 l2 a3 w0 hm1 y1 hw1 hm2 y2 hw2 w3
 refine (hypercubelaw8_LatticeTrue.calls k a0 _ _ l1 _ _ l2 a3 true w (Kd.C_of_reads (d := (0 : Int)) (h1 := fun _ => rfl) hr1) hc1 (Kd.C_of_reads (d := (0 : Int)) (h1 := fun _ => rfl) hr2) hc2 h).mono ?_
 rintro e w' ⟨rfl, hd⟩
 exact ⟨rfl, hd⟩

end Go.Proofs.Ytlplaidcdocbmaa.PLatticeTrue
