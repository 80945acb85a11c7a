-- Cut by pack.py, a program of this session; not trusted: Lean checks it.
import Derived.Test.YtgnkpahnhhmceaaZCore2
/- The document's own totals: a walk. -/
namespace Go.Proofs.Ytgnkpahnhhmceaa.Core
open Go.RowKit Go.Proofs.YtgnkpahnhhmceaaW.PrintWords Go.Proofs.YtgnkpahnhhmceaaW.PrintLast Go.Proofs.YtgnkpahnhhmceaaW.PrintMore
attribute [local go_sem] max2_int min2_int max_two min_two max_three min_three max_four min_four   -- for this text's walks alone
set_option linter.unusedVariables false
set_option linter.unusedSimpArgs false

/-! ### hypercuberef9_ahead: function 22 -/
mutual
def hypercuberef9_ahead.l0 : Nat → List (List Int) → Int → List (List Int) → Int → Option ((List (List Int)))
  | 0, _, _, _, _ => none
  | k + 1, x0, x4, x5, x6 => if x6 ≥ 0 then (if 0 ≤ (IntKind.u64.wrap (x4)) then (if 0 ≤ (shl .i64 1 (IntKind.u64.wrap (x4))) then (if (shl .i64 1 (IntKind.u64.wrap (x4)) : Int).toNat ≤ 35184372088832 then (if 0 ≤ x6 then (if x6 < (x5.length : Int) then (hypercuberef9_ahead.l1 k x0 x4 (x5.set (x6 : Int).toNat (List.replicate (shl .i64 1 (IntKind.u64.wrap (x4)) : Int).toNat 0)) x6 0) else (none)) else (none)) else (none)) else (none)) else (none)) else (some x5)
def hypercuberef9_ahead.l1 : Nat → List (List Int) → Int → List (List Int) → Int → Int → Option ((List (List Int)))
  | 0, _, _, _, _, _ => none
  | k + 1, x0, x4, x5, x6, x7 => if 0 ≤ (IntKind.u64.wrap (x4)) then (if x7 < (shl .i64 1 (IntKind.u64.wrap (x4))) then (hypercuberef9_ahead.l2 k x0 x4 x5 x6 x7 (-1) 0) else (hypercuberef9_ahead.l0 k x0 x4 x5 (wrap64 (x6 - 1)))) else (none)
def hypercuberef9_ahead.l2 : Nat → List (List Int) → Int → List (List Int) → Int → Int → Int → Int → Option ((List (List Int)))
  | 0, _, _, _, _, _, _, _ => none
  | k + 1, x0, x4, x5, x6, x7, x8, x9 => if x9 < x4 then (if 0 ≤ (IntKind.u64.wrap (x9)) then (if (Go.bits .and .i64 (shr .i64 x7 (IntKind.u64.wrap (x9))) 1) = 1 then (hypercuberef9_ahead.l2 k x0 x4 x5 x6 x7 x8 (wrap64 (x9 + 1))) else (if 0 ≤ (wrap64 (x6 + 1)) then (if (wrap64 (x6 + 1)) < (x5.length : Int) then (if 0 ≤ (Go.bits .or .i64 x7 (shl .i64 1 (IntKind.u64.wrap (x9)))) then (if (Go.bits .or .i64 x7 (shl .i64 1 (IntKind.u64.wrap (x9)))) < ((rd_L1 x5 (wrap64 (x6 + 1))).length : Int) then (if (rd (rd_L1 x5 (wrap64 (x6 + 1))) (Go.bits .or .i64 x7 (shl .i64 1 (IntKind.u64.wrap (x9))))) ≥ 0 then (if x8 < 0 then (if 0 ≤ x6 then (if x6 < (x0.length : Int) then (if 0 ≤ x9 then (if x9 < ((rd_L1 x0 x6).length : Int) then (hypercuberef9_ahead.l2 k x0 x4 x5 x6 x7 (wrap64 ((rd (rd_L1 x5 (wrap64 (x6 + 1))) (Go.bits .or .i64 x7 (shl .i64 1 (IntKind.u64.wrap (x9))))) + (rd (rd_L1 x0 x6) x9))) (wrap64 (x9 + 1))) else (none)) else (none)) else (none)) else (none)) else (if 0 ≤ x6 then (if x6 < (x0.length : Int) then (if 0 ≤ x9 then (if x9 < ((rd_L1 x0 x6).length : Int) then (if (wrap64 ((rd (rd_L1 x5 (wrap64 (x6 + 1))) (Go.bits .or .i64 x7 (shl .i64 1 (IntKind.u64.wrap (x9))))) + (rd (rd_L1 x0 x6) x9))) < x8 then (hypercuberef9_ahead.l2 k x0 x4 x5 x6 x7 (wrap64 ((rd (rd_L1 x5 (wrap64 (x6 + 1))) (Go.bits .or .i64 x7 (shl .i64 1 (IntKind.u64.wrap (x9))))) + (rd (rd_L1 x0 x6) x9))) (wrap64 (x9 + 1))) else (hypercuberef9_ahead.l2 k x0 x4 x5 x6 x7 x8 (wrap64 (x9 + 1)))) else (none)) else (none)) else (none)) else (none))) else (hypercuberef9_ahead.l2 k x0 x4 x5 x6 x7 x8 (wrap64 (x9 + 1)))) else (none)) else (none)) else (none)) else (none))) else (none)) else (if 0 ≤ x6 then (if x6 < (x5.length : Int) then (if 0 ≤ x7 then (if x7 < ((rd_L1 x5 x6).length : Int) then (hypercuberef9_ahead.l1 k x0 x4 (x5.set (x6 : Int).toNat ((rd_L1 x5 x6).set (x7 : Int).toNat x8)) x6 (wrap64 (x7 + 1))) else (none)) else (none)) else (none)) else (none))
end
def hypercuberef9_ahead.f (k : Nat) (l0 : List (List Int)) : Option ((List (List Int))) := if 0 < (l0.length : Int) then (if 0 ≤ (wrap64 ((l0.length : Int) + 1)) then (if (wrap64 ((l0.length : Int) + 1) : Int).toNat ≤ 11728124029610 then ((some (List.replicate (wrap64 ((l0.length : Int) + 1) : Int).toNat [] : List (List Int))).bind fun y166 => (if 0 ≤ (IntKind.u64.wrap (((rd_L1 l0 0).length : Int))) then (if 0 ≤ (shl .i64 1 (IntKind.u64.wrap (((rd_L1 l0 0).length : Int)))) then (if (shl .i64 1 (IntKind.u64.wrap (((rd_L1 l0 0).length : Int))) : Int).toNat ≤ 35184372088832 then (if 0 ≤ (l0.length : Int) then (if (l0.length : Int) < (y166.length : Int) then (hypercuberef9_ahead.l0 k l0 ((rd_L1 l0 0).length : Int) (y166.set ((l0.length : Int) : Int).toNat (List.replicate (shl .i64 1 (IntKind.u64.wrap (((rd_L1 l0 0).length : Int))) : Int).toNat 0)) (wrap64 ((l0.length : Int) - 1))) else (none)) else (none)) else (none)) else (none)) else (none))) else (none)) else (none)) else (none)
theorem hypercuberef9_ahead.mono_l : ∀ k, (∀ y0 y1 y2 y3, LeO (hypercuberef9_ahead.l0 k y0 y1 y2 y3) (hypercuberef9_ahead.l0 (k + 1) y0 y1 y2 y3)) ∧ (∀ y0 y1 y2 y3 y4, LeO (hypercuberef9_ahead.l1 k y0 y1 y2 y3 y4) (hypercuberef9_ahead.l1 (k + 1) y0 y1 y2 y3 y4)) ∧ (∀ y0 y1 y2 y3 y4 y5 y6, LeO (hypercuberef9_ahead.l2 k y0 y1 y2 y3 y4 y5 y6) (hypercuberef9_ahead.l2 (k + 1) y0 y1 y2 y3 y4 y5 y6))
  | 0 => ⟨fun _ _ _ _ r h => by simp [hypercuberef9_ahead.l0] at h, fun _ _ _ _ _ r h => by simp [hypercuberef9_ahead.l1] at h, fun _ _ _ _ _ _ _ r h => by simp [hypercuberef9_ahead.l2] at h⟩
  | k + 1 => by
    obtain ⟨ih0, ih1, ih2⟩ := hypercuberef9_ahead.mono_l k
    refine ⟨?_, ?_, ?_⟩
    · intro y0 y1 y2 y3
      unfold hypercuberef9_ahead.l0
      repeat' first
      | (with_reducible exact ih0 _ _ _ _)
      | (with_reducible exact ih1 _ _ _ _ _)
      | (with_reducible exact ih2 _ _ _ _ _ _ _)
      | (with_reducible exact LeO.refl _)
      | (with_reducible exact LeO.none _)
      | (with_reducible refine LeO.ite ?_ ?_)
      | (with_reducible refine LeO.bind ?_ (fun _ => ?_))
      | exact ih0 _ _ _ _
      | exact ih1 _ _ _ _ _
      | exact ih2 _ _ _ _ _ _ _
      | exact LeO.none _
      | refine LeO.ite ?_ ?_
      | refine LeO.bind ?_ (fun _ => ?_)
    · intro y0 y1 y2 y3 y4
      unfold hypercuberef9_ahead.l1
      repeat' first
      | (with_reducible exact ih0 _ _ _ _)
      | (with_reducible exact ih1 _ _ _ _ _)
      | (with_reducible exact ih2 _ _ _ _ _ _ _)
      | (with_reducible exact LeO.refl _)
      | (with_reducible exact LeO.none _)
      | (with_reducible refine LeO.ite ?_ ?_)
      | (with_reducible refine LeO.bind ?_ (fun _ => ?_))
      | exact ih0 _ _ _ _
      | exact ih1 _ _ _ _ _
      | exact ih2 _ _ _ _ _ _ _
      | exact LeO.none _
      | refine LeO.ite ?_ ?_
      | refine LeO.bind ?_ (fun _ => ?_)
    · intro y0 y1 y2 y3 y4 y5 y6
      unfold hypercuberef9_ahead.l2
      repeat' first
      | (with_reducible exact ih0 _ _ _ _)
      | (with_reducible exact ih1 _ _ _ _ _)
      | (with_reducible exact ih2 _ _ _ _ _ _ _)
      | (with_reducible exact LeO.refl _)
      | (with_reducible exact LeO.none _)
      | (with_reducible refine LeO.ite ?_ ?_)
      | (with_reducible refine LeO.bind ?_ (fun _ => ?_))
      | exact ih0 _ _ _ _
      | exact ih1 _ _ _ _ _
      | exact ih2 _ _ _ _ _ _ _
      | exact LeO.none _
      | refine LeO.ite ?_ ?_
      | refine LeO.bind ?_ (fun _ => ?_)
theorem hypercuberef9_ahead.mono : ∀ a0 k, LeO (hypercuberef9_ahead.f k a0) (hypercuberef9_ahead.f (k + 1) a0) := by
  intro a0 k
  obtain ⟨ih0, ih1, ih2⟩ := hypercuberef9_ahead.mono_l k
  unfold hypercuberef9_ahead.f
  repeat' first
      | (with_reducible exact ih0 _ _ _ _)
      | (with_reducible exact ih1 _ _ _ _ _)
      | (with_reducible exact ih2 _ _ _ _ _ _ _)
      | (with_reducible exact LeO.refl _)
      | (with_reducible exact LeO.none _)
      | (with_reducible refine LeO.ite ?_ ?_)
      | (with_reducible refine LeO.bind ?_ (fun _ => ?_))
      | exact ih0 _ _ _ _
      | exact ih1 _ _ _ _ _
      | exact ih2 _ _ _ _ _ _ _
      | exact LeO.none _
      | refine LeO.ite ?_ ?_
      | refine LeO.bind ?_ (fun _ => ?_)
set_option maxHeartbeats 8000000 in
set_option maxRecDepth 100000 in
theorem hypercuberef9_ahead.calls (k : Nat) (A0 : Option Addr) (c0 : Nat) (l0 : List (List Int)) (r : List (List Int)) (w : World) (hr0 : Kd.C (Kd.slice 3 (Kd.int .i64)) w A0 l0.length l0) (hc0 : l0.length ≤ c0) (h : hypercuberef9_ahead.f k l0 = some r) :
    Calls Try.prog 22 #[.slice A0 l0.length c0] w fun e w' => ∃ v0_ : Value, e = .returned (v0_) ∧ Kd.S (Kd.slice 3 (Kd.int .i64)) 22 w' w.heap.size (fun _ => True) v0_ r ∧ Below w.heap.size w w' := by
  have HR0 := Aside0.mk hr0
  have HC0 := Aside0.mk hc0
  clear hr0 hc0
  have HB := Aside0.mk (Below.refl w.heap.size w)
  have H : (if 0 < (l0.length : Int) then (if 0 ≤ (wrap64 ((l0.length : Int) + 1)) then (if (wrap64 ((l0.length : Int) + 1) : Int).toNat ≤ 11728124029610 then ((some (List.replicate (wrap64 ((l0.length : Int) + 1) : Int).toNat [] : List (List Int))).bind fun y166 => (if 0 ≤ (IntKind.u64.wrap (((rd_L1 l0 0).length : Int))) then (if 0 ≤ (shl .i64 1 (IntKind.u64.wrap (((rd_L1 l0 0).length : Int)))) then (if (shl .i64 1 (IntKind.u64.wrap (((rd_L1 l0 0).length : Int))) : Int).toNat ≤ 35184372088832 then (if 0 ≤ (l0.length : Int) then (if (l0.length : Int) < (y166.length : Int) then (hypercuberef9_ahead.l0 k l0 ((rd_L1 l0 0).length : Int) (y166.set ((l0.length : Int) : Int).toNat (List.replicate (shl .i64 1 (IntKind.u64.wrap (((rd_L1 l0 0).length : Int))) : Int).toNat 0)) (wrap64 ((l0.length : Int) - 1))) else (none)) else (none)) else (none)) else (none)) else (none))) else (none)) else (none)) else (none)) = some r := h
  clear h
  by_cases c2 : 0 < (l0.length : Int)
  · rw [if_pos c2] at H
    have c2b0 : decide (0 < (l0.length : Int)) = true := decide_eq_true c2
    have c2b1 : decide (0 < l0.length) = true := decide_eq_true (by omega)
    clear c2
    obtain ⟨ji3, hji3⟩ : ∃ j_ : Int, (wrap64 ((l0.length : Int) + 1)) = j_ := ⟨_, rfl⟩
    replace H : (if 0 ≤ (ji3) then (if (ji3 : Int).toNat ≤ 11728124029610 then ((some (List.replicate (ji3 : Int).toNat [] : List (List Int))).bind fun y166 => (if 0 ≤ (IntKind.u64.wrap (((rd_L1 l0 0).length : Int))) then (if 0 ≤ (shl .i64 1 (IntKind.u64.wrap (((rd_L1 l0 0).length : Int)))) then (if (shl .i64 1 (IntKind.u64.wrap (((rd_L1 l0 0).length : Int))) : Int).toNat ≤ 35184372088832 then (if 0 ≤ (l0.length : Int) then (if (l0.length : Int) < (y166.length : Int) then (hypercuberef9_ahead.l0 k l0 ((rd_L1 l0 0).length : Int) (y166.set ((l0.length : Int) : Int).toNat (List.replicate (shl .i64 1 (IntKind.u64.wrap (((rd_L1 l0 0).length : Int))) : Int).toNat 0)) (wrap64 ((l0.length : Int) - 1))) else (none)) else (none)) else (none)) else (none)) else (none))) else (none)) else (none)) = some r := by first | (rw [hji3] at H; exact H) | (simp only [hji3] at H ⊢; exact H)
    have hji3w : (IntKind.i64.wrap ((l0.length : Int) + 1)) = ji3 := (i64_w _).trans hji3
    by_cases c4 : 0 ≤ (ji3)
    · rw [if_pos c4] at H
      have c4b0 := eq_true c4
      have c4b1 : decide (0 ≤ (ji3)) = true := decide_eq_true c4
      clear c4
      by_cases c5 : (ji3 : Int).toNat ≤ 11728124029610
      · rw [if_pos c5] at H
        have c5b0 := eq_true c5
        have c5b1 : decide ((ji3 : Int).toNat ≤ 11728124029610) = true := decide_eq_true c5
        clear c5
        obtain ⟨y166, hy166⟩ : ∃ y_ : List (List Int), y_ = (List.replicate (ji3 : Int).toNat []) := ⟨_, rfl⟩
        replace H : (if 0 ≤ (IntKind.u64.wrap (((rd_L1 l0 0).length : Int))) then (if 0 ≤ (shl .i64 1 (IntKind.u64.wrap (((rd_L1 l0 0).length : Int)))) then (if (shl .i64 1 (IntKind.u64.wrap (((rd_L1 l0 0).length : Int))) : Int).toNat ≤ 35184372088832 then (if 0 ≤ (l0.length : Int) then (if (l0.length : Int) < (y166.length : Int) then (hypercuberef9_ahead.l0 k l0 ((rd_L1 l0 0).length : Int) (y166.set ((l0.length : Int) : Int).toNat (List.replicate (shl .i64 1 (IntKind.u64.wrap (((rd_L1 l0 0).length : Int))) : Int).toNat 0)) (wrap64 ((l0.length : Int) - 1))) else (none)) else (none)) else (none)) else (none)) else (none)) = some r := by first | (rw [hy166]; with_reducible exact H) | (have H2_ := (Option.bind_some _ _).symm.trans H; rw [hy166]; with_reducible exact H2_) | (have H2_ := (Option.bind_some _ _).symm.trans H; with_reducible exact H2_) | with_reducible exact H | (rw [hy166]; exact H) | exact H
        have Ny166 := Aside0.mk hy166
        clear hy166
        obtain ⟨ji6, hji6⟩ : ∃ j_ : Int, (IntKind.u64.wrap (((rd_L1 l0 0).length : Int))) = j_ := ⟨_, rfl⟩
        replace H : (if 0 ≤ (ji6) then (if 0 ≤ (shl .i64 1 (ji6)) then (if (shl .i64 1 (ji6) : Int).toNat ≤ 35184372088832 then (if 0 ≤ (l0.length : Int) then (if (l0.length : Int) < (y166.length : Int) then (hypercuberef9_ahead.l0 k l0 ((rd_L1 l0 0).length : Int) (y166.set ((l0.length : Int) : Int).toNat (List.replicate (shl .i64 1 (ji6) : Int).toNat 0)) (wrap64 ((l0.length : Int) - 1))) else (none)) else (none)) else (none)) else (none)) else (none)) = some r := by first | (rw [hji6] at H; exact H) | (simp only [hji6] at H ⊢; exact H)
        by_cases c7 : 0 ≤ (ji6)
        · rw [if_pos c7] at H
          have c7b0 := eq_true c7
          have c7b1 : decide (0 ≤ (ji6)) = true := decide_eq_true c7
          clear c7
          obtain ⟨ji8, hji8⟩ : ∃ j_ : Int, (shl .i64 1 (ji6)) = j_ := ⟨_, rfl⟩
          replace H : (if 0 ≤ (ji8) then (if (ji8 : Int).toNat ≤ 35184372088832 then (if 0 ≤ (l0.length : Int) then (if (l0.length : Int) < (y166.length : Int) then (hypercuberef9_ahead.l0 k l0 ((rd_L1 l0 0).length : Int) (y166.set ((l0.length : Int) : Int).toNat (List.replicate (ji8 : Int).toNat 0)) (wrap64 ((l0.length : Int) - 1))) else (none)) else (none)) else (none)) else (none)) = some r := by first | (rw [hji8] at H; exact H) | (simp only [hji8] at H ⊢; exact H)
          have hji8_ : (IntKind.i64.wrap (1 * 2 ^ min (ji6).toNat 64)) = ji8 := hji8
          have hji8z : (ji6) ≤ 64 → (IntKind.i64.wrap (1 * 2 ^ (ji6).toNat)) = ji8 := shl_small hji8
          have hji8u : (IntKind.i64.wrap (2 ^ min (ji6).toNat 64)) = ji8 := by have h_ := hji8_; rw [Int.one_mul] at h_; exact h_
          have hji8v : (ji6) ≤ 64 → (IntKind.i64.wrap (2 ^ (ji6).toNat)) = ji8 := fun hle_ => by have h_ := hji8z hle_; rw [Int.one_mul] at h_; exact h_
          have hji8y : (wrap64 (1 * 2 ^ min (ji6).toNat 64)) = ji8 := (i64_w _).symm.trans hji8_
          have hji8x : (ji6) ≤ 64 → (wrap64 (1 * 2 ^ (ji6).toNat)) = ji8 := fun h_ => (i64_w _).symm.trans (hji8z h_)
          by_cases c9 : 0 ≤ (ji8)
          · rw [if_pos c9] at H
            have c9b0 := eq_true c9
            have c9b1 : decide (0 ≤ (ji8)) = true := decide_eq_true c9
            clear c9
            by_cases c10 : (ji8 : Int).toNat ≤ 35184372088832
            · rw [if_pos c10] at H
              have c10b0 := eq_true c10
              have c10b1 : decide ((ji8 : Int).toNat ≤ 35184372088832) = true := decide_eq_true c10
              clear c10
              obtain ⟨y169, hy169⟩ : ∃ y_ : List Int, y_ = (List.replicate (ji8 : Int).toNat 0) := ⟨_, rfl⟩
              replace H : (if 0 ≤ (l0.length : Int) then (if (l0.length : Int) < (y166.length : Int) then (hypercuberef9_ahead.l0 k l0 ((rd_L1 l0 0).length : Int) (y166.set ((l0.length : Int) : Int).toNat y169) (wrap64 ((l0.length : Int) - 1))) else (none)) else (none)) = some r := by first | (rw [hy169]; with_reducible exact H) | (have H2_ := (Option.bind_some _ _).symm.trans H; rw [hy169]; with_reducible exact H2_) | (have H2_ := (Option.bind_some _ _).symm.trans H; with_reducible exact H2_) | with_reducible exact H | (rw [hy169]; exact H) | exact H
              have Ny169 := Aside0.mk hy169
              clear hy169
              by_cases c11 : 0 ≤ (l0.length : Int)
              · rw [if_pos c11] at H
                have c11b0 : decide (0 ≤ (l0.length : Int)) = true := decide_eq_true c11
                have c11b1 : decide (0 ≤ l0.length) = true := decide_eq_true (by omega)
                clear c11
                by_cases c12 : (l0.length : Int) < (y166.length : Int)
                · rw [if_pos c12] at H
                  have c12b0 : decide ((l0.length : Int) < (y166.length : Int)) = true := decide_eq_true c12
                  have c12b1 : decide (l0.length < y166.length) = true := decide_eq_true (Int.ofNat_lt.mp c12)
                  clear c12
                  obtain ⟨y172, hy172⟩ : ∃ y_ : List (List Int), y_ = (y166.set ((l0.length : Int) : Int).toNat y169) := ⟨_, rfl⟩
                  replace H : (hypercuberef9_ahead.l0 k l0 ((rd_L1 l0 0).length : Int) y172 (wrap64 ((l0.length : Int) - 1))) = some r := by first | (rw [hy172]; with_reducible exact H) | (have H2_ := (Option.bind_some _ _).symm.trans H; rw [hy172]; with_reducible exact H2_) | (have H2_ := (Option.bind_some _ _).symm.trans H; with_reducible exact H2_) | with_reducible exact H | (rw [hy172]; exact H) | exact H
                  have Ny172 := Aside0.mk hy172
                  clear hy172
                  have H' := Aside0.mk H
                  clear H
                  have p165 : 0 ≤ (0 : Int) := (by omega)
                  have q165 : 0 < (l0.length : Int) := of_decide_eq_true (by first | (with_reducible assumption) | assumption)
                  obtain ⟨ad165, A165_0, c165_0, e165, hx165_0, hl165_0, hi165_0⟩ := at_L1 HR0.out 0 p165 q165
                  cases e165
                  have qi165 : (0 < l0.length) = True := eq_true (by omega)
                  (try rw [show ((0 : Int)).toNat = 0 from rfl] at hx165_0)
                  (try rw [Addr.add_zero'] at hx165_0)
                  have HR165_0 := Aside0.mk hi165_0
                  have HC165_0 := Aside0.mk hl165_0
                  clear hi165_0 hl165_0
                  replace p165 := eq_true p165
                  replace q165 := eq_true q165
                  go_enter Try.func22, Try.ntmps22
                  go_wp2_with (first | ((with_reducible refine gate_dst (N := 19) rfl ?_); refine Kd.S_make (Kd.slice 3 (Kd.int .i64)) _ 22 rfl (N := 19) rfl 24 _ _ rfl ji3 rfl rfl Try.underlying24 (.slice none 0 0) 24 info22 rfl (by decide) (by omega) [] (ok := fun _ => True) (okp := fun _ => True) ⟨_, rfl, Kd.R_nil _ _ _ _ _⟩ (fun _ hk => hk) trivial (of_decide_eq_true (by first | (with_reducible assumption) | assumption)) (Nat.le_trans (Nat.mul_le_mul_right _ (of_decide_eq_true (by first | (with_reducible assumption) | assumption) : ji3.toNat ≤ 11728124029610)) (by omega)) (Below.refl _ _) (Nat.le_refl _) ?_; intro v167 w14 ho15 hb hg_ hnew_; clear hg_ hnew_; (first | rw [← Ny166.out] at ho15 | (simp only [Int.reduceToNat] at ho15; rw [← Ny166.out] at ho15)); have n0_ := Aside0.mk (Kd.S_lower ho15 (below_size (by repeat (first | (with_reducible first | exact HB.out | apply below_alloc | apply pw_below_drewN | apply below_drew1) | exact HB.out)))); have n1_ := Aside0.mk (below_step (by repeat (first | (with_reducible first | exact HB.out | apply below_alloc | apply pw_below_drewN | apply below_drew1) | exact HB.out)) hb); clear HB; have HO168 := n0_; have HB := n1_; clear n0_ n1_; clear hb ho15) | ((with_reducible refine gate_dst (N := 25) rfl ?_); refine Kd.R_make (Kd.int .i64) _ 3 rfl (N := 25) rfl 22 _ _ rfl ji8 rfl rfl Try.underlying22 (.int .i64 0) 8 info3 rfl (by decide) (by omega) 0 (ok := fun _ => True) (okp := fun _ => True) rfl (fun _ hk => hk) trivial (of_decide_eq_true (by first | (with_reducible assumption) | assumption)) (Nat.le_trans (Nat.mul_le_mul_right _ (of_decide_eq_true (by first | (with_reducible assumption) | assumption) : ji8.toNat ≤ 35184372088832)) (by omega)) (Below.refl _ _) (Nat.le_refl _) ?_; intro v170 w16 ho17 hb hg_ hnew_; clear hg_ hnew_; (first | rw [← Ny169.out] at ho17 | (simp only [Int.reduceToNat] at ho17; rw [← Ny169.out] at ho17)); have n0_ := Aside0.mk (Kd.S_elder' (by (with_reducible repeat (first | apply Kd.S_alloc | apply Kd.S_drewN | apply Kd.S_drew)); exact HO168.out) (Kd.R_base ho17) hb); have n1_ := Aside0.mk (Kd.R_lower ho17 (below_size (by repeat (first | (with_reducible first | exact HB.out | apply below_alloc | apply pw_below_drewN | apply below_drew1) | exact HB.out)))); have n2_ := Aside0.mk (below_step (by repeat (first | (with_reducible first | exact HB.out | apply below_alloc | apply pw_below_drewN | apply below_drew1) | exact HB.out)) hb); clear HO168; clear HB; have HO168 := n0_; have HO171 := n1_; have HB := n2_; clear n0_ n1_ n2_; have hvav170 := Aside0.mk (cells_one (Kd.R_val ho17).1); have hvbv170 := Aside0.mk (Kd.R_val ho17).2; clear hb ho17; have p13 : 0 ≤ ((l0.length : Int) : Int) := of_decide_eq_true (by first | (with_reducible assumption) | assumption); have q13 : ((l0.length : Int) : Int) < ((y166.length : Int) : Int) := of_decide_eq_true (by first | (with_reducible assumption) | assumption); obtain ⟨go13, co13, eo13, gb13, gl13, cl13, HG13⟩ := Kd.S_form HO168.out (by omega); (first | cases eo13 | (injection eo13 with ea_ en_ ec_; (first | subst ea_ | (injection ea_ with ea_; subst ea_)); subst ec_; clear en_)); have GB13 := Aside0.mk gb13; have GG13 := Aside0.mk HG13; clear gb13 gl13 HG13; obtain ⟨_, ce13, hcl13, hM13, hcc13, hfr13, _, _⟩ := Kd.S_elem HO168.out [] ((l0.length : Int) : Int) p13 q13; obtain ⟨ve13_0, rfl, ge13_0⟩ := hM13; have hx13_0 := hcc13 0 _ rfl; have hf13_0 := hfr13 0; (try simp only [show ((Kd.slice 3 (Kd.int .i64))).sz = 1 from rfl, Nat.mul_one, Nat.add_zero] at hx13_0); (try simp only [Int.toNat_natCast] at hx13_0); (try simp only [show ((Kd.slice 3 (Kd.int .i64))).sz = 1 from rfl, Nat.mul_one, Nat.add_zero] at hf13_0); (try simp only [Int.toNat_natCast] at hf13_0); (try clear hcl13); (try clear hcc13); (try clear hfr13); (try clear hM13); replace p13 := eq_true p13; replace q13 := eq_true q13; have n_ := Aside0.mk (Kd.S_mono (ok' := (fun k_ => some k_ ≠ (v170 : Value).ownBlock)) HO168.out (fun k_ hk => hk.2)); clear HO168; have HO168 := n_; clear n_; have HX18 := Aside0.mk (show Kd.S (Kd.slice 3 (Kd.int .i64)) 22 w16 w.heap.size (fun k_ => ((fun _ => True)) k_ ∧ ¬ ((fun k_ => some k_ = (v170 : Value).ownBlock)) k_) (.slice (some ⟨go13, 0, none⟩) y166.length co13) y166 from (by (with_reducible repeat (first | apply Kd.S_alloc | apply Kd.S_drewN | apply Kd.S_drew)); exact Kd.S_mono HO168.out (fun k_ hk => ⟨trivial, fun e_ => hk e_⟩))); obtain ⟨oki18, ce18, hcl18, hM18, hcc18, hfr18, hoki18, hH18⟩ := Kd.S_elem HX18.out [] ((l0.length : Int) : Int) (of_decide_eq_true (by first | (with_reducible assumption) | assumption)) (by have h_ : ((l0.length : Int) : Int) < ((y166.length : Int) : Int) := of_decide_eq_true (by first | (with_reducible assumption) | assumption); first | exact h_ | (have e_ := (Kd.S_reads' HO168.out).1; omega) | simpa using h_); obtain ⟨ve18_0, rfl, ge18_0⟩ := hM18; have HP18 := Kd.S_seg hH18 (of_decide_eq_true (by first | (with_reducible assumption) | assumption)) (by have h_ : ((l0.length : Int) : Int) < ((y166.length : Int) : Int) := of_decide_eq_true (by first | (with_reducible assumption) | assumption); first | exact h_ | (have e_ := (Kd.S_reads' HO168.out).1; omega) | simpa using h_) (seg := [v170]) (j := 0) (show 1 ≤ 1 from by decide) (x' := y169) (Kd.M_row (Kd.R_mono (Kd.R_tight rfl (Kd.R_mono (ok' := fun k_ => ((fun _ => True)) k_ ∧ k_ ≠ go13) (Kd.R_apart' (HO171.out) (Kd.S_typed HO168.out) (by decide)) (fun k_ hk => ⟨trivial, fun e_ => (hk.2) (by rw [e_]; rfl)⟩))) (fun _ h_ => Or.inr (h_)))) (fun _ hk => hk) (fun k_ hk_ => ((Kd.R_mono (ok' := fun k_ => ((fun _ => True)) k_ ∧ k_ ≠ go13) (Kd.R_apart' (HO171.out) (Kd.S_typed HO168.out) (by decide)) (fun k_ hk => ⟨trivial, fun e_ => (hk.2) (by rw [e_]; rfl)⟩))).1 k_ hk_.symm); have hx18_0 := hcc18 0 _ rfl; (try simp only [show ((Kd.slice 3 (Kd.int .i64))).sz = 1 from rfl, Nat.mul_one, Nat.add_zero] at hx18_0); (try simp only [Int.toNat_natCast] at hx18_0); have hf18_0 := hfr18 0; (try simp only [show ((Kd.slice 3 (Kd.int .i64))).sz = 1 from rfl, Nat.mul_one, Nat.add_zero] at hf18_0); (try simp only [Int.toNat_natCast] at hf18_0); (try clear hcl18); (try clear hcc18); (try clear hfr18); (try clear hM18); (try clear hoki18); (try clear hH18); (try simp only [show ((Kd.slice 3 (Kd.int .i64))).sz = 1 from rfl, Nat.mul_one, Nat.add_zero] at HP18)) | ((with_reducible refine gate_store (t := 22) (p := 26) rfl ?_); refine store_event (t := 22) (p := 26) (v := ?vo_w19) (w1 := (w16.setCell ⟨go13, ((l0.length : Int) : Int).toNat, none⟩ (v170))) ?hg ?ho ?hn ?hr ?_; (case ho => rfl); (case hg => rfl); (case hn => rfl); (case hr => first | exact run_store_letter rfl rfl rfl info22 hvav170.out hvbv170.out (by assumption) (by assumption) | (go_simp; done) | (go_simp; rfl)); intro w19 hw; have hg : w16.grownBy w19 (some go13) := (by rw [hw]; exact HP18.2); have hp_ : Kd.S (Kd.slice 3 (Kd.int .i64)) 22 w19 w.heap.size (fun _ => True) (.slice (some ⟨go13, 0, none⟩) y166.length co13) y172 := (by rw [hw, Ny172.out]; exact HP18.1); clear HP18; have n0_ := Aside0.mk (hp_); have n1_ := Aside0.mk ((by rw [hw]; exact below_set (HB.out) GB13.out : Below w.heap.size w w19)); clear HO168; clear HB; clear HO171; have HO168 := n0_; have HB := n1_; clear n0_ n1_; clear hg hw hp_))
                  go_loopg [6] k (fun kq v6 w' => ∃ (x5_1 : List (List Int)) (x6_1 : Int), v6 = .int .i64 x6_1 ∧ Aside0 (hypercuberef9_ahead.l0 kq l0 ((rd_L1 l0 0).length : Int) x5_1 x6_1 = some r) ∧ Aside0 (kq ≤ k) ∧ Aside0 (Kd.S (Kd.slice 3 (Kd.int .i64)) 22 w' w.heap.size (fun _ => True) (.slice (some ⟨go13, 0, none⟩) y166.length co13) x5_1) ∧ Aside0 (Below w.heap.size w w'))
                  case atStart => exact ⟨(y172), (wrap64 ((l0.length : Int) - 1)), (by first | rfl | (simp; done) | (simp [*]; done)), H', ⟨Nat.le_refl _⟩, ⟨by (with_reducible repeat (first | apply Kd.S_alloc | apply Kd.S_drewN | apply Kd.S_drew)); exact HO168.out⟩, ⟨by repeat (first | (with_reducible first | exact HB.out | apply below_alloc | apply pw_below_drewN | apply below_drew1) | exact HB.out)⟩⟩
                  case round =>
                    clear H'
                    try clear c1
                    try clear p1
                    try clear q1
                    try clear hx1
                    try clear qi1
                    try clear hf1
                    try clear c2
                    try clear c2b0
                    try clear c2b1
                    try clear p2
                    try clear c4
                    try clear c4b0
                    try clear c4b1
                    try clear c5
                    try clear c5b0
                    try clear c5b1
                    try clear p6
                    try clear c7
                    try clear c7b0
                    try clear c7b1
                    try clear c9
                    try clear c9b0
                    try clear c9b1
                    try clear c10
                    try clear c10b0
                    try clear c10b1
                    try clear c11
                    try clear c11b0
                    try clear c11b1
                    try clear c12
                    try clear c12b0
                    try clear c12b1
                    try clear c13
                    try clear p13
                    try clear q13
                    try clear hx13
                    try clear hf13
                    try clear c16
                    try clear p16
                    try clear q16
                    try clear hx16
                    try clear qi16
                    try clear c18
                    try clear hx18
                    try clear hf18
                    try clear hx13_0
                    try clear hx165_0
                    try clear hx18_0
                    try clear p13
                    try clear p165
                    try clear q13
                    try clear q165
                    obtain ⟨x5_1, x6_1, rfl, HA, HK1, HO_5, HB⟩ := hrel
                    have hl5_1 := (Kd.S_reads' HO_5.out).1
                    rw [hl5_1] at HO_5
                    (try simp only [hl5_1])
                    cases gk with
                    | zero => exact absurd HA.out (by simp [hypercuberef9_ahead.l0])
                    | succ k1 =>
                      have H := HA.out
                      clear HA
                      simp only [hypercuberef9_ahead.l0] at H
                      by_cases c20 : x6_1 ≥ 0
                      · rw [if_pos c20] at H
                        have c20b0 : decide (0 ≤ x6_1) = true := decide_eq_true c20
                        clear c20
                        obtain ⟨ji21, hji21⟩ : ∃ j_ : Int, (IntKind.u64.wrap (((rd_L1 l0 0).length : Int))) = j_ := ⟨_, rfl⟩
                        replace H : (if 0 ≤ (ji21) then (if 0 ≤ (shl .i64 1 (ji21)) then (if (shl .i64 1 (ji21) : Int).toNat ≤ 35184372088832 then (if 0 ≤ x6_1 then (if x6_1 < (x5_1.length : Int) then (hypercuberef9_ahead.l1 k1 l0 ((rd_L1 l0 0).length : Int) (x5_1.set (x6_1 : Int).toNat (List.replicate (shl .i64 1 (ji21) : Int).toNat 0)) x6_1 0) else (none)) else (none)) else (none)) else (none)) else (none)) = some r := by first | (rw [hji21] at H; exact H) | (simp only [hji21] at H ⊢; exact H)
                        obtain rfl : ji21 = ji6 := hji21.symm.trans hji6
                        by_cases c22 : 0 ≤ (ji21)
                        · rw [if_pos c22] at H
                          have c22b0 := eq_true c22
                          have c22b1 : decide (0 ≤ (ji21)) = true := decide_eq_true c22
                          clear c22
                          obtain ⟨ji23, hji23⟩ : ∃ j_ : Int, (shl .i64 1 (ji21)) = j_ := ⟨_, rfl⟩
                          replace H : (if 0 ≤ (ji23) then (if (ji23 : Int).toNat ≤ 35184372088832 then (if 0 ≤ x6_1 then (if x6_1 < (x5_1.length : Int) then (hypercuberef9_ahead.l1 k1 l0 ((rd_L1 l0 0).length : Int) (x5_1.set (x6_1 : Int).toNat (List.replicate (ji23 : Int).toNat 0)) x6_1 0) else (none)) else (none)) else (none)) else (none)) = some r := by first | (rw [hji23] at H; exact H) | (simp only [hji23] at H ⊢; exact H)
                          obtain rfl : ji23 = ji8 := hji23.symm.trans hji8
                          have hji23_ : (IntKind.i64.wrap (1 * 2 ^ min (ji21).toNat 64)) = ji23 := hji23
                          have hji23z : (ji21) ≤ 64 → (IntKind.i64.wrap (1 * 2 ^ (ji21).toNat)) = ji23 := shl_small hji23
                          have hji23u : (IntKind.i64.wrap (2 ^ min (ji21).toNat 64)) = ji23 := by have h_ := hji23_; rw [Int.one_mul] at h_; exact h_
                          have hji23v : (ji21) ≤ 64 → (IntKind.i64.wrap (2 ^ (ji21).toNat)) = ji23 := fun hle_ => by have h_ := hji23z hle_; rw [Int.one_mul] at h_; exact h_
                          have hji23y : (wrap64 (1 * 2 ^ min (ji21).toNat 64)) = ji23 := (i64_w _).symm.trans hji23_
                          have hji23x : (ji21) ≤ 64 → (wrap64 (1 * 2 ^ (ji21).toNat)) = ji23 := fun h_ => (i64_w _).symm.trans (hji23z h_)
                          by_cases c24 : 0 ≤ (ji23)
                          · rw [if_pos c24] at H
                            have c24b0 := eq_true c24
                            have c24b1 : decide (0 ≤ (ji23)) = true := decide_eq_true c24
                            clear c24
                            by_cases c25 : (ji23 : Int).toNat ≤ 35184372088832
                            · rw [if_pos c25] at H
                              have c25b0 := eq_true c25
                              have c25b1 : decide ((ji23 : Int).toNat ≤ 35184372088832) = true := decide_eq_true c25
                              clear c25
                              obtain ⟨y173, hy173⟩ : ∃ y_ : List Int, y_ = (List.replicate (ji23 : Int).toNat 0) := ⟨_, rfl⟩
                              replace H : (if 0 ≤ x6_1 then (if x6_1 < (x5_1.length : Int) then (hypercuberef9_ahead.l1 k1 l0 ((rd_L1 l0 0).length : Int) (x5_1.set (x6_1 : Int).toNat y173) x6_1 0) else (none)) else (none)) = some r := by first | (rw [hy173]; with_reducible exact H) | (have H2_ := (Option.bind_some _ _).symm.trans H; rw [hy173]; with_reducible exact H2_) | (have H2_ := (Option.bind_some _ _).symm.trans H; with_reducible exact H2_) | with_reducible exact H | (rw [hy173]; exact H) | exact H
                              have Ny173 := Aside0.mk hy173
                              clear hy173
                              by_cases c26 : 0 ≤ x6_1
                              · rw [if_pos c26] at H
                                have c26b0 : decide (0 ≤ x6_1) = true := decide_eq_true c26
                                clear c26
                                by_cases c27 : x6_1 < (x5_1.length : Int)
                                · rw [if_pos c27] at H
                                  have c27b0 : decide (x6_1 < (x5_1.length : Int)) = true := decide_eq_true c27
                                  clear c27
                                  obtain ⟨y176, hy176⟩ : ∃ y_ : List (List Int), y_ = (x5_1.set (x6_1 : Int).toNat y173) := ⟨_, rfl⟩
                                  replace H : (hypercuberef9_ahead.l1 k1 l0 ((rd_L1 l0 0).length : Int) y176 x6_1 0) = some r := by first | (rw [hy176]; with_reducible exact H) | (have H2_ := (Option.bind_some _ _).symm.trans H; rw [hy176]; with_reducible exact H2_) | (have H2_ := (Option.bind_some _ _).symm.trans H; with_reducible exact H2_) | with_reducible exact H | (rw [hy176]; exact H) | exact H
                                  have Ny176 := Aside0.mk hy176
                                  clear hy176
                                  have H' := Aside0.mk H
                                  clear H
                                  go_wp2_with (first | ((with_reducible refine gate_dst (N := 38) rfl ?_); refine Kd.R_make (Kd.int .i64) _ 3 rfl (N := 38) rfl 22 _ _ rfl ji23 rfl rfl Try.underlying22 (.int .i64 0) 8 info3 rfl (by decide) (by omega) 0 (ok := fun _ => True) (okp := fun _ => True) rfl (fun _ hk => hk) trivial (of_decide_eq_true (by first | (with_reducible assumption) | assumption)) (Nat.le_trans (Nat.mul_le_mul_right _ (of_decide_eq_true (by first | (with_reducible assumption) | assumption) : ji23.toNat ≤ 35184372088832)) (by omega)) (Below.refl _ _) (Nat.le_refl _) ?_; intro v174 w29 ho30 hb hg_ hnew_; clear hg_ hnew_; (first | rw [← Ny173.out] at ho30 | (simp only [Int.reduceToNat] at ho30; rw [← Ny173.out] at ho30)); have n0_ := Aside0.mk (Kd.S_elder' (by (with_reducible repeat (first | apply Kd.S_alloc | apply Kd.S_drewN | apply Kd.S_drew)); exact HO_5.out) (Kd.R_base ho30) hb); have n1_ := Aside0.mk (Kd.R_lower ho30 (below_size (by repeat (first | (with_reducible first | exact HB.out | apply below_alloc | apply pw_below_drewN | apply below_drew1) | exact HB.out)))); have n2_ := Aside0.mk (below_step (by repeat (first | (with_reducible first | exact HB.out | apply below_alloc | apply pw_below_drewN | apply below_drew1) | exact HB.out)) hb); clear HO_5; clear HB; have HO_5 := n0_; have HO175 := n1_; have HB := n2_; clear n0_ n1_ n2_; have hvav174 := Aside0.mk (cells_one (Kd.R_val ho30).1); have hvbv174 := Aside0.mk (Kd.R_val ho30).2; clear hb ho30; have p28 : 0 ≤ (x6_1 : Int) := of_decide_eq_true (by first | (with_reducible assumption) | assumption); have q28 : (x6_1 : Int) < ((x5_1.length : Int) : Int) := of_decide_eq_true (by first | (with_reducible assumption) | assumption); obtain ⟨_, ce28, hcl28, hM28, hcc28, hfr28, _, _⟩ := Kd.S_elem HO_5.out [] (x6_1 : Int) p28 q28; obtain ⟨ve28_0, rfl, ge28_0⟩ := hM28; have hx28_0 := hcc28 0 _ rfl; have hf28_0 := hfr28 0; (try simp only [show ((Kd.slice 3 (Kd.int .i64))).sz = 1 from rfl, Nat.mul_one, Nat.add_zero] at hx28_0); (try simp only [Int.toNat_natCast] at hx28_0); (try simp only [show ((Kd.slice 3 (Kd.int .i64))).sz = 1 from rfl, Nat.mul_one, Nat.add_zero] at hf28_0); (try simp only [Int.toNat_natCast] at hf28_0); (try clear hcl28); (try clear hcc28); (try clear hfr28); (try clear hM28); replace p28 := eq_true p28; replace q28 := eq_true q28; have n_ := Aside0.mk (Kd.S_mono (ok' := (fun k_ => some k_ ≠ (v174 : Value).ownBlock)) HO_5.out (fun k_ hk => hk.2)); clear HO_5; have HO_5 := n_; clear n_; have HX31 := Aside0.mk (show Kd.S (Kd.slice 3 (Kd.int .i64)) 22 w29 w.heap.size (fun k_ => ((fun _ => True)) k_ ∧ ¬ ((fun k_ => some k_ = (v174 : Value).ownBlock)) k_) (.slice (some ⟨go13, 0, none⟩) x5_1.length co13) x5_1 from (by (with_reducible repeat (first | apply Kd.S_alloc | apply Kd.S_drewN | apply Kd.S_drew)); exact Kd.S_mono HO_5.out (fun k_ hk => ⟨trivial, fun e_ => hk e_⟩))); obtain ⟨oki31, ce31, hcl31, hM31, hcc31, hfr31, hoki31, hH31⟩ := Kd.S_elem HX31.out [] (x6_1 : Int) (of_decide_eq_true (by first | (with_reducible assumption) | assumption)) (by have h_ : (x6_1 : Int) < ((x5_1.length : Int) : Int) := of_decide_eq_true (by first | (with_reducible assumption) | assumption); first | exact h_ | (have e_ := (Kd.S_reads' HO_5.out).1; omega) | simpa using h_); obtain ⟨ve31_0, rfl, ge31_0⟩ := hM31; have HP31 := Kd.S_seg hH31 (of_decide_eq_true (by first | (with_reducible assumption) | assumption)) (by have h_ : (x6_1 : Int) < ((x5_1.length : Int) : Int) := of_decide_eq_true (by first | (with_reducible assumption) | assumption); first | exact h_ | (have e_ := (Kd.S_reads' HO_5.out).1; omega) | simpa using h_) (seg := [v174]) (j := 0) (show 1 ≤ 1 from by decide) (x' := y173) (Kd.M_row (Kd.R_mono (Kd.R_tight rfl (Kd.R_mono (ok' := fun k_ => ((fun _ => True)) k_ ∧ k_ ≠ go13) (Kd.R_apart' (HO175.out) (Kd.S_typed HO_5.out) (by decide)) (fun k_ hk => ⟨trivial, fun e_ => (hk.2) (by rw [e_]; rfl)⟩))) (fun _ h_ => Or.inr (h_)))) (fun _ hk => hk) (fun k_ hk_ => ((Kd.R_mono (ok' := fun k_ => ((fun _ => True)) k_ ∧ k_ ≠ go13) (Kd.R_apart' (HO175.out) (Kd.S_typed HO_5.out) (by decide)) (fun k_ hk => ⟨trivial, fun e_ => (hk.2) (by rw [e_]; rfl)⟩))).1 k_ hk_.symm); have hx31_0 := hcc31 0 _ rfl; (try simp only [show ((Kd.slice 3 (Kd.int .i64))).sz = 1 from rfl, Nat.mul_one, Nat.add_zero] at hx31_0); (try simp only [Int.toNat_natCast] at hx31_0); have hf31_0 := hfr31 0; (try simp only [show ((Kd.slice 3 (Kd.int .i64))).sz = 1 from rfl, Nat.mul_one, Nat.add_zero] at hf31_0); (try simp only [Int.toNat_natCast] at hf31_0); (try clear hcl31); (try clear hcc31); (try clear hfr31); (try clear hM31); (try clear hoki31); (try clear hH31); (try simp only [show ((Kd.slice 3 (Kd.int .i64))).sz = 1 from rfl, Nat.mul_one, Nat.add_zero] at HP31)) | ((with_reducible refine gate_store (t := 22) (p := 39) rfl ?_); refine store_event (t := 22) (p := 39) (v := ?vo_w32) (w1 := (w29.setCell ⟨go13, (x6_1 : Int).toNat, none⟩ (v174))) ?hg ?ho ?hn ?hr ?_; (case ho => rfl); (case hg => rfl); (case hn => rfl); (case hr => first | exact run_store_letter rfl rfl rfl info22 hvav174.out hvbv174.out (by assumption) (by assumption) | (go_simp; done) | (go_simp; rfl)); intro w32 hw; have hg : w29.grownBy w32 (some go13) := (by rw [hw]; exact HP31.2); have hp_ : Kd.S (Kd.slice 3 (Kd.int .i64)) 22 w32 w.heap.size (fun _ => True) (.slice (some ⟨go13, 0, none⟩) x5_1.length co13) y176 := (by rw [hw, Ny176.out]; exact HP31.1); clear HP31; have n0_ := Aside0.mk (hp_); have n1_ := Aside0.mk ((by rw [hw]; exact below_set (HB.out) GB13.out : Below w.heap.size w w32)); clear HO_5; clear HB; clear HO175; have HO_5 := n0_; have HB := n1_; clear n0_ n1_; clear hg hw hp_))
                                  go_loopg [7] k1 (fun kq v7 w' => ∃ (x5_2 : List (List Int)) (x7_2 : Int), v7 = .int .i64 x7_2 ∧ Aside0 (hypercuberef9_ahead.l1 kq l0 ((rd_L1 l0 0).length : Int) x5_2 x6_1 x7_2 = some r) ∧ Aside0 (kq ≤ k1) ∧ Aside0 (Kd.S (Kd.slice 3 (Kd.int .i64)) 22 w' w.heap.size (fun _ => True) (.slice (some ⟨go13, 0, none⟩) x5_1.length co13) x5_2) ∧ Aside0 (Below w.heap.size w w'))
                                  case atStart => exact ⟨(y176), (0), (by first | rfl | (simp; done) | (simp [*]; done)), H', ⟨Nat.le_refl _⟩, ⟨by (try simp only [hl5_1]); (with_reducible repeat (first | apply Kd.S_alloc | apply Kd.S_drewN | apply Kd.S_drew)); exact HO_5.out⟩, ⟨by repeat (first | (with_reducible first | exact HB.out | apply below_alloc | apply pw_below_drewN | apply below_drew1) | exact HB.out)⟩⟩
                                  case round =>
                                    clear H'
                                    try clear c1
                                    try clear p1
                                    try clear q1
                                    try clear hx1
                                    try clear qi1
                                    try clear hf1
                                    try clear c2
                                    try clear c2b0
                                    try clear c2b1
                                    try clear p2
                                    try clear q2
                                    try clear hx2
                                    try clear hf2
                                    try clear c3
                                    try clear hx3
                                    try clear hf3
                                    try clear c4
                                    try clear c4b0
                                    try clear c4b1
                                    try clear c5
                                    try clear c5b0
                                    try clear c5b1
                                    try clear p6
                                    try clear c7
                                    try clear c7b0
                                    try clear c7b1
                                    try clear c9
                                    try clear c9b0
                                    try clear c9b1
                                    try clear c10
                                    try clear c10b0
                                    try clear c10b1
                                    try clear c11
                                    try clear c11b0
                                    try clear c11b1
                                    try clear c12
                                    try clear c12b0
                                    try clear c12b1
                                    try clear c13
                                    try clear p13
                                    try clear q13
                                    try clear hx13
                                    try clear hf13
                                    try clear c16
                                    try clear p16
                                    try clear q16
                                    try clear hx16
                                    try clear qi16
                                    try clear c18
                                    try clear hx18
                                    try clear hf18
                                    try clear c20
                                    try clear c20b0
                                    try clear c22
                                    try clear c22b0
                                    try clear c22b1
                                    try clear c24
                                    try clear c24b0
                                    try clear c24b1
                                    try clear c25
                                    try clear c25b0
                                    try clear c25b1
                                    try clear c26
                                    try clear c26b0
                                    try clear c27
                                    try clear c27b0
                                    try clear c28
                                    try clear p28
                                    try clear q28
                                    try clear hx28
                                    try clear hf28
                                    try clear c31
                                    try clear hx31
                                    try clear hf31
                                    try clear hx13_0
                                    try clear hx165_0
                                    try clear hx18_0
                                    try clear hx28_0
                                    try clear hx31_0
                                    try clear p1
                                    try clear p13
                                    try clear p16
                                    try clear p165
                                    try clear p2
                                    try clear p28
                                    try clear p6
                                    try clear q1
                                    try clear q13
                                    try clear q16
                                    try clear q165
                                    try clear q28
                                    obtain ⟨x5_2, x7_2, rfl, HA, HK2, HO_5, HB⟩ := hrel
                                    have hl5_2 := (Kd.S_reads' HO_5.out).1
                                    rw [hl5_2] at HO_5
                                    (try simp only [hl5_2])
                                    cases gk with
                                    | zero => exact absurd HA.out (by simp [hypercuberef9_ahead.l1])
                                    | succ k2 =>
                                      have H := HA.out
                                      clear HA
                                      simp only [hypercuberef9_ahead.l1] at H
                                      obtain ⟨ji33, hji33⟩ : ∃ j_ : Int, (IntKind.u64.wrap (((rd_L1 l0 0).length : Int))) = j_ := ⟨_, rfl⟩
                                      replace H : (if 0 ≤ (ji33) then (if x7_2 < (shl .i64 1 (ji33)) then (hypercuberef9_ahead.l2 k2 l0 ((rd_L1 l0 0).length : Int) x5_2 x6_1 x7_2 (-1) 0) else (hypercuberef9_ahead.l0 k2 l0 ((rd_L1 l0 0).length : Int) x5_2 (wrap64 (x6_1 - 1)))) else (none)) = some r := by first | (rw [hji33] at H; exact H) | (simp only [hji33] at H ⊢; exact H)
                                      obtain rfl : ji33 = ji21 := hji33.symm.trans hji21
                                      by_cases c34 : 0 ≤ (ji33)
                                      · rw [if_pos c34] at H
                                        have c34b0 := eq_true c34
                                        have c34b1 : decide (0 ≤ (ji33)) = true := decide_eq_true c34
                                        clear c34
                                        obtain ⟨ji35, hji35⟩ : ∃ j_ : Int, (shl .i64 1 (ji33)) = j_ := ⟨_, rfl⟩
                                        replace H : (if x7_2 < (ji35) then (hypercuberef9_ahead.l2 k2 l0 ((rd_L1 l0 0).length : Int) x5_2 x6_1 x7_2 (-1) 0) else (hypercuberef9_ahead.l0 k2 l0 ((rd_L1 l0 0).length : Int) x5_2 (wrap64 (x6_1 - 1)))) = some r := by first | (rw [hji35] at H; exact H) | (simp only [hji35] at H ⊢; exact H)
                                        obtain rfl : ji35 = ji23 := hji35.symm.trans hji23
                                        have hji35_ : (IntKind.i64.wrap (1 * 2 ^ min (ji33).toNat 64)) = ji35 := hji35
                                        have hji35z : (ji33) ≤ 64 → (IntKind.i64.wrap (1 * 2 ^ (ji33).toNat)) = ji35 := shl_small hji35
                                        have hji35u : (IntKind.i64.wrap (2 ^ min (ji33).toNat 64)) = ji35 := by have h_ := hji35_; rw [Int.one_mul] at h_; exact h_
                                        have hji35v : (ji33) ≤ 64 → (IntKind.i64.wrap (2 ^ (ji33).toNat)) = ji35 := fun hle_ => by have h_ := hji35z hle_; rw [Int.one_mul] at h_; exact h_
                                        have hji35y : (wrap64 (1 * 2 ^ min (ji33).toNat 64)) = ji35 := (i64_w _).symm.trans hji35_
                                        have hji35x : (ji33) ≤ 64 → (wrap64 (1 * 2 ^ (ji33).toNat)) = ji35 := fun h_ => (i64_w _).symm.trans (hji35z h_)
                                        by_cases c36 : x7_2 < (ji35)
                                        · rw [if_pos c36] at H
                                          have c36b0 : decide (x7_2 < (ji35)) = true := decide_eq_true c36
                                          clear c36
                                          have H' := Aside0.mk H
                                          clear H
                                          go_wp2
                                          go_loopg [8, 9] k2 (fun kq v8 v9 w' => ∃ (x8_3 : Int) (x9_3 : Int), v8 = .int .i64 x8_3 ∧ v9 = .int .i64 x9_3 ∧ Aside0 (hypercuberef9_ahead.l2 kq l0 ((rd_L1 l0 0).length : Int) x5_2 x6_1 x7_2 x8_3 x9_3 = some r) ∧ Aside0 (kq ≤ k2) ∧ Aside0 (Kd.S (Kd.slice 3 (Kd.int .i64)) 22 w' w.heap.size (fun _ => True) (.slice (some ⟨go13, 0, none⟩) x5_2.length co13) x5_2) ∧ Aside0 (Below w.heap.size w w'))
                                          case atStart => exact ⟨((-1)), (0), (by first | rfl | (simp; done) | (simp [*]; done)), (by first | rfl | (simp; done) | (simp [*]; done)), H', ⟨Nat.le_refl _⟩, ⟨by (try simp only [hl5_1]); (try simp only [hl5_2]); (with_reducible repeat (first | apply Kd.S_alloc | apply Kd.S_drewN | apply Kd.S_drew)); exact HO_5.out⟩, ⟨by repeat (first | (with_reducible first | exact HB.out | apply below_alloc | apply pw_below_drewN | apply below_drew1) | exact HB.out)⟩⟩
                                          case round =>
                                            clear H'
                                            try clear c1
                                            try clear p1
                                            try clear q1
                                            try clear hx1
                                            try clear qi1
                                            try clear hf1
                                            try clear c2
                                            try clear c2b0
                                            try clear c2b1
                                            try clear p2
                                            try clear q2
                                            try clear hx2
                                            try clear hf2
                                            try clear c3
                                            try clear hx3
                                            try clear hf3
                                            try clear c4
                                            try clear c4b0
                                            try clear c4b1
                                            try clear c5
                                            try clear c5b0
                                            try clear c5b1
                                            try clear p6
                                            try clear c7
                                            try clear c7b0
                                            try clear c7b1
                                            try clear c9
                                            try clear c9b0
                                            try clear c9b1
                                            try clear c10
                                            try clear c10b0
                                            try clear c10b1
                                            try clear c11
                                            try clear c11b0
                                            try clear c11b1
                                            try clear c12
                                            try clear c12b0
                                            try clear c12b1
                                            try clear c13
                                            try clear p13
                                            try clear q13
                                            try clear hx13
                                            try clear hf13
                                            try clear c16
                                            try clear p16
                                            try clear q16
                                            try clear hx16
                                            try clear qi16
                                            try clear c18
                                            try clear hx18
                                            try clear hf18
                                            try clear c20
                                            try clear c20b0
                                            try clear c22
                                            try clear c22b0
                                            try clear c22b1
                                            try clear c24
                                            try clear c24b0
                                            try clear c24b1
                                            try clear c25
                                            try clear c25b0
                                            try clear c25b1
                                            try clear c26
                                            try clear c26b0
                                            try clear c27
                                            try clear c27b0
                                            try clear c28
                                            try clear p28
                                            try clear q28
                                            try clear hx28
                                            try clear hf28
                                            try clear c31
                                            try clear hx31
                                            try clear hf31
                                            try clear c34
                                            try clear c34b0
                                            try clear c34b1
                                            try clear c36
                                            try clear c36b0
                                            try clear hx13_0
                                            try clear hx165_0
                                            try clear hx18_0
                                            try clear hx28_0
                                            try clear hx31_0
                                            try clear p1
                                            try clear p13
                                            try clear p16
                                            try clear p165
                                            try clear p2
                                            try clear p28
                                            try clear p6
                                            try clear q1
                                            try clear q13
                                            try clear q16
                                            try clear q165
                                            try clear q2
                                            try clear q28
                                            obtain ⟨x8_3, x9_3, rfl, rfl, HA, HK3, HO_5, HB⟩ := hrel
                                            cases gk with
                                            | zero => exact absurd HA.out (by simp [hypercuberef9_ahead.l2])
                                            | succ k3 =>
                                              have H := HA.out
                                              clear HA
                                              simp only [hypercuberef9_ahead.l2] at H
                                              by_cases c37 : x9_3 < ((rd_L1 l0 0).length : Int)
                                              · rw [if_pos c37] at H
                                                have c37b0 : decide (x9_3 < ((rd_L1 l0 0).length : Int)) = true := decide_eq_true c37
                                                clear c37
                                                obtain ⟨ji38, hji38⟩ : ∃ j_ : Int, (IntKind.u64.wrap (x9_3)) = j_ := ⟨_, rfl⟩
                                                replace H : (if 0 ≤ (ji38) then (if (Go.bits .and .i64 (shr .i64 x7_2 (ji38)) 1) = 1 then (hypercuberef9_ahead.l2 k3 l0 ((rd_L1 l0 0).length : Int) x5_2 x6_1 x7_2 x8_3 (wrap64 (x9_3 + 1))) else (if 0 ≤ (wrap64 (x6_1 + 1)) then (if (wrap64 (x6_1 + 1)) < (x5_2.length : Int) then (if 0 ≤ (Go.bits .or .i64 x7_2 (shl .i64 1 (ji38))) then (if (Go.bits .or .i64 x7_2 (shl .i64 1 (ji38))) < ((rd_L1 x5_2 (wrap64 (x6_1 + 1))).length : Int) then (if (rd (rd_L1 x5_2 (wrap64 (x6_1 + 1))) (Go.bits .or .i64 x7_2 (shl .i64 1 (ji38)))) ≥ 0 then (if x8_3 < 0 then (if 0 ≤ x6_1 then (if x6_1 < (l0.length : Int) then (if 0 ≤ x9_3 then (if x9_3 < ((rd_L1 l0 x6_1).length : Int) then (hypercuberef9_ahead.l2 k3 l0 ((rd_L1 l0 0).length : Int) x5_2 x6_1 x7_2 (wrap64 ((rd (rd_L1 x5_2 (wrap64 (x6_1 + 1))) (Go.bits .or .i64 x7_2 (shl .i64 1 (ji38)))) + (rd (rd_L1 l0 x6_1) x9_3))) (wrap64 (x9_3 + 1))) else (none)) else (none)) else (none)) else (none)) else (if 0 ≤ x6_1 then (if x6_1 < (l0.length : Int) then (if 0 ≤ x9_3 then (if x9_3 < ((rd_L1 l0 x6_1).length : Int) then (if (wrap64 ((rd (rd_L1 x5_2 (wrap64 (x6_1 + 1))) (Go.bits .or .i64 x7_2 (shl .i64 1 (ji38)))) + (rd (rd_L1 l0 x6_1) x9_3))) < x8_3 then (hypercuberef9_ahead.l2 k3 l0 ((rd_L1 l0 0).length : Int) x5_2 x6_1 x7_2 (wrap64 ((rd (rd_L1 x5_2 (wrap64 (x6_1 + 1))) (Go.bits .or .i64 x7_2 (shl .i64 1 (ji38)))) + (rd (rd_L1 l0 x6_1) x9_3))) (wrap64 (x9_3 + 1))) else (hypercuberef9_ahead.l2 k3 l0 ((rd_L1 l0 0).length : Int) x5_2 x6_1 x7_2 x8_3 (wrap64 (x9_3 + 1)))) else (none)) else (none)) else (none)) else (none))) else (hypercuberef9_ahead.l2 k3 l0 ((rd_L1 l0 0).length : Int) x5_2 x6_1 x7_2 x8_3 (wrap64 (x9_3 + 1)))) else (none)) else (none)) else (none)) else (none))) else (none)) = some r := by first | (rw [hji38] at H; exact H) | (simp only [hji38] at H ⊢; exact H)
                                                by_cases c39 : 0 ≤ (ji38)
                                                · rw [if_pos c39] at H
                                                  have c39b0 := eq_true c39
                                                  have c39b1 : decide (0 ≤ (ji38)) = true := decide_eq_true c39
                                                  clear c39
                                                  obtain ⟨ji40, hji40⟩ : ∃ j_ : Int, (shr .i64 x7_2 (ji38)) = j_ := ⟨_, rfl⟩
                                                  replace H : (if (Go.bits .and .i64 (ji40) 1) = 1 then (hypercuberef9_ahead.l2 k3 l0 ((rd_L1 l0 0).length : Int) x5_2 x6_1 x7_2 x8_3 (wrap64 (x9_3 + 1))) else (if 0 ≤ (wrap64 (x6_1 + 1)) then (if (wrap64 (x6_1 + 1)) < (x5_2.length : Int) then (if 0 ≤ (Go.bits .or .i64 x7_2 (shl .i64 1 (ji38))) then (if (Go.bits .or .i64 x7_2 (shl .i64 1 (ji38))) < ((rd_L1 x5_2 (wrap64 (x6_1 + 1))).length : Int) then (if (rd (rd_L1 x5_2 (wrap64 (x6_1 + 1))) (Go.bits .or .i64 x7_2 (shl .i64 1 (ji38)))) ≥ 0 then (if x8_3 < 0 then (if 0 ≤ x6_1 then (if x6_1 < (l0.length : Int) then (if 0 ≤ x9_3 then (if x9_3 < ((rd_L1 l0 x6_1).length : Int) then (hypercuberef9_ahead.l2 k3 l0 ((rd_L1 l0 0).length : Int) x5_2 x6_1 x7_2 (wrap64 ((rd (rd_L1 x5_2 (wrap64 (x6_1 + 1))) (Go.bits .or .i64 x7_2 (shl .i64 1 (ji38)))) + (rd (rd_L1 l0 x6_1) x9_3))) (wrap64 (x9_3 + 1))) else (none)) else (none)) else (none)) else (none)) else (if 0 ≤ x6_1 then (if x6_1 < (l0.length : Int) then (if 0 ≤ x9_3 then (if x9_3 < ((rd_L1 l0 x6_1).length : Int) then (if (wrap64 ((rd (rd_L1 x5_2 (wrap64 (x6_1 + 1))) (Go.bits .or .i64 x7_2 (shl .i64 1 (ji38)))) + (rd (rd_L1 l0 x6_1) x9_3))) < x8_3 then (hypercuberef9_ahead.l2 k3 l0 ((rd_L1 l0 0).length : Int) x5_2 x6_1 x7_2 (wrap64 ((rd (rd_L1 x5_2 (wrap64 (x6_1 + 1))) (Go.bits .or .i64 x7_2 (shl .i64 1 (ji38)))) + (rd (rd_L1 l0 x6_1) x9_3))) (wrap64 (x9_3 + 1))) else (hypercuberef9_ahead.l2 k3 l0 ((rd_L1 l0 0).length : Int) x5_2 x6_1 x7_2 x8_3 (wrap64 (x9_3 + 1)))) else (none)) else (none)) else (none)) else (none))) else (hypercuberef9_ahead.l2 k3 l0 ((rd_L1 l0 0).length : Int) x5_2 x6_1 x7_2 x8_3 (wrap64 (x9_3 + 1)))) else (none)) else (none)) else (none)) else (none))) = some r := by first | (rw [hji40] at H; exact H) | (simp only [hji40] at H ⊢; exact H)
                                                  have hji40_ : (x7_2 / 2 ^ min (ji38).toNat 64) = ji40 := hji40
                                                  have hji40z : (ji38) ≤ 64 → (x7_2 / 2 ^ (ji38).toNat) = ji40 := shr_small hji40
                                                  by_cases c41 : (Go.bits .and .i64 (ji40) 1) = 1
                                                  · rw [if_pos c41] at H
                                                    have c41b0 : ((Go.bits .and .i64 (ji40) 1) == 1) = true := beq_iff_eq.mpr c41
                                                    have c41b1 : ((Go.bits .and .i64 (ji40) 1) != 1) = false := bne_eq_false_iff_eq.mpr c41
                                                    clear c41
                                                    have H' := Aside0.mk H
                                                    clear H
                                                    go_wp2
                                                    go_roundg k3
                                                    case measure => have := HK1.out; have := HK2.out; have := HK3.out; omega
                                                    case rel => exact ⟨(x8_3), (wrap64 (x9_3 + 1)), (by first | rfl | (simp; done) | (simp [*]; done)), (by first | rfl | (simp; done) | (simp [*]; done)), H', ⟨by have := HK1.out; have := HK2.out; have := HK3.out; omega⟩, ⟨by (try simp only [hl5_1]); (try simp only [hl5_2]); (with_reducible repeat (first | apply Kd.S_alloc | apply Kd.S_drewN | apply Kd.S_drew)); exact HO_5.out⟩, ⟨by repeat (first | (with_reducible first | exact HB.out | apply below_alloc | apply pw_below_drewN | apply below_drew1) | exact HB.out)⟩⟩
                                                  · rw [if_neg c41] at H
                                                    have c41b0 : ((Go.bits .and .i64 (ji40) 1) == 1) = false := beq_eq_false_iff_ne.mpr c41
                                                    have c41b1 : ((Go.bits .and .i64 (ji40) 1) != 1) = true := bne_iff_ne.mpr c41
                                                    obtain ⟨ji42, hji42⟩ : ∃ j_ : Int, (wrap64 (x6_1 + 1)) = j_ := ⟨_, rfl⟩
                                                    replace H : (if 0 ≤ (ji42) then (if (ji42) < (x5_2.length : Int) then (if 0 ≤ (Go.bits .or .i64 x7_2 (shl .i64 1 (ji38))) then (if (Go.bits .or .i64 x7_2 (shl .i64 1 (ji38))) < ((rd_L1 x5_2 (ji42)).length : Int) then (if (rd (rd_L1 x5_2 (ji42)) (Go.bits .or .i64 x7_2 (shl .i64 1 (ji38)))) ≥ 0 then (if x8_3 < 0 then (if 0 ≤ x6_1 then (if x6_1 < (l0.length : Int) then (if 0 ≤ x9_3 then (if x9_3 < ((rd_L1 l0 x6_1).length : Int) then (hypercuberef9_ahead.l2 k3 l0 ((rd_L1 l0 0).length : Int) x5_2 x6_1 x7_2 (wrap64 ((rd (rd_L1 x5_2 (ji42)) (Go.bits .or .i64 x7_2 (shl .i64 1 (ji38)))) + (rd (rd_L1 l0 x6_1) x9_3))) (wrap64 (x9_3 + 1))) else (none)) else (none)) else (none)) else (none)) else (if 0 ≤ x6_1 then (if x6_1 < (l0.length : Int) then (if 0 ≤ x9_3 then (if x9_3 < ((rd_L1 l0 x6_1).length : Int) then (if (wrap64 ((rd (rd_L1 x5_2 (ji42)) (Go.bits .or .i64 x7_2 (shl .i64 1 (ji38)))) + (rd (rd_L1 l0 x6_1) x9_3))) < x8_3 then (hypercuberef9_ahead.l2 k3 l0 ((rd_L1 l0 0).length : Int) x5_2 x6_1 x7_2 (wrap64 ((rd (rd_L1 x5_2 (ji42)) (Go.bits .or .i64 x7_2 (shl .i64 1 (ji38)))) + (rd (rd_L1 l0 x6_1) x9_3))) (wrap64 (x9_3 + 1))) else (hypercuberef9_ahead.l2 k3 l0 ((rd_L1 l0 0).length : Int) x5_2 x6_1 x7_2 x8_3 (wrap64 (x9_3 + 1)))) else (none)) else (none)) else (none)) else (none))) else (hypercuberef9_ahead.l2 k3 l0 ((rd_L1 l0 0).length : Int) x5_2 x6_1 x7_2 x8_3 (wrap64 (x9_3 + 1)))) else (none)) else (none)) else (none)) else (none)) = some r := by first | (rw [hji42] at H; exact H) | (simp only [hji42] at H ⊢; exact H)
                                                    have hji42w : (IntKind.i64.wrap (x6_1 + 1)) = ji42 := (i64_w _).trans hji42
                                                    by_cases c43 : 0 ≤ (ji42)
                                                    · rw [if_pos c43] at H
                                                      have c43b0 : decide (0 ≤ (ji42)) = true := decide_eq_true c43
                                                      clear c43
                                                      by_cases c44 : (ji42) < (x5_2.length : Int)
                                                      · rw [if_pos c44] at H
                                                        have c44b0 : decide ((ji42) < (x5_2.length : Int)) = true := decide_eq_true c44
                                                        clear c44
                                                        have c45b0 := eq_true (of_decide_eq_true (by first | (with_reducible assumption) | assumption) : 0 ≤ (ji38))
                                                        obtain ⟨ji46, hji46⟩ : ∃ j_ : Int, (shl .i64 1 (ji38)) = j_ := ⟨_, rfl⟩
                                                        replace H : (if 0 ≤ (Go.bits .or .i64 x7_2 (ji46)) then (if (Go.bits .or .i64 x7_2 (ji46)) < ((rd_L1 x5_2 (ji42)).length : Int) then (if (rd (rd_L1 x5_2 (ji42)) (Go.bits .or .i64 x7_2 (ji46))) ≥ 0 then (if x8_3 < 0 then (if 0 ≤ x6_1 then (if x6_1 < (l0.length : Int) then (if 0 ≤ x9_3 then (if x9_3 < ((rd_L1 l0 x6_1).length : Int) then (hypercuberef9_ahead.l2 k3 l0 ((rd_L1 l0 0).length : Int) x5_2 x6_1 x7_2 (wrap64 ((rd (rd_L1 x5_2 (ji42)) (Go.bits .or .i64 x7_2 (ji46))) + (rd (rd_L1 l0 x6_1) x9_3))) (wrap64 (x9_3 + 1))) else (none)) else (none)) else (none)) else (none)) else (if 0 ≤ x6_1 then (if x6_1 < (l0.length : Int) then (if 0 ≤ x9_3 then (if x9_3 < ((rd_L1 l0 x6_1).length : Int) then (if (wrap64 ((rd (rd_L1 x5_2 (ji42)) (Go.bits .or .i64 x7_2 (ji46))) + (rd (rd_L1 l0 x6_1) x9_3))) < x8_3 then (hypercuberef9_ahead.l2 k3 l0 ((rd_L1 l0 0).length : Int) x5_2 x6_1 x7_2 (wrap64 ((rd (rd_L1 x5_2 (ji42)) (Go.bits .or .i64 x7_2 (ji46))) + (rd (rd_L1 l0 x6_1) x9_3))) (wrap64 (x9_3 + 1))) else (hypercuberef9_ahead.l2 k3 l0 ((rd_L1 l0 0).length : Int) x5_2 x6_1 x7_2 x8_3 (wrap64 (x9_3 + 1)))) else (none)) else (none)) else (none)) else (none))) else (hypercuberef9_ahead.l2 k3 l0 ((rd_L1 l0 0).length : Int) x5_2 x6_1 x7_2 x8_3 (wrap64 (x9_3 + 1)))) else (none)) else (none)) = some r := by first | (rw [hji46] at H; exact H) | (simp only [hji46] at H ⊢; exact H)
                                                        have hji46_ : (IntKind.i64.wrap (1 * 2 ^ min (ji38).toNat 64)) = ji46 := hji46
                                                        have hji46z : (ji38) ≤ 64 → (IntKind.i64.wrap (1 * 2 ^ (ji38).toNat)) = ji46 := shl_small hji46
                                                        have hji46u : (IntKind.i64.wrap (2 ^ min (ji38).toNat 64)) = ji46 := by have h_ := hji46_; rw [Int.one_mul] at h_; exact h_
                                                        have hji46v : (ji38) ≤ 64 → (IntKind.i64.wrap (2 ^ (ji38).toNat)) = ji46 := fun hle_ => by have h_ := hji46z hle_; rw [Int.one_mul] at h_; exact h_
                                                        have hji46y : (wrap64 (1 * 2 ^ min (ji38).toNat 64)) = ji46 := (i64_w _).symm.trans hji46_
                                                        have hji46x : (ji38) ≤ 64 → (wrap64 (1 * 2 ^ (ji38).toNat)) = ji46 := fun h_ => (i64_w _).symm.trans (hji46z h_)
                                                        by_cases c47 : 0 ≤ (Go.bits .or .i64 x7_2 (ji46))
                                                        · rw [if_pos c47] at H
                                                          have c47b0 : decide (0 ≤ (Go.bits .or .i64 x7_2 (ji46))) = true := decide_eq_true c47
                                                          clear c47
                                                          by_cases c48 : (Go.bits .or .i64 x7_2 (ji46)) < ((rd_L1 x5_2 (ji42)).length : Int)
                                                          · rw [if_pos c48] at H
                                                            have c48b0 : decide ((Go.bits .or .i64 x7_2 (ji46)) < ((rd_L1 x5_2 (ji42)).length : Int)) = true := decide_eq_true c48
                                                            clear c48
                                                            by_cases c49 : (rd (rd_L1 x5_2 (ji42)) (Go.bits .or .i64 x7_2 (ji46))) ≥ 0
                                                            · rw [if_pos c49] at H
                                                              have c49b0 : decide (0 ≤ (rd (rd_L1 x5_2 (ji42)) (Go.bits .or .i64 x7_2 (ji46)))) = true := decide_eq_true c49
                                                              clear c49
                                                              by_cases c50 : x8_3 < 0
                                                              · rw [if_pos c50] at H
                                                                have c50b0 : decide (x8_3 < 0) = true := decide_eq_true c50
                                                                clear c50
                                                                by_cases c51 : 0 ≤ x6_1
                                                                · rw [if_pos c51] at H
                                                                  have c51b0 : decide (0 ≤ x6_1) = true := decide_eq_true c51
                                                                  clear c51
                                                                  by_cases c52 : x6_1 < (l0.length : Int)
                                                                  · rw [if_pos c52] at H
                                                                    have c52b0 : decide (x6_1 < (l0.length : Int)) = true := decide_eq_true c52
                                                                    clear c52
                                                                    by_cases c53 : 0 ≤ x9_3
                                                                    · rw [if_pos c53] at H
                                                                      have c53b0 : decide (0 ≤ x9_3) = true := decide_eq_true c53
                                                                      clear c53
                                                                      by_cases c54 : x9_3 < ((rd_L1 l0 x6_1).length : Int)
                                                                      · rw [if_pos c54] at H
                                                                        have c54b0 : decide (x9_3 < ((rd_L1 l0 x6_1).length : Int)) = true := decide_eq_true c54
                                                                        clear c54
                                                                        have H' := Aside0.mk H
                                                                        clear H
                                                                        have p181 : 0 ≤ ((ji42) : Int) := of_decide_eq_true (by first | (with_reducible assumption) | assumption)
                                                                        have q181 : (ji42) < (x5_2.length : Int) := of_decide_eq_true (by first | (with_reducible assumption) | assumption)
                                                                        obtain ⟨ad181, A181_0, c181_0, e181, hx181_0, hl181_0, hi181_0⟩ := at_L1 (Kd.S_reads' HO_5.out).2.2 (ji42) p181 q181
                                                                        obtain rfl : (⟨go13, 0, none⟩ : Addr) = ad181 := (by injection e181)
                                                                        obtain ⟨ce181, hce181, hMe181, hcc181⟩ := Kd.S_get HO_5.out [] (ji42) p181 (by first | exact q181 | exact of_decide_eq_true (by first | (with_reducible assumption) | assumption) | (have e_ := (Kd.S_reads' HO_5.out).1; omega))
                                                                        obtain ⟨ve181_0, rfl, ge181_0⟩ := hMe181
                                                                        have hv181_0 := hcc181 0 _ rfl
                                                                        rw [Nat.add_zero, show ((Kd.slice 3 (Kd.int .i64))).sz = 1 from rfl, Nat.mul_one] at hv181_0
                                                                        replace hv181_0 := Option.some.inj (hv181_0.symm.trans hx181_0)
                                                                        rw [hv181_0] at ge181_0
                                                                        have HL181_0 := Aside0.mk (show Kd.R (Kd.int .i64) 3 _ _ _ _ (rd_L1 x5_2 (ji42)) from ge181_0)
                                                                        clear hv181_0 ge181_0
                                                                        have HX181_0 := Aside0.mk hx181_0
                                                                        clear hcc181 hce181
                                                                        (first | simp only [add_plain] at hx181_0 | simp only [add_at] at hx181_0 | simp only [Addr.add, Nat.zero_add] at hx181_0 | skip)
                                                                        have HR181_0 := Aside0.mk hi181_0
                                                                        have HC181_0 := Aside0.mk hl181_0
                                                                        clear hi181_0 hl181_0
                                                                        replace p181 := eq_true p181
                                                                        replace q181 := eq_true q181
                                                                        have p182 : 0 ≤ ((Go.bits .or .i64 x7_2 (ji46)) : Int) := of_decide_eq_true (by first | (with_reducible assumption) | assumption)
                                                                        have q182 : (Go.bits .or .i64 x7_2 (ji46)) < ((rd_L1 x5_2 (ji42)).length : Int) := of_decide_eq_true (by first | (with_reducible assumption) | assumption)
                                                                        obtain ⟨ad182, e182, hx182_0⟩ := Kd.at_int (by repeat (first | (with_reducible exact HR181_0.out) | (with_reducible refine Kd.C_alloc ?_ _) | (with_reducible refine Kd.C_drewN ?_ _) | (with_reducible refine Kd.C_drew ?_) | exact HR181_0.out)) (Go.bits .or .i64 x7_2 (ji46)) p182 q182
                                                                        cases e182
                                                                        replace p182 := eq_true p182
                                                                        replace q182 := eq_true q182
                                                                        have p183 : 0 ≤ (x6_1 : Int) := of_decide_eq_true (by first | (with_reducible assumption) | assumption)
                                                                        have q183 : x6_1 < (l0.length : Int) := of_decide_eq_true (by first | (with_reducible assumption) | assumption)
                                                                        obtain ⟨ad183, A183_0, c183_0, e183, hx183_0, hl183_0, hi183_0⟩ := at_L1 HR0.out x6_1 p183 q183
                                                                        obtain rfl : ad165 = ad183 := (by injection e183)
                                                                        replace hx183_0 := (HB.out.cell (World.block_lt_of_cell? w _ hx183_0)).trans hx183_0
                                                                        have HR183_0 := Aside0.mk hi183_0
                                                                        have HC183_0 := Aside0.mk hl183_0
                                                                        clear hi183_0 hl183_0
                                                                        replace p183 := eq_true p183
                                                                        replace q183 := eq_true q183
                                                                        have p184 : 0 ≤ (x9_3 : Int) := of_decide_eq_true (by first | (with_reducible assumption) | assumption)
                                                                        have q184 : x9_3 < ((rd_L1 l0 x6_1).length : Int) := of_decide_eq_true (by first | (with_reducible assumption) | assumption)
                                                                        obtain ⟨ad184, e184, hx184_0⟩ := Kd.at_int HR183_0.out x9_3 p184 q184
                                                                        cases e184
                                                                        replace hx184_0 := (HB.out.cell (World.block_lt_of_cell? w _ hx184_0)).trans hx184_0
                                                                        replace p184 := eq_true p184
                                                                        replace q184 := eq_true q184
                                                                        go_wp2
                                                                        go_roundg k3
                                                                        case measure => have := HK1.out; have := HK2.out; have := HK3.out; omega
                                                                        case rel => exact ⟨(wrap64 ((rd (rd_L1 x5_2 (ji42)) (Go.bits .or .i64 x7_2 (ji46))) + (rd (rd_L1 l0 x6_1) x9_3))), (wrap64 (x9_3 + 1)), (by first | rfl | (simp; done) | (simp only [← hji42, ← hji46] <;> (first | rfl | simp)) | (simp [*]; done)), (by first | rfl | (simp; done) | (simp [*]; done)), H', ⟨by have := HK1.out; have := HK2.out; have := HK3.out; omega⟩, ⟨by (try simp only [hl5_1]); (try simp only [hl5_2]); (with_reducible repeat (first | apply Kd.S_alloc | apply Kd.S_drewN | apply Kd.S_drew)); exact HO_5.out⟩, ⟨by repeat (first | (with_reducible first | exact HB.out | apply below_alloc | apply pw_below_drewN | apply below_drew1) | exact HB.out)⟩⟩
                                                                      · rw [if_neg c54] at H
                                                                        exact absurd H (by simp)
                                                                    · rw [if_neg c53] at H
                                                                      exact absurd H (by simp)
                                                                  · rw [if_neg c52] at H
                                                                    exact absurd H (by simp)
                                                                · rw [if_neg c51] at H
                                                                  exact absurd H (by simp)
                                                              · rw [if_neg c50] at H
                                                                have c50b0 : decide (x8_3 < 0) = false := decide_eq_false c50
                                                                clear c50
                                                                by_cases c55 : 0 ≤ x6_1
                                                                · rw [if_pos c55] at H
                                                                  have c55b0 : decide (0 ≤ x6_1) = true := decide_eq_true c55
                                                                  clear c55
                                                                  by_cases c56 : x6_1 < (l0.length : Int)
                                                                  · rw [if_pos c56] at H
                                                                    have c56b0 : decide (x6_1 < (l0.length : Int)) = true := decide_eq_true c56
                                                                    clear c56
                                                                    by_cases c57 : 0 ≤ x9_3
                                                                    · rw [if_pos c57] at H
                                                                      have c57b0 : decide (0 ≤ x9_3) = true := decide_eq_true c57
                                                                      clear c57
                                                                      by_cases c58 : x9_3 < ((rd_L1 l0 x6_1).length : Int)
                                                                      · rw [if_pos c58] at H
                                                                        have c58b0 : decide (x9_3 < ((rd_L1 l0 x6_1).length : Int)) = true := decide_eq_true c58
                                                                        clear c58
                                                                        by_cases c59 : (wrap64 ((rd (rd_L1 x5_2 (ji42)) (Go.bits .or .i64 x7_2 (ji46))) + (rd (rd_L1 l0 x6_1) x9_3))) < x8_3
                                                                        · rw [if_pos c59] at H
                                                                          have c59b0 : decide ((wrap64 ((rd (rd_L1 x5_2 (ji42)) (Go.bits .or .i64 x7_2 (ji46))) + (rd (rd_L1 l0 x6_1) x9_3))) < x8_3) = true := decide_eq_true c59
                                                                          clear c59
                                                                          have H' := Aside0.mk H
                                                                          clear H
                                                                          have p181 : 0 ≤ ((ji42) : Int) := of_decide_eq_true (by first | (with_reducible assumption) | assumption)
                                                                          have q181 : (ji42) < (x5_2.length : Int) := of_decide_eq_true (by first | (with_reducible assumption) | assumption)
                                                                          obtain ⟨ad181, A181_0, c181_0, e181, hx181_0, hl181_0, hi181_0⟩ := at_L1 (Kd.S_reads' HO_5.out).2.2 (ji42) p181 q181
                                                                          obtain rfl : (⟨go13, 0, none⟩ : Addr) = ad181 := (by injection e181)
                                                                          obtain ⟨ce181, hce181, hMe181, hcc181⟩ := Kd.S_get HO_5.out [] (ji42) p181 (by first | exact q181 | exact of_decide_eq_true (by first | (with_reducible assumption) | assumption) | (have e_ := (Kd.S_reads' HO_5.out).1; omega))
                                                                          obtain ⟨ve181_0, rfl, ge181_0⟩ := hMe181
                                                                          have hv181_0 := hcc181 0 _ rfl
                                                                          rw [Nat.add_zero, show ((Kd.slice 3 (Kd.int .i64))).sz = 1 from rfl, Nat.mul_one] at hv181_0
                                                                          replace hv181_0 := Option.some.inj (hv181_0.symm.trans hx181_0)
                                                                          rw [hv181_0] at ge181_0
                                                                          have HL181_0 := Aside0.mk (show Kd.R (Kd.int .i64) 3 _ _ _ _ (rd_L1 x5_2 (ji42)) from ge181_0)
                                                                          clear hv181_0 ge181_0
                                                                          have HX181_0 := Aside0.mk hx181_0
                                                                          clear hcc181 hce181
                                                                          (first | simp only [add_plain] at hx181_0 | simp only [add_at] at hx181_0 | simp only [Addr.add, Nat.zero_add] at hx181_0 | skip)
                                                                          have HR181_0 := Aside0.mk hi181_0
                                                                          have HC181_0 := Aside0.mk hl181_0
                                                                          clear hi181_0 hl181_0
                                                                          replace p181 := eq_true p181
                                                                          replace q181 := eq_true q181
                                                                          have p182 : 0 ≤ ((Go.bits .or .i64 x7_2 (ji46)) : Int) := of_decide_eq_true (by first | (with_reducible assumption) | assumption)
                                                                          have q182 : (Go.bits .or .i64 x7_2 (ji46)) < ((rd_L1 x5_2 (ji42)).length : Int) := of_decide_eq_true (by first | (with_reducible assumption) | assumption)
                                                                          obtain ⟨ad182, e182, hx182_0⟩ := Kd.at_int (by repeat (first | (with_reducible exact HR181_0.out) | (with_reducible refine Kd.C_alloc ?_ _) | (with_reducible refine Kd.C_drewN ?_ _) | (with_reducible refine Kd.C_drew ?_) | exact HR181_0.out)) (Go.bits .or .i64 x7_2 (ji46)) p182 q182
                                                                          cases e182
                                                                          replace p182 := eq_true p182
                                                                          replace q182 := eq_true q182
                                                                          have p185 : 0 ≤ (x6_1 : Int) := of_decide_eq_true (by first | (with_reducible assumption) | assumption)
                                                                          have q185 : x6_1 < (l0.length : Int) := of_decide_eq_true (by first | (with_reducible assumption) | assumption)
                                                                          obtain ⟨ad185, A185_0, c185_0, e185, hx185_0, hl185_0, hi185_0⟩ := at_L1 HR0.out x6_1 p185 q185
                                                                          obtain rfl : ad165 = ad185 := (by injection e185)
                                                                          replace hx185_0 := (HB.out.cell (World.block_lt_of_cell? w _ hx185_0)).trans hx185_0
                                                                          have HR185_0 := Aside0.mk hi185_0
                                                                          have HC185_0 := Aside0.mk hl185_0
                                                                          clear hi185_0 hl185_0
                                                                          replace p185 := eq_true p185
                                                                          replace q185 := eq_true q185
                                                                          have p186 : 0 ≤ (x9_3 : Int) := of_decide_eq_true (by first | (with_reducible assumption) | assumption)
                                                                          have q186 : x9_3 < ((rd_L1 l0 x6_1).length : Int) := of_decide_eq_true (by first | (with_reducible assumption) | assumption)
                                                                          obtain ⟨ad186, e186, hx186_0⟩ := Kd.at_int HR185_0.out x9_3 p186 q186
                                                                          cases e186
                                                                          replace hx186_0 := (HB.out.cell (World.block_lt_of_cell? w _ hx186_0)).trans hx186_0
                                                                          replace p186 := eq_true p186
                                                                          replace q186 := eq_true q186
                                                                          have p187 : 0 ≤ (x6_1 : Int) := of_decide_eq_true (by first | (with_reducible assumption) | assumption)
                                                                          have q187 : x6_1 < (l0.length : Int) := of_decide_eq_true (by first | (with_reducible assumption) | assumption)
                                                                          obtain ⟨ad187, A187_0, c187_0, e187, hx187_0, hl187_0, hi187_0⟩ := at_L1 HR0.out x6_1 p187 q187
                                                                          obtain rfl : ad165 = ad187 := (by injection e187)
                                                                          replace hx187_0 := (HB.out.cell (World.block_lt_of_cell? w _ hx187_0)).trans hx187_0
                                                                          have HR187_0 := Aside0.mk hi187_0
                                                                          have HC187_0 := Aside0.mk hl187_0
                                                                          clear hi187_0 hl187_0
                                                                          replace p187 := eq_true p187
                                                                          replace q187 := eq_true q187
                                                                          have ea_ := Option.some.inj (hx185_0.symm.trans hx187_0)
                                                                          injection ea_ with ea_ en_ ec_
                                                                          subst ea_
                                                                          subst ec_
                                                                          clear en_
                                                                          have p188 : 0 ≤ (x9_3 : Int) := of_decide_eq_true (by first | (with_reducible assumption) | assumption)
                                                                          have q188 : x9_3 < ((rd_L1 l0 x6_1).length : Int) := of_decide_eq_true (by first | (with_reducible assumption) | assumption)
                                                                          obtain ⟨ad188, e188, hx188_0⟩ := Kd.at_int HR187_0.out x9_3 p188 q188
                                                                          cases e188
                                                                          replace hx188_0 := (HB.out.cell (World.block_lt_of_cell? w _ hx188_0)).trans hx188_0
                                                                          replace p188 := eq_true p188
                                                                          replace q188 := eq_true q188
                                                                          go_wp2
                                                                          go_roundg k3
                                                                          case measure => have := HK1.out; have := HK2.out; have := HK3.out; omega
                                                                          case rel => exact ⟨(wrap64 ((rd (rd_L1 x5_2 (ji42)) (Go.bits .or .i64 x7_2 (ji46))) + (rd (rd_L1 l0 x6_1) x9_3))), (wrap64 (x9_3 + 1)), (by first | rfl | (simp; done) | (simp only [← hji42, ← hji46] <;> (first | rfl | simp)) | (simp [*]; done)), (by first | rfl | (simp; done) | (simp [*]; done)), H', ⟨by have := HK1.out; have := HK2.out; have := HK3.out; omega⟩, ⟨by (try simp only [hl5_1]); (try simp only [hl5_2]); (with_reducible repeat (first | apply Kd.S_alloc | apply Kd.S_drewN | apply Kd.S_drew)); exact HO_5.out⟩, ⟨by repeat (first | (with_reducible first | exact HB.out | apply below_alloc | apply pw_below_drewN | apply below_drew1) | exact HB.out)⟩⟩
                                                                        · rw [if_neg c59] at H
                                                                          have c59b0 : decide ((wrap64 ((rd (rd_L1 x5_2 (ji42)) (Go.bits .or .i64 x7_2 (ji46))) + (rd (rd_L1 l0 x6_1) x9_3))) < x8_3) = false := decide_eq_false c59
                                                                          clear c59
                                                                          have H' := Aside0.mk H
                                                                          clear H
                                                                          have p181 : 0 ≤ ((ji42) : Int) := of_decide_eq_true (by first | (with_reducible assumption) | assumption)
                                                                          have q181 : (ji42) < (x5_2.length : Int) := of_decide_eq_true (by first | (with_reducible assumption) | assumption)
                                                                          obtain ⟨ad181, A181_0, c181_0, e181, hx181_0, hl181_0, hi181_0⟩ := at_L1 (Kd.S_reads' HO_5.out).2.2 (ji42) p181 q181
                                                                          obtain rfl : (⟨go13, 0, none⟩ : Addr) = ad181 := (by injection e181)
                                                                          obtain ⟨ce181, hce181, hMe181, hcc181⟩ := Kd.S_get HO_5.out [] (ji42) p181 (by first | exact q181 | exact of_decide_eq_true (by first | (with_reducible assumption) | assumption) | (have e_ := (Kd.S_reads' HO_5.out).1; omega))
                                                                          obtain ⟨ve181_0, rfl, ge181_0⟩ := hMe181
                                                                          have hv181_0 := hcc181 0 _ rfl
                                                                          rw [Nat.add_zero, show ((Kd.slice 3 (Kd.int .i64))).sz = 1 from rfl, Nat.mul_one] at hv181_0
                                                                          replace hv181_0 := Option.some.inj (hv181_0.symm.trans hx181_0)
                                                                          rw [hv181_0] at ge181_0
                                                                          have HL181_0 := Aside0.mk (show Kd.R (Kd.int .i64) 3 _ _ _ _ (rd_L1 x5_2 (ji42)) from ge181_0)
                                                                          clear hv181_0 ge181_0
                                                                          have HX181_0 := Aside0.mk hx181_0
                                                                          clear hcc181 hce181
                                                                          (first | simp only [add_plain] at hx181_0 | simp only [add_at] at hx181_0 | simp only [Addr.add, Nat.zero_add] at hx181_0 | skip)
                                                                          have HR181_0 := Aside0.mk hi181_0
                                                                          have HC181_0 := Aside0.mk hl181_0
                                                                          clear hi181_0 hl181_0
                                                                          replace p181 := eq_true p181
                                                                          replace q181 := eq_true q181
                                                                          have p182 : 0 ≤ ((Go.bits .or .i64 x7_2 (ji46)) : Int) := of_decide_eq_true (by first | (with_reducible assumption) | assumption)
                                                                          have q182 : (Go.bits .or .i64 x7_2 (ji46)) < ((rd_L1 x5_2 (ji42)).length : Int) := of_decide_eq_true (by first | (with_reducible assumption) | assumption)
                                                                          obtain ⟨ad182, e182, hx182_0⟩ := Kd.at_int (by repeat (first | (with_reducible exact HR181_0.out) | (with_reducible refine Kd.C_alloc ?_ _) | (with_reducible refine Kd.C_drewN ?_ _) | (with_reducible refine Kd.C_drew ?_) | exact HR181_0.out)) (Go.bits .or .i64 x7_2 (ji46)) p182 q182
                                                                          cases e182
                                                                          replace p182 := eq_true p182
                                                                          replace q182 := eq_true q182
                                                                          have p185 : 0 ≤ (x6_1 : Int) := of_decide_eq_true (by first | (with_reducible assumption) | assumption)
                                                                          have q185 : x6_1 < (l0.length : Int) := of_decide_eq_true (by first | (with_reducible assumption) | assumption)
                                                                          obtain ⟨ad185, A185_0, c185_0, e185, hx185_0, hl185_0, hi185_0⟩ := at_L1 HR0.out x6_1 p185 q185
                                                                          obtain rfl : ad165 = ad185 := (by injection e185)
                                                                          replace hx185_0 := (HB.out.cell (World.block_lt_of_cell? w _ hx185_0)).trans hx185_0
                                                                          have HR185_0 := Aside0.mk hi185_0
                                                                          have HC185_0 := Aside0.mk hl185_0
                                                                          clear hi185_0 hl185_0
                                                                          replace p185 := eq_true p185
                                                                          replace q185 := eq_true q185
                                                                          have p186 : 0 ≤ (x9_3 : Int) := of_decide_eq_true (by first | (with_reducible assumption) | assumption)
                                                                          have q186 : x9_3 < ((rd_L1 l0 x6_1).length : Int) := of_decide_eq_true (by first | (with_reducible assumption) | assumption)
                                                                          obtain ⟨ad186, e186, hx186_0⟩ := Kd.at_int HR185_0.out x9_3 p186 q186
                                                                          cases e186
                                                                          replace hx186_0 := (HB.out.cell (World.block_lt_of_cell? w _ hx186_0)).trans hx186_0
                                                                          replace p186 := eq_true p186
                                                                          replace q186 := eq_true q186
                                                                          go_wp2
                                                                          go_roundg k3
                                                                          case measure => have := HK1.out; have := HK2.out; have := HK3.out; omega
                                                                          case rel => exact ⟨(x8_3), (wrap64 (x9_3 + 1)), (by first | rfl | (simp; done) | (simp [*]; done)), (by first | rfl | (simp; done) | (simp [*]; done)), H', ⟨by have := HK1.out; have := HK2.out; have := HK3.out; omega⟩, ⟨by (try simp only [hl5_1]); (try simp only [hl5_2]); (with_reducible repeat (first | apply Kd.S_alloc | apply Kd.S_drewN | apply Kd.S_drew)); exact HO_5.out⟩, ⟨by repeat (first | (with_reducible first | exact HB.out | apply below_alloc | apply pw_below_drewN | apply below_drew1) | exact HB.out)⟩⟩
                                                                      · rw [if_neg c58] at H
                                                                        exact absurd H (by simp)
                                                                    · rw [if_neg c57] at H
                                                                      exact absurd H (by simp)
                                                                  · rw [if_neg c56] at H
                                                                    exact absurd H (by simp)
                                                                · rw [if_neg c55] at H
                                                                  exact absurd H (by simp)
                                                            · rw [if_neg c49] at H
                                                              have c49b0 : decide (0 ≤ (rd (rd_L1 x5_2 (ji42)) (Go.bits .or .i64 x7_2 (ji46)))) = false := decide_eq_false c49
                                                              clear c49
                                                              have H' := Aside0.mk H
                                                              clear H
                                                              have p181 : 0 ≤ ((ji42) : Int) := of_decide_eq_true (by first | (with_reducible assumption) | assumption)
                                                              have q181 : (ji42) < (x5_2.length : Int) := of_decide_eq_true (by first | (with_reducible assumption) | assumption)
                                                              obtain ⟨ad181, A181_0, c181_0, e181, hx181_0, hl181_0, hi181_0⟩ := at_L1 (Kd.S_reads' HO_5.out).2.2 (ji42) p181 q181
                                                              obtain rfl : (⟨go13, 0, none⟩ : Addr) = ad181 := (by injection e181)
                                                              obtain ⟨ce181, hce181, hMe181, hcc181⟩ := Kd.S_get HO_5.out [] (ji42) p181 (by first | exact q181 | exact of_decide_eq_true (by first | (with_reducible assumption) | assumption) | (have e_ := (Kd.S_reads' HO_5.out).1; omega))
                                                              obtain ⟨ve181_0, rfl, ge181_0⟩ := hMe181
                                                              have hv181_0 := hcc181 0 _ rfl
                                                              rw [Nat.add_zero, show ((Kd.slice 3 (Kd.int .i64))).sz = 1 from rfl, Nat.mul_one] at hv181_0
                                                              replace hv181_0 := Option.some.inj (hv181_0.symm.trans hx181_0)
                                                              rw [hv181_0] at ge181_0
                                                              have HL181_0 := Aside0.mk (show Kd.R (Kd.int .i64) 3 _ _ _ _ (rd_L1 x5_2 (ji42)) from ge181_0)
                                                              clear hv181_0 ge181_0
                                                              have HX181_0 := Aside0.mk hx181_0
                                                              clear hcc181 hce181
                                                              (first | simp only [add_plain] at hx181_0 | simp only [add_at] at hx181_0 | simp only [Addr.add, Nat.zero_add] at hx181_0 | skip)
                                                              have HR181_0 := Aside0.mk hi181_0
                                                              have HC181_0 := Aside0.mk hl181_0
                                                              clear hi181_0 hl181_0
                                                              replace p181 := eq_true p181
                                                              replace q181 := eq_true q181
                                                              have p182 : 0 ≤ ((Go.bits .or .i64 x7_2 (ji46)) : Int) := of_decide_eq_true (by first | (with_reducible assumption) | assumption)
                                                              have q182 : (Go.bits .or .i64 x7_2 (ji46)) < ((rd_L1 x5_2 (ji42)).length : Int) := of_decide_eq_true (by first | (with_reducible assumption) | assumption)
                                                              obtain ⟨ad182, e182, hx182_0⟩ := Kd.at_int (by repeat (first | (with_reducible exact HR181_0.out) | (with_reducible refine Kd.C_alloc ?_ _) | (with_reducible refine Kd.C_drewN ?_ _) | (with_reducible refine Kd.C_drew ?_) | exact HR181_0.out)) (Go.bits .or .i64 x7_2 (ji46)) p182 q182
                                                              cases e182
                                                              replace p182 := eq_true p182
                                                              replace q182 := eq_true q182
                                                              go_wp2
                                                              go_roundg k3
                                                              case measure => have := HK1.out; have := HK2.out; have := HK3.out; omega
                                                              case rel => exact ⟨(x8_3), (wrap64 (x9_3 + 1)), (by first | rfl | (simp; done) | (simp [*]; done)), (by first | rfl | (simp; done) | (simp [*]; done)), H', ⟨by have := HK1.out; have := HK2.out; have := HK3.out; omega⟩, ⟨by (try simp only [hl5_1]); (try simp only [hl5_2]); (with_reducible repeat (first | apply Kd.S_alloc | apply Kd.S_drewN | apply Kd.S_drew)); exact HO_5.out⟩, ⟨by repeat (first | (with_reducible first | exact HB.out | apply below_alloc | apply pw_below_drewN | apply below_drew1) | exact HB.out)⟩⟩
                                                          · rw [if_neg c48] at H
                                                            exact absurd H (by simp)
                                                        · rw [if_neg c47] at H
                                                          exact absurd H (by simp)
                                                      · rw [if_neg c44] at H
                                                        exact absurd H (by simp)
                                                    · rw [if_neg c43] at H
                                                      exact absurd H (by simp)
                                                · rw [if_neg c39] at H
                                                  exact absurd H (by simp)
                                              · rw [if_neg c37] at H
                                                have c37b0 : decide (x9_3 < ((rd_L1 l0 0).length : Int)) = false := decide_eq_false c37
                                                clear c37
                                                by_cases c60 : 0 ≤ x6_1
                                                · rw [if_pos c60] at H
                                                  have c60b0 : decide (0 ≤ x6_1) = true := decide_eq_true c60
                                                  clear c60
                                                  by_cases c61 : x6_1 < (x5_2.length : Int)
                                                  · rw [if_pos c61] at H
                                                    have c61b0 : decide (x6_1 < (x5_2.length : Int)) = true := decide_eq_true c61
                                                    clear c61
                                                    by_cases c62 : 0 ≤ x7_2
                                                    · rw [if_pos c62] at H
                                                      have c62b0 : decide (0 ≤ x7_2) = true := decide_eq_true c62
                                                      clear c62
                                                      by_cases c63 : x7_2 < ((rd_L1 x5_2 x6_1).length : Int)
                                                      · rw [if_pos c63] at H
                                                        have c63b0 : decide (x7_2 < ((rd_L1 x5_2 x6_1).length : Int)) = true := decide_eq_true c63
                                                        clear c63
                                                        obtain ⟨y178, hy178⟩ : ∃ y_ : List Int, y_ = ((rd_L1 x5_2 x6_1).set (x7_2 : Int).toNat x8_3) := ⟨_, rfl⟩
                                                        replace H : (hypercuberef9_ahead.l1 k3 l0 ((rd_L1 l0 0).length : Int) (x5_2.set (x6_1 : Int).toNat y178) x6_1 (wrap64 (x7_2 + 1))) = some r := by first | (rw [hy178]; with_reducible exact H) | (have H2_ := (Option.bind_some _ _).symm.trans H; rw [hy178]; with_reducible exact H2_) | (have H2_ := (Option.bind_some _ _).symm.trans H; with_reducible exact H2_) | with_reducible exact H | (rw [hy178]; exact H) | exact H
                                                        have Ny178 := Aside0.mk hy178
                                                        clear hy178
                                                        obtain ⟨y180, hy180⟩ : ∃ y_ : List (List Int), y_ = (x5_2.set (x6_1 : Int).toNat y178) := ⟨_, rfl⟩
                                                        replace H : (hypercuberef9_ahead.l1 k3 l0 ((rd_L1 l0 0).length : Int) y180 x6_1 (wrap64 (x7_2 + 1))) = some r := by first | (rw [hy180]; with_reducible exact H) | (have H2_ := (Option.bind_some _ _).symm.trans H; rw [hy180]; with_reducible exact H2_) | (have H2_ := (Option.bind_some _ _).symm.trans H; with_reducible exact H2_) | with_reducible exact H | (rw [hy180]; exact H) | exact H
                                                        have Ny180 := Aside0.mk hy180
                                                        clear hy180
                                                        have H' := Aside0.mk H
                                                        clear H
                                                        have p177 : 0 ≤ (x6_1 : Int) := of_decide_eq_true (by first | (with_reducible assumption) | assumption)
                                                        have q177 : x6_1 < (x5_2.length : Int) := of_decide_eq_true (by first | (with_reducible assumption) | assumption)
                                                        obtain ⟨ad177, A177_0, c177_0, e177, hx177_0, hl177_0, hi177_0⟩ := at_L1 (Kd.S_reads' HO_5.out).2.2 x6_1 p177 q177
                                                        obtain rfl : (⟨go13, 0, none⟩ : Addr) = ad177 := (by injection e177)
                                                        obtain ⟨ce177, hce177, hMe177, hcc177⟩ := Kd.S_get HO_5.out [] x6_1 p177 (by first | exact q177 | exact of_decide_eq_true (by first | (with_reducible assumption) | assumption) | (have e_ := (Kd.S_reads' HO_5.out).1; omega))
                                                        obtain ⟨ve177_0, rfl, ge177_0⟩ := hMe177
                                                        have hv177_0 := hcc177 0 _ rfl
                                                        rw [Nat.add_zero, show ((Kd.slice 3 (Kd.int .i64))).sz = 1 from rfl, Nat.mul_one] at hv177_0
                                                        replace hv177_0 := Option.some.inj (hv177_0.symm.trans hx177_0)
                                                        rw [hv177_0] at ge177_0
                                                        have HL177_0 := Aside0.mk (show Kd.R (Kd.int .i64) 3 _ _ _ _ (rd_L1 x5_2 x6_1) from ge177_0)
                                                        clear hv177_0 ge177_0
                                                        have HX177_0 := Aside0.mk hx177_0
                                                        clear hcc177 hce177
                                                        (first | simp only [add_plain] at hx177_0 | simp only [add_at] at hx177_0 | simp only [Addr.add, Nat.zero_add] at hx177_0 | skip)
                                                        have HR177_0 := Aside0.mk hi177_0
                                                        have HC177_0 := Aside0.mk hl177_0
                                                        clear hi177_0 hl177_0
                                                        replace p177 := eq_true p177
                                                        replace q177 := eq_true q177
                                                        have p64 : 0 ≤ (x7_2 : Int) := of_decide_eq_true (by first | (with_reducible assumption) | assumption)
                                                        have q64 : (x7_2 : Int) < (((rd_L1 x5_2 x6_1).length : Int) : Int) := of_decide_eq_true (by first | (with_reducible assumption) | assumption)
                                                        obtain ⟨go64, co64, eo64, gb64, gl64, cl64, HG64⟩ := Kd.R_form HL177_0.out (by omega)
                                                        (first | cases eo64 | (injection eo64 with ea_ en_ ec_; (first | subst ea_ | (injection ea_ with ea_; subst ea_)); subst ec_; clear en_))
                                                        have GB64 := Aside0.mk gb64
                                                        have GG64 := Aside0.mk HG64
                                                        clear gb64 gl64 HG64
                                                        obtain ⟨hx64_0, hf64_0⟩ := Kd.R_celln 0 HL177_0.out (x7_2 : Int) p64 q64
                                                        replace p64 := eq_true p64
                                                        replace q64 := eq_true q64
                                                        have hq65 : (x6_1 : Int) < (x5_2.length : Int) := (by have h_ : (x6_1 : Int) < ((x5_2.length : Int) : Int) := of_decide_eq_true (by first | (with_reducible assumption) | assumption); first | exact h_ | (have e_ := (Kd.S_reads' HO_5.out).1; omega) | simpa only [List.length_set, List.length_set] using h_)
                                                        obtain ⟨oki65, ce65, hcl65, hM65, hcc65, hok65, hbk65⟩ := Kd.S_borrow HO_5.out [] (x6_1 : Int) (of_decide_eq_true (by first | (with_reducible assumption) | assumption)) hq65
                                                        obtain ⟨ve65_0, rfl, ge65_0⟩ := hM65
                                                        have hv65 := hcc65 0 _ rfl
                                                        rw [Nat.add_zero, show ((Kd.slice 3 (Kd.int .i64))).sz = 1 from rfl, Nat.mul_one] at hv65
                                                        replace hv65 := Option.some.inj (hv65.symm.trans HX177_0.out)
                                                        subst hv65
                                                        clear hcc65 hcl65
                                                        replace ge65_0 := (show Kd.R (Kd.int .i64) 3 _ _ _ _ (rd_L1 x5_2 x6_1) from ge65_0)
                                                        have HP65 := Kd.R_putg ge65_0 (x7_2 : Int) x8_3
                                                        go_wp2_with (first | ((with_reducible refine gate_store (t := 3) (p := 104) rfl ?_); refine store_event (t := 3) (p := 104) (v := ?vo_w66) (w1 := (wr.setCell ⟨go64, (x7_2 : Int).toNat, none⟩ (.int .i64 x8_3))) ?hg ?ho ?hn ?hr ?_; (case ho => rfl); (case hg => rfl); (case hn => rfl); (case hr => first | (go_simp; done) | (go_simp; rfl)); intro w66 hw; have hg : wr.grownBy w66 (some go64) := (by rw [hw]; exact HP65.2); have hz_ : Kd.R (Kd.int .i64) 3 w66 w.heap.size oki65 (.slice (some ⟨go64, 0, none⟩) (rd_L1 x5_2 x6_1).length c177_0) y178 := (by rw [hw, Ny178.out]; exact HP65.1); have hp_ : Kd.S (Kd.slice 3 (Kd.int .i64)) 22 w66 w.heap.size (fun _ => True) (.slice (some ⟨go13, 0, none⟩) x5_2.length co13) y180 := (by rw [Ny180.out]; exact hbk65 hg (fun k_ e_ => by injection e_ with e_; subst e_; exact ge65_0.1 _ rfl) (Kd.M_row hz_)); have hm_ := Kd.R_mono hz_ hok65; clear HP65 hbk65; have n0_ := Aside0.mk (hp_); have n1_ := Aside0.mk ((by rw [hw]; exact below_set (HB.out) GB64.out : Below w.heap.size w w66)); have n2_ := Aside0.mk (hm_); have n3_ := Aside0.mk ((Kd.R_reads' hm_).2.1); clear HO_5; clear HB; clear HL177_0; have HO_5 := n0_; have HB := n1_; have HL189 := n2_; have HC179 := n3_; clear n0_ n1_ n2_ n3_; clear hg hw hp_ hz_ hm_ hok65))
                                                        (try simp only [← hl5_2])
                                                        go_roundg k3
                                                        case measure => have := HK1.out; have := HK2.out; have := HK3.out; omega
                                                        case rel => exact ⟨(y180), (wrap64 (x7_2 + 1)), (by first | rfl | (simp; done) | (simp [*]; done)), H', ⟨by have := HK1.out; have := HK2.out; have := HK3.out; omega⟩, ⟨by (try simp only [hl5_1]); (try simp only [hl5_2]); (with_reducible repeat (first | apply Kd.S_alloc | apply Kd.S_drewN | apply Kd.S_drew)); exact HO_5.out⟩, ⟨by repeat (first | (with_reducible first | exact HB.out | apply below_alloc | apply pw_below_drewN | apply below_drew1) | exact HB.out)⟩⟩
                                                      · rw [if_neg c63] at H
                                                        exact absurd H (by simp)
                                                    · rw [if_neg c62] at H
                                                      exact absurd H (by simp)
                                                  · rw [if_neg c61] at H
                                                    exact absurd H (by simp)
                                                · rw [if_neg c60] at H
                                                  exact absurd H (by simp)
                                        · rw [if_neg c36] at H
                                          have c36b0 : decide (x7_2 < (ji35)) = false := decide_eq_false c36
                                          clear c36
                                          have H' := Aside0.mk H
                                          clear H
                                          go_wp2
                                          (try simp only [← hl5_1, ← hl5_2])
                                          go_roundg k2
                                          case measure => have := HK1.out; have := HK2.out; omega
                                          case rel => exact ⟨(x5_2), (wrap64 (x6_1 - 1)), (by first | rfl | (simp; done) | (simp [*]; done)), H', ⟨by have := HK1.out; have := HK2.out; omega⟩, ⟨by (try simp only [hl5_1]); (try simp only [hl5_2]); (with_reducible repeat (first | apply Kd.S_alloc | apply Kd.S_drewN | apply Kd.S_drew)); exact HO_5.out⟩, ⟨by repeat (first | (with_reducible first | exact HB.out | apply below_alloc | apply pw_below_drewN | apply below_drew1) | exact HB.out)⟩⟩
                                      · rw [if_neg c34] at H
                                        exact absurd H (by simp)
                                · rw [if_neg c27] at H
                                  exact absurd H (by simp)
                              · rw [if_neg c26] at H
                                exact absurd H (by simp)
                            · rw [if_neg c25] at H
                              exact absurd H (by simp)
                          · rw [if_neg c24] at H
                            exact absurd H (by simp)
                        · rw [if_neg c22] at H
                          exact absurd H (by simp)
                      · rw [if_neg c20] at H
                        have c20b0 : decide (0 ≤ x6_1) = false := decide_eq_false c20
                        clear c20
                        obtain rfl := Option.some.inj H
                        go_wp2
                        go_ret
                        exact ⟨_, by first | rfl | (simp [errW_none, errW_some] <;> rfl) | (simp only [← hji3, ← hji6, ← hji8]; first | rfl | (simp [errW_none, errW_some] <;> rfl)) | (simp [*, errW_none, errW_some] <;> rfl), by (with_reducible repeat (first | apply Kd.S_alloc | apply Kd.S_drewN | apply Kd.S_drew)); exact HO_5.out, by repeat (first | (with_reducible first | exact HB.out | apply below_alloc | apply pw_below_drewN | apply below_drew1) | exact HB.out)⟩
                · rw [if_neg c12] at H
                  exact absurd H (by simp)
              · rw [if_neg c11] at H
                exact absurd H (by simp)
            · rw [if_neg c10] at H
              exact absurd H (by simp)
          · rw [if_neg c9] at H
            exact absurd H (by simp)
        · rw [if_neg c7] at H
          exact absurd H (by simp)
      · rw [if_neg c5] at H
        exact absurd H (by simp)
    · rw [if_neg c4] at H
      exact absurd H (by simp)
  · rw [if_neg c2] at H
    exact absurd H (by simp)

end Go.Proofs.Ytgnkpahnhhmceaa.Core
