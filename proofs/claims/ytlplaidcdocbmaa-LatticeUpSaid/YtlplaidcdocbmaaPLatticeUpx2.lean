-- Laid by dprint.py, a program of this session, with the kit's print.py over a doctored print; not trusted: Lean checks it.
import Derived.Test.YtlplaidcdocbmaaPLatticeUpx0
import Derived.Test.YtlplaidcdocbmaaPLatticeUpx1
namespace Go.Proofs.Ytlplaidcdocbmaa.PLatticeUp
open Go.RowKit Go.Proofs.YtlplaidcdocbmaaW.PrintWords Go.Proofs.YtlplaidcdocbmaaW.PrintLast Go.Proofs.YtlplaidcdocbmaaW.PrintMore
attribute [local go_sem] max2_int min2_int max_two min_two max_three min_three max_four min_four   -- for this text's walks alone
set_option linter.unusedVariables false
set_option linter.unusedSimpArgs false

/-! ### hypercubelaw8_LatticeUp: function 5 -/
mutual
def hypercubelaw8_LatticeUp.l0 : Nat → Int → List Int → Int → Option (Bool)
  | 0, _, _, _ => none
  | k + 1, x3, x4, x5 => if 0 ≤ (IntKind.u64.wrap (x3)) then (if x5 < (shl .i64 1 (IntKind.u64.wrap (x3))) then ((lattice_Parents.f x5 x3).bind fun t130 => (hypercubelaw8_LatticeUp.l1 k x3 x4 x5 t130 0)) else (hypercubelaw8_LatticeUp.l2 k x3 x4 0)) else (none)
def hypercubelaw8_LatticeUp.l1 : Nat → Int → List Int → Int → List Int → Int → Option (Bool)
  | 0, _, _, _, _, _ => none
  | k + 1, x3, x4, x5, x6, x7 => if x7 < (x6.length : Int) then (if 0 ≤ x7 then (if (rd x6 x7) < 0 then (some false) else (if (rd x6 x7) ≥ (x4.length : Int) then (some false) else ((lattice_Level.f (rd x6 x7)).bind fun t136 => ((lattice_Level.f x5).bind fun t137 => (if t136 = (wrap64 (t137 + 1)) then (if 0 ≤ (rd x6 x7) then (if (rd x6 x7) < (x4.length : Int) then (hypercubelaw8_LatticeUp.l1 k x3 (x4.set ((rd x6 x7) : Int).toNat (wrap64 ((rd x4 (rd x6 x7)) + 1))) x5 x6 (wrap64 (x7 + 1))) else (none)) else (none)) else (some false)))))) else (none)) else (hypercubelaw8_LatticeUp.l0 k x3 x4 (wrap64 (x5 + 1)))
def hypercubelaw8_LatticeUp.l2 : Nat → Int → List Int → Int → Option (Bool)
  | 0, _, _, _ => none
  | k + 1, x3, x4, x8 => if 0 ≤ (IntKind.u64.wrap (x3)) then (if x8 < (shl .i64 1 (IntKind.u64.wrap (x3))) then (if 0 ≤ x8 then (if x8 < (x4.length : Int) then ((lattice_Level.f x8).bind fun t142 => (if (rd x4 x8) = t142 then (hypercubelaw8_LatticeUp.l2 k x3 x4 (wrap64 (x8 + 1))) else (some false))) else (none)) else (none)) else (some true)) else (none)
end
def hypercubelaw8_LatticeUp.f (k : Nat) (a0 : Int) : Option (Bool) := (hypercubelaw8_known.f).bind fun t125 => (if t125 = true then ((hypercubelaw8_within.f a0 4).bind fun t126 => (if 0 ≤ (IntKind.u64.wrap (wrap64 (1 + t126))) then (if 0 ≤ (shl .i64 1 (IntKind.u64.wrap (wrap64 (1 + t126)))) then (if (shl .i64 1 (IntKind.u64.wrap (wrap64 (1 + t126))) : Int).toNat ≤ 35184372088832 then (hypercubelaw8_LatticeUp.l0 k (wrap64 (1 + t126)) (List.replicate (shl .i64 1 (IntKind.u64.wrap (wrap64 (1 + t126))) : Int).toNat 0) 0) else (none)) else (none)) else (none))) else (some false))
theorem hypercubelaw8_LatticeUp.mono_l : ∀ k, (∀ y0 y1 y2, LeO (hypercubelaw8_LatticeUp.l0 k y0 y1 y2) (hypercubelaw8_LatticeUp.l0 (k + 1) y0 y1 y2)) ∧ (∀ y0 y1 y2 y3 y4, LeO (hypercubelaw8_LatticeUp.l1 k y0 y1 y2 y3 y4) (hypercubelaw8_LatticeUp.l1 (k + 1) y0 y1 y2 y3 y4)) ∧ (∀ y0 y1 y2, LeO (hypercubelaw8_LatticeUp.l2 k y0 y1 y2) (hypercubelaw8_LatticeUp.l2 (k + 1) y0 y1 y2))
  | 0 => ⟨fun _ _ _ r h => by simp [hypercubelaw8_LatticeUp.l0] at h, fun _ _ _ _ _ r h => by simp [hypercubelaw8_LatticeUp.l1] at h, fun _ _ _ r h => by simp [hypercubelaw8_LatticeUp.l2] at h⟩
  | k + 1 => by
    obtain ⟨ih0, ih1, ih2⟩ := hypercubelaw8_LatticeUp.mono_l k
    refine ⟨?_, ?_, ?_⟩
    · intro y0 y1 y2
      unfold hypercubelaw8_LatticeUp.l0
      repeat' first
      | (with_reducible exact ih0 _ _ _)
      | (with_reducible exact ih1 _ _ _ _ _)
      | (with_reducible exact ih2 _ _ _)
      | (with_reducible exact LeO.refl _)
      | (with_reducible exact LeO.none _)
      | (with_reducible refine LeO.ite ?_ ?_)
      | (with_reducible refine LeO.bind ?_ (fun _ => ?_))
      | exact ih0 _ _ _
      | exact ih1 _ _ _ _ _
      | exact ih2 _ _ _
      | exact LeO.none _
      | refine LeO.ite ?_ ?_
      | refine LeO.bind ?_ (fun _ => ?_)
    · intro y0 y1 y2 y3 y4
      unfold hypercubelaw8_LatticeUp.l1
      repeat' first
      | (with_reducible exact ih0 _ _ _)
      | (with_reducible exact ih1 _ _ _ _ _)
      | (with_reducible exact ih2 _ _ _)
      | (with_reducible exact LeO.refl _)
      | (with_reducible exact LeO.none _)
      | (with_reducible refine LeO.ite ?_ ?_)
      | (with_reducible refine LeO.bind ?_ (fun _ => ?_))
      | exact ih0 _ _ _
      | exact ih1 _ _ _ _ _
      | exact ih2 _ _ _
      | exact LeO.none _
      | refine LeO.ite ?_ ?_
      | refine LeO.bind ?_ (fun _ => ?_)
    · intro y0 y1 y2
      unfold hypercubelaw8_LatticeUp.l2
      repeat' first
      | (with_reducible exact ih0 _ _ _)
      | (with_reducible exact ih1 _ _ _ _ _)
      | (with_reducible exact ih2 _ _ _)
      | (with_reducible exact LeO.refl _)
      | (with_reducible exact LeO.none _)
      | (with_reducible refine LeO.ite ?_ ?_)
      | (with_reducible refine LeO.bind ?_ (fun _ => ?_))
      | exact ih0 _ _ _
      | exact ih1 _ _ _ _ _
      | exact ih2 _ _ _
      | exact LeO.none _
      | refine LeO.ite ?_ ?_
      | refine LeO.bind ?_ (fun _ => ?_)
theorem hypercubelaw8_LatticeUp.mono : ∀ a0 k, LeO (hypercubelaw8_LatticeUp.f k a0) (hypercubelaw8_LatticeUp.f (k + 1) a0) := by
  intro a0 k
  obtain ⟨ih0, ih1, ih2⟩ := hypercubelaw8_LatticeUp.mono_l k
  unfold hypercubelaw8_LatticeUp.f
  repeat' first
      | (with_reducible exact ih0 _ _ _)
      | (with_reducible exact ih1 _ _ _ _ _)
      | (with_reducible exact ih2 _ _ _)
      | (with_reducible exact LeO.refl _)
      | (with_reducible exact LeO.none _)
      | (with_reducible refine LeO.ite ?_ ?_)
      | (with_reducible refine LeO.bind ?_ (fun _ => ?_))
      | exact ih0 _ _ _
      | exact ih1 _ _ _ _ _
      | exact ih2 _ _ _
      | exact LeO.none _
      | refine LeO.ite ?_ ?_
      | refine LeO.bind ?_ (fun _ => ?_)
set_option maxHeartbeats 8000000 in
set_option maxRecDepth 100000 in
theorem hypercubelaw8_LatticeUp.calls (k : Nat) (a0 : Int) (r : Bool) (w : World) (h : hypercubelaw8_LatticeUp.f k a0 = some r) :
    Calls Try.prog 5 #[.int .i64 a0] w fun e w' => e = .returned (.bool r) ∧ Below w.heap.size w w' := by
  have HB := Aside0.mk (Below.refl w.heap.size w)
  have H : ((hypercubelaw8_known.f).bind fun t125 => (if t125 = true then ((hypercubelaw8_within.f a0 4).bind fun t126 => (if 0 ≤ (IntKind.u64.wrap (wrap64 (1 + t126))) then (if 0 ≤ (shl .i64 1 (IntKind.u64.wrap (wrap64 (1 + t126)))) then (if (shl .i64 1 (IntKind.u64.wrap (wrap64 (1 + t126))) : Int).toNat ≤ 35184372088832 then (hypercubelaw8_LatticeUp.l0 k (wrap64 (1 + t126)) (List.replicate (shl .i64 1 (IntKind.u64.wrap (wrap64 (1 + t126))) : Int).toNat 0) 0) else (none)) else (none)) else (none))) else (some false))) = some r := h
  clear h
  replace H := Option.bind_eq_some_iff.mp H
  obtain ⟨t125, A20, H⟩ := H
  replace H : (if t125 = true then ((hypercubelaw8_within.f a0 4).bind fun t126 => (if 0 ≤ (IntKind.u64.wrap (wrap64 (1 + t126))) then (if 0 ≤ (shl .i64 1 (IntKind.u64.wrap (wrap64 (1 + t126)))) then (if (shl .i64 1 (IntKind.u64.wrap (wrap64 (1 + t126))) : Int).toNat ≤ 35184372088832 then (hypercubelaw8_LatticeUp.l0 k (wrap64 (1 + t126)) (List.replicate (shl .i64 1 (IntKind.u64.wrap (wrap64 (1 + t126))) : Int).toNat 0) 0) else (none)) else (none)) else (none))) else (some false)) = some r := H
  have A2 := Aside0.mk A20
  clear A20
  by_cases c3 : t125 = true
  · subst c3
    have H1 : ((hypercubelaw8_within.f a0 4).bind fun t126 => (if 0 ≤ (IntKind.u64.wrap (wrap64 (1 + t126))) then (if 0 ≤ (shl .i64 1 (IntKind.u64.wrap (wrap64 (1 + t126)))) then (if (shl .i64 1 (IntKind.u64.wrap (wrap64 (1 + t126))) : Int).toNat ≤ 35184372088832 then (hypercubelaw8_LatticeUp.l0 k (wrap64 (1 + t126)) (List.replicate (shl .i64 1 (IntKind.u64.wrap (wrap64 (1 + t126))) : Int).toNat 0) 0) else (none)) else (none)) else (none))) = some r := by rw [if_pos rfl] at H; exact H
    clear H
    have H := H1
    clear H1
    replace H := Option.bind_eq_some_iff.mp H
    obtain ⟨t126, A40, H⟩ := H
    replace H : (if 0 ≤ (IntKind.u64.wrap (wrap64 (1 + t126))) then (if 0 ≤ (shl .i64 1 (IntKind.u64.wrap (wrap64 (1 + t126)))) then (if (shl .i64 1 (IntKind.u64.wrap (wrap64 (1 + t126))) : Int).toNat ≤ 35184372088832 then (hypercubelaw8_LatticeUp.l0 k (wrap64 (1 + t126)) (List.replicate (shl .i64 1 (IntKind.u64.wrap (wrap64 (1 + t126))) : Int).toNat 0) 0) else (none)) else (none)) else (none)) = some r := H
    have A4 := Aside0.mk A40
    clear A40
    obtain ⟨ji5, hji5⟩ : ∃ j_ : Int, (IntKind.u64.wrap (wrap64 (1 + t126))) = j_ := ⟨_, rfl⟩
    replace H : (if 0 ≤ (ji5) then (if 0 ≤ (shl .i64 1 (ji5)) then (if (shl .i64 1 (ji5) : Int).toNat ≤ 35184372088832 then (hypercubelaw8_LatticeUp.l0 k (wrap64 (1 + t126)) (List.replicate (shl .i64 1 (ji5) : Int).toNat 0) 0) else (none)) else (none)) else (none)) = some r := by first | (rw [hji5] at H; exact H) | (simp only [hji5] at H ⊢; exact H)
    (try rw [hji5] at A2)
    (try rw [hji5] at A4)
    by_cases c6 : 0 ≤ (ji5)
    · rw [if_pos c6] at H
      have c6b0 := eq_true c6
      have c6b1 : decide (0 ≤ (ji5)) = true := decide_eq_true c6
      clear c6
      obtain ⟨ji7, hji7⟩ : ∃ j_ : Int, (shl .i64 1 (ji5)) = j_ := ⟨_, rfl⟩
      replace H : (if 0 ≤ (ji7) then (if (ji7 : Int).toNat ≤ 35184372088832 then (hypercubelaw8_LatticeUp.l0 k (wrap64 (1 + t126)) (List.replicate (ji7 : Int).toNat 0) 0) else (none)) else (none)) = some r := by first | (rw [hji7] at H; exact H) | (simp only [hji7] at H ⊢; exact H)
      (try rw [hji7] at A2)
      (try rw [hji7] at A4)
      have hji7_ : (IntKind.i64.wrap (1 * 2 ^ min (ji5).toNat 64)) = ji7 := hji7
      have hji7z : (ji5) ≤ 64 → (IntKind.i64.wrap (1 * 2 ^ (ji5).toNat)) = ji7 := shl_small hji7
      have hji7u : (IntKind.i64.wrap (2 ^ min (ji5).toNat 64)) = ji7 := by have h_ := hji7_; rw [Int.one_mul] at h_; exact h_
      have hji7v : (ji5) ≤ 64 → (IntKind.i64.wrap (2 ^ (ji5).toNat)) = ji7 := fun hle_ => by have h_ := hji7z hle_; rw [Int.one_mul] at h_; exact h_
      have hji7y : (wrap64 (1 * 2 ^ min (ji5).toNat 64)) = ji7 := (i64_w _).symm.trans hji7_
      have hji7x : (ji5) ≤ 64 → (wrap64 (1 * 2 ^ (ji5).toNat)) = ji7 := fun h_ => (i64_w _).symm.trans (hji7z h_)
      by_cases c8 : 0 ≤ (ji7)
      · rw [if_pos c8] at H
        have c8b0 := eq_true c8
        have c8b1 : decide (0 ≤ (ji7)) = true := decide_eq_true c8
        clear c8
        by_cases c9 : (ji7 : Int).toNat ≤ 35184372088832
        · rw [if_pos c9] at H
          have c9b0 := eq_true c9
          have c9b1 : decide ((ji7 : Int).toNat ≤ 35184372088832) = true := decide_eq_true c9
          clear c9
          obtain ⟨y127, hy127⟩ : ∃ y_ : List Int, y_ = (List.replicate (ji7 : Int).toNat 0) := ⟨_, rfl⟩
          replace H : (hypercubelaw8_LatticeUp.l0 k (wrap64 (1 + t126)) y127 0) = some r := by first | (rw [hy127]; with_reducible exact H) | (have H2_ := (Option.bind_some _ _).symm.trans H; rw [hy127]; with_reducible exact H2_) | (have H2_ := (Option.bind_some _ _).symm.trans H; with_reducible exact H2_) | with_reducible exact H | (rw [hy127]; exact H) | exact H
          have Ny127 := Aside0.mk hy127
          clear hy127
          have H' := Aside0.mk H
          clear H
          go_enter Try.func5, Try.ntmps5
          go_wp2_with (first | (go_at_call 27; (with_reducible refine (hypercubelaw8_known.calls  true _ A2.out).mono ?_); rintro e w10 ⟨rfl, hb⟩; have n0_ := Aside0.mk (below_step (by repeat (first | (with_reducible first | exact HB.out | apply below_alloc | apply pw_below_drewN | apply below_drew1) | exact HB.out)) hb); clear HB; have HB := n0_; clear n0_; (try clear hb); (try clear hb2); (try clear hk); (try clear hi)) | (go_at_call 28; (with_reducible refine (hypercubelaw8_within.calls a0 4 t126 _ A4.out).mono ?_); rintro e w' ⟨rfl, ⟨nd, rfl⟩⟩; (try first | exact ⟨rfl, _, World.drewN_drewN _ _ _⟩ | exact ⟨rfl, _, Eq.trans (World.drewN_drewN _ _ _) (congrArg (World.drewN _) (Nat.add_assoc _ _ _))⟩)) | ((with_reducible refine gate_dst (N := 17) rfl ?_); (try (refine gate_guard (by rfl) ?_; dsimp only)); refine Kd.R_make (Kd.int .i64) _ 3 rfl (N := 17) rfl 24 _ _ rfl ji7 rfl rfl Try.underlying24 (.int .i64 0) 8 info3 rfl (by decide) (by omega) 0 (ok := fun _ => True) (okp := fun _ => True) rfl (fun _ hk => hk) trivial (of_decide_eq_true (by first | (with_reducible assumption) | assumption)) (Nat.le_trans (Nat.mul_le_mul_right _ (of_decide_eq_true (by first | (with_reducible assumption) | assumption) : ji7.toNat ≤ 35184372088832)) (by omega)) (Below.refl _ _) (Nat.le_refl _) ?_; intro v128 w11 ho12 hb hg_ hnew_; clear hg_ hnew_; (first | rw [← Ny127.out] at ho12 | (simp only [Int.reduceToNat] at ho12; rw [← Ny127.out] at ho12)); have n0_ := Aside0.mk (Kd.R_lower ho12 (below_size (by repeat (first | (with_reducible first | exact HB.out | apply below_alloc | apply pw_below_drewN | apply below_drew1) | exact HB.out)))); have n1_ := Aside0.mk (below_step (by repeat (first | (with_reducible first | exact HB.out | apply below_alloc | apply pw_below_drewN | apply below_drew1) | exact HB.out)) hb); clear HB; have HO129 := n0_; have HB := n1_; clear n0_ n1_; clear hb ho12))
          repeat (go_quiet (first | (go_at_call 27; (with_reducible refine (hypercubelaw8_known.calls  true _ A2.out).mono ?_); rintro e w10 ⟨rfl, hb⟩; have n0_ := Aside0.mk (below_step (by repeat (first | (with_reducible first | exact HB.out | apply below_alloc | apply pw_below_drewN | apply below_drew1) | exact HB.out)) hb); clear HB; have HB := n0_; clear n0_; (try clear hb); (try clear hb2); (try clear hk); (try clear hi)) | (go_at_call 28; (with_reducible refine (hypercubelaw8_within.calls a0 4 t126 _ A4.out).mono ?_); rintro e w' ⟨rfl, ⟨nd, rfl⟩⟩; (try first | exact ⟨rfl, _, World.drewN_drewN _ _ _⟩ | exact ⟨rfl, _, Eq.trans (World.drewN_drewN _ _ _) (congrArg (World.drewN _) (Nat.add_assoc _ _ _))⟩)) | ((with_reducible refine gate_dst (N := 17) rfl ?_); (try (refine gate_guard (by rfl) ?_; dsimp only)); refine Kd.R_make (Kd.int .i64) _ 3 rfl (N := 17) rfl 24 _ _ rfl ji7 rfl rfl Try.underlying24 (.int .i64 0) 8 info3 rfl (by decide) (by omega) 0 (ok := fun _ => True) (okp := fun _ => True) rfl (fun _ hk => hk) trivial (of_decide_eq_true (by first | (with_reducible assumption) | assumption)) (Nat.le_trans (Nat.mul_le_mul_right _ (of_decide_eq_true (by first | (with_reducible assumption) | assumption) : ji7.toNat ≤ 35184372088832)) (by omega)) (Below.refl _ _) (Nat.le_refl _) ?_; intro v128 w11 ho12 hb hg_ hnew_; clear hg_ hnew_; (first | rw [← Ny127.out] at ho12 | (simp only [Int.reduceToNat] at ho12; rw [← Ny127.out] at ho12)); have n0_ := Aside0.mk (Kd.R_lower ho12 (below_size (by repeat (first | (with_reducible first | exact HB.out | apply below_alloc | apply pw_below_drewN | apply below_drew1) | exact HB.out)))); have n1_ := Aside0.mk (below_step (by repeat (first | (with_reducible first | exact HB.out | apply below_alloc | apply pw_below_drewN | apply below_drew1) | exact HB.out)) hb); clear HB; have HO129 := n0_; have HB := n1_; clear n0_ n1_; clear hb ho12)); try go_wp2_with (first | (go_at_call 27; (with_reducible refine (hypercubelaw8_known.calls  true _ A2.out).mono ?_); rintro e w10 ⟨rfl, hb⟩; have n0_ := Aside0.mk (below_step (by repeat (first | (with_reducible first | exact HB.out | apply below_alloc | apply pw_below_drewN | apply below_drew1) | exact HB.out)) hb); clear HB; have HB := n0_; clear n0_; (try clear hb); (try clear hb2); (try clear hk); (try clear hi)) | (go_at_call 28; (with_reducible refine (hypercubelaw8_within.calls a0 4 t126 _ A4.out).mono ?_); rintro e w' ⟨rfl, ⟨nd, rfl⟩⟩; (try first | exact ⟨rfl, _, World.drewN_drewN _ _ _⟩ | exact ⟨rfl, _, Eq.trans (World.drewN_drewN _ _ _) (congrArg (World.drewN _) (Nat.add_assoc _ _ _))⟩)) | ((with_reducible refine gate_dst (N := 17) rfl ?_); (try (refine gate_guard (by rfl) ?_; dsimp only)); refine Kd.R_make (Kd.int .i64) _ 3 rfl (N := 17) rfl 24 _ _ rfl ji7 rfl rfl Try.underlying24 (.int .i64 0) 8 info3 rfl (by decide) (by omega) 0 (ok := fun _ => True) (okp := fun _ => True) rfl (fun _ hk => hk) trivial (of_decide_eq_true (by first | (with_reducible assumption) | assumption)) (Nat.le_trans (Nat.mul_le_mul_right _ (of_decide_eq_true (by first | (with_reducible assumption) | assumption) : ji7.toNat ≤ 35184372088832)) (by omega)) (Below.refl _ _) (Nat.le_refl _) ?_; intro v128 w11 ho12 hb hg_ hnew_; clear hg_ hnew_; (first | rw [← Ny127.out] at ho12 | (simp only [Int.reduceToNat] at ho12; rw [← Ny127.out] at ho12)); have n0_ := Aside0.mk (Kd.R_lower ho12 (below_size (by repeat (first | (with_reducible first | exact HB.out | apply below_alloc | apply pw_below_drewN | apply below_drew1) | exact HB.out)))); have n1_ := Aside0.mk (below_step (by repeat (first | (with_reducible first | exact HB.out | apply below_alloc | apply pw_below_drewN | apply below_drew1) | exact HB.out)) hb); clear HB; have HO129 := n0_; have HB := n1_; clear n0_ n1_; clear hb ho12)))
          go_loopg [5] k (fun kq v5 w' => ∃ (x4_1 : List Int) (x5_1 : Int), v5 = .int .i64 x5_1 ∧ Aside0 (hypercubelaw8_LatticeUp.l0 kq (wrap64 (1 + t126)) x4_1 x5_1 = some r) ∧ Aside0 (kq ≤ k) ∧ Aside0 (Kd.R (Kd.int .i64) 3 w' w.heap.size (fun _ => True) v128 x4_1) ∧ Aside0 (Below w.heap.size w w'))
          case atStart => exact ⟨(y127), (0), (by first | rfl | (simp; done) | (simp [*]; done)), H', ⟨Nat.le_refl _⟩, ⟨by (with_reducible repeat (first | apply Kd.R_alloc | apply Kd.R_drewN | apply Kd.R_drew)); exact HO129.out⟩, ⟨by repeat (first | (with_reducible first | exact HB.out | apply below_alloc | apply pw_below_drewN | apply below_drew1) | exact HB.out)⟩⟩
          case round =>
            clear H'
            try clear p2
            try clear c3
            try clear c5
            try clear c6
            try clear c6b0
            try clear c6b1
            try clear p6
            try clear c8
            try clear c8b0
            try clear c8b1
            try clear c9
            try clear c9b0
            try clear c9b1
            obtain ⟨x4_1, x5_1, rfl, HA, HK1, HO_4, HB⟩ := hrel
            cases gk with
            | zero => exact absurd HA.out (by simp [hypercubelaw8_LatticeUp.l0])
            | succ k1 =>
              have H := HA.out
              clear HA
              simp only [hypercubelaw8_LatticeUp.l0] at H
              obtain ⟨ji13, hji13⟩ : ∃ j_ : Int, (IntKind.u64.wrap ((wrap64 (1 + t126)))) = j_ := ⟨_, rfl⟩
              replace H : (if 0 ≤ (ji13) then (if x5_1 < (shl .i64 1 (ji13)) then ((lattice_Parents.f x5_1 (wrap64 (1 + t126))).bind fun t130 => (hypercubelaw8_LatticeUp.l1 k1 (wrap64 (1 + t126)) x4_1 x5_1 t130 0)) else (hypercubelaw8_LatticeUp.l2 k1 (wrap64 (1 + t126)) x4_1 0)) else (none)) = some r := by first | (rw [hji13] at H; exact H) | (simp only [hji13] at H ⊢; exact H)
              obtain rfl : ji13 = ji5 := hji13.symm.trans hji5
              by_cases c14 : 0 ≤ (ji13)
              · rw [if_pos c14] at H
                have c14b0 := eq_true c14
                have c14b1 : decide (0 ≤ (ji13)) = true := decide_eq_true c14
                clear c14
                obtain ⟨ji15, hji15⟩ : ∃ j_ : Int, (shl .i64 1 (ji13)) = j_ := ⟨_, rfl⟩
                replace H : (if x5_1 < (ji15) then ((lattice_Parents.f x5_1 (wrap64 (1 + t126))).bind fun t130 => (hypercubelaw8_LatticeUp.l1 k1 (wrap64 (1 + t126)) x4_1 x5_1 t130 0)) else (hypercubelaw8_LatticeUp.l2 k1 (wrap64 (1 + t126)) x4_1 0)) = some r := by first | (rw [hji15] at H; exact H) | (simp only [hji15] at H ⊢; exact H)
                obtain rfl : ji15 = ji7 := hji15.symm.trans hji7
                have hji15_ : (IntKind.i64.wrap (1 * 2 ^ min (ji13).toNat 64)) = ji15 := hji15
                have hji15z : (ji13) ≤ 64 → (IntKind.i64.wrap (1 * 2 ^ (ji13).toNat)) = ji15 := shl_small hji15
                have hji15u : (IntKind.i64.wrap (2 ^ min (ji13).toNat 64)) = ji15 := by have h_ := hji15_; rw [Int.one_mul] at h_; exact h_
                have hji15v : (ji13) ≤ 64 → (IntKind.i64.wrap (2 ^ (ji13).toNat)) = ji15 := fun hle_ => by have h_ := hji15z hle_; rw [Int.one_mul] at h_; exact h_
                have hji15y : (wrap64 (1 * 2 ^ min (ji13).toNat 64)) = ji15 := (i64_w _).symm.trans hji15_
                have hji15x : (ji13) ≤ 64 → (wrap64 (1 * 2 ^ (ji13).toNat)) = ji15 := fun h_ => (i64_w _).symm.trans (hji15z h_)
                by_cases c16 : x5_1 < (ji15)
                · rw [if_pos c16] at H
                  have c16b0 : decide (x5_1 < (ji15)) = true := decide_eq_true c16
                  clear c16
                  replace H := Option.bind_eq_some_iff.mp H
                  obtain ⟨t130, A170, H⟩ := H
                  replace H : (hypercubelaw8_LatticeUp.l1 k1 (wrap64 (1 + t126)) x4_1 x5_1 t130 0) = some r := H
                  have A17 := Aside0.mk A170
                  clear A170
                  have H' := Aside0.mk H
                  clear H
                  go_wp2_with (first | (go_at_call 30; (with_reducible refine (lattice_Parents.calls x5_1 (wrap64 (1 + t126)) t130 _ A17.out).mono ?_); rintro e w18 ⟨v131, rfl, ho0, hb⟩; have n0_ := Aside0.mk (Kd.R_elder' (by (with_reducible repeat (first | apply Kd.R_alloc | apply Kd.R_drewN | apply Kd.R_drew)); exact HO_4.out) (Kd.R_base ho0) hb); have n1_ := Aside0.mk (Kd.R_lower (Kd.R_new' ho0 (Kd.R_lt (by (with_reducible repeat (first | apply Kd.R_alloc | apply Kd.R_drewN | apply Kd.R_drew)); exact HO_4.out))) (below_size (by repeat (first | (with_reducible first | exact HB.out | apply below_alloc | apply pw_below_drewN | apply below_drew1) | exact HB.out)))); have n2_ := Aside0.mk (below_step (by repeat (first | (with_reducible first | exact HB.out | apply below_alloc | apply pw_below_drewN | apply below_drew1) | exact HB.out)) hb); clear HO_4; clear HB; have HO_4 := n0_; have HO132 := n1_; have HB := n2_; clear n0_ n1_ n2_; (try clear hb); (try clear hb2); (try clear hk); (try clear hi); (try clear ho0)))
                  repeat (go_quiet (first | (go_at_call 30; (with_reducible refine (lattice_Parents.calls x5_1 (wrap64 (1 + t126)) t130 _ A17.out).mono ?_); rintro e w18 ⟨v131, rfl, ho0, hb⟩; have n0_ := Aside0.mk (Kd.R_elder' (by (with_reducible repeat (first | apply Kd.R_alloc | apply Kd.R_drewN | apply Kd.R_drew)); exact HO_4.out) (Kd.R_base ho0) hb); have n1_ := Aside0.mk (Kd.R_lower (Kd.R_new' ho0 (Kd.R_lt (by (with_reducible repeat (first | apply Kd.R_alloc | apply Kd.R_drewN | apply Kd.R_drew)); exact HO_4.out))) (below_size (by repeat (first | (with_reducible first | exact HB.out | apply below_alloc | apply pw_below_drewN | apply below_drew1) | exact HB.out)))); have n2_ := Aside0.mk (below_step (by repeat (first | (with_reducible first | exact HB.out | apply below_alloc | apply pw_below_drewN | apply below_drew1) | exact HB.out)) hb); clear HO_4; clear HB; have HO_4 := n0_; have HO132 := n1_; have HB := n2_; clear n0_ n1_ n2_; (try clear hb); (try clear hb2); (try clear hk); (try clear hi); (try clear ho0))); try go_wp2_with (first | (go_at_call 30; (with_reducible refine (lattice_Parents.calls x5_1 (wrap64 (1 + t126)) t130 _ A17.out).mono ?_); rintro e w18 ⟨v131, rfl, ho0, hb⟩; have n0_ := Aside0.mk (Kd.R_elder' (by (with_reducible repeat (first | apply Kd.R_alloc | apply Kd.R_drewN | apply Kd.R_drew)); exact HO_4.out) (Kd.R_base ho0) hb); have n1_ := Aside0.mk (Kd.R_lower (Kd.R_new' ho0 (Kd.R_lt (by (with_reducible repeat (first | apply Kd.R_alloc | apply Kd.R_drewN | apply Kd.R_drew)); exact HO_4.out))) (below_size (by repeat (first | (with_reducible first | exact HB.out | apply below_alloc | apply pw_below_drewN | apply below_drew1) | exact HB.out)))); have n2_ := Aside0.mk (below_step (by repeat (first | (with_reducible first | exact HB.out | apply below_alloc | apply pw_below_drewN | apply below_drew1) | exact HB.out)) hb); clear HO_4; clear HB; have HO_4 := n0_; have HO132 := n1_; have HB := n2_; clear n0_ n1_ n2_; (try clear hb); (try clear hb2); (try clear hk); (try clear hi); (try clear ho0))))
                  go_loopg [7] k1 (fun kq v7 w' => ∃ (x4_2 : List Int) (x7_2 : Int), v7 = .int .i64 x7_2 ∧ Aside0 (hypercubelaw8_LatticeUp.l1 kq (wrap64 (1 + t126)) x4_2 x5_1 t130 x7_2 = some r) ∧ Aside0 (kq ≤ k1) ∧ Aside0 (Kd.R (Kd.int .i64) 3 w' w.heap.size (fun k_ => some k_ ≠ (v131 : Value).ownBlock) v128 x4_2) ∧ Aside0 (Kd.R (Kd.int .i64) 3 w' w.heap.size (fun k_ => some k_ ≠ (v128 : Value).ownBlock) v131 t130) ∧ Aside0 (Below w.heap.size w w'))
                  case atStart => exact ⟨(x4_1), (0), (by first | rfl | (simp; done) | (simp [*]; done)), H', ⟨Nat.le_refl _⟩, ⟨by (with_reducible repeat (first | apply Kd.R_alloc | apply Kd.R_drewN | apply Kd.R_drew)); exact Kd.R_mono HO_4.out (fun _ hk => hk.2)⟩, ⟨by (with_reducible repeat (first | apply Kd.R_alloc | apply Kd.R_drewN | apply Kd.R_drew)); exact Kd.R_mono HO132.out (fun _ hk => hk.2)⟩, ⟨by repeat (first | (with_reducible first | exact HB.out | apply below_alloc | apply pw_below_drewN | apply below_drew1) | exact HB.out)⟩⟩
                  case round =>
                    clear H'
                    try clear c1
                    try clear p2
                    try clear c3
                    try clear c5
                    try clear c6
                    try clear c6b0
                    try clear c6b1
                    try clear p6
                    try clear c8
                    try clear c8b0
                    try clear c8b1
                    try clear c9
                    try clear c9b0
                    try clear c9b1
                    try clear c14
                    try clear c14b0
                    try clear c14b1
                    try clear c16
                    try clear c16b0
                    try clear p2
                    try clear p6
                    obtain ⟨x4_2, x7_2, rfl, HA, HK2, HO_4, HO_6, HB⟩ := hrel
                    cases gk with
                    | zero => exact absurd HA.out (by simp [hypercubelaw8_LatticeUp.l1])
                    | succ k2 =>
                      have H := HA.out
                      clear HA
                      simp only [hypercubelaw8_LatticeUp.l1] at H
                      by_cases c19 : x7_2 < (t130.length : Int)
                      · rw [if_pos c19] at H
                        have c19b0 : decide (x7_2 < (t130.length : Int)) = true := decide_eq_true c19
                        clear c19
                        by_cases c20 : 0 ≤ x7_2
                        · rw [if_pos c20] at H
                          have c20b0 : decide (0 ≤ x7_2) = true := decide_eq_true c20
                          clear c20
                          by_cases c21 : (rd t130 x7_2) < 0
                          · rw [if_pos c21] at H
                            have c21b0 : decide ((rd t130 x7_2) < 0) = true := decide_eq_true c21
                            clear c21
                            obtain rfl := Option.some.inj H
                            obtain ⟨Ao22, co22, eo22⟩ := Kd.R_slice HO_6.out
                            subst eo22
                            have p133 : 0 ≤ (x7_2 : Int) := of_decide_eq_true (by first | (with_reducible assumption) | assumption)
                            have q133 : x7_2 < (t130.length : Int) := of_decide_eq_true (by first | (with_reducible assumption) | assumption)
                            obtain ⟨ad133, e133, hx133_0⟩ := Kd.at_int (Kd.R_reads' HO_6.out).2.2 x7_2 p133 q133
                            cases e133
                            replace p133 := eq_true p133
                            replace q133 := eq_true q133
                            go_wp2
                            repeat (go_quiet (fail); try go_wp2)
                            go_ret
                            exact ⟨by first | rfl | (simp [errW_none, errW_some] <;> rfl) | (simp only [← hji5, ← hji7, ← hji13, ← hji15]; first | rfl | (simp [errW_none, errW_some] <;> rfl)) | (simp [*, errW_none, errW_some] <;> rfl), by repeat (first | (with_reducible first | exact HB.out | apply below_alloc | apply pw_below_drewN | apply below_drew1) | exact HB.out)⟩
                          · rw [if_neg c21] at H
                            have c21b0 : decide ((rd t130 x7_2) < 0) = false := decide_eq_false c21
                            clear c21
                            by_cases c23 : (rd t130 x7_2) ≥ (x4_2.length : Int)
                            · rw [if_pos c23] at H
                              have c23b0 : decide ((x4_2.length : Int) ≤ (rd t130 x7_2)) = true := decide_eq_true c23
                              clear c23
                              obtain rfl := Option.some.inj H
                              obtain ⟨Ao24, co24, eo24⟩ := Kd.R_slice HO_6.out
                              subst eo24
                              have p133 : 0 ≤ (x7_2 : Int) := of_decide_eq_true (by first | (with_reducible assumption) | assumption)
                              have q133 : x7_2 < (t130.length : Int) := of_decide_eq_true (by first | (with_reducible assumption) | assumption)
                              obtain ⟨ad133, e133, hx133_0⟩ := Kd.at_int (Kd.R_reads' HO_6.out).2.2 x7_2 p133 q133
                              cases e133
                              replace p133 := eq_true p133
                              replace q133 := eq_true q133
                              have p134 : 0 ≤ (x7_2 : Int) := of_decide_eq_true (by first | (with_reducible assumption) | assumption)
                              have q134 : x7_2 < (t130.length : Int) := of_decide_eq_true (by first | (with_reducible assumption) | assumption)
                              obtain ⟨ad134, e134, hx134_0⟩ := Kd.at_int (Kd.R_reads' HO_6.out).2.2 x7_2 p134 q134
                              obtain rfl : ad133 = ad134 := (by injection e134)
                              replace p134 := eq_true p134
                              replace q134 := eq_true q134
                              obtain ⟨Ao25, co25, eo25⟩ := Kd.R_slice HO_4.out
                              subst eo25
                              go_wp2
                              repeat (go_quiet (fail); try go_wp2)
                              go_ret
                              exact ⟨by first | rfl | (simp [errW_none, errW_some] <;> rfl) | (simp only [← hji5, ← hji7, ← hji13, ← hji15]; first | rfl | (simp [errW_none, errW_some] <;> rfl)) | (simp [*, errW_none, errW_some] <;> rfl), by repeat (first | (with_reducible first | exact HB.out | apply below_alloc | apply pw_below_drewN | apply below_drew1) | exact HB.out)⟩
                            · rw [if_neg c23] at H
                              have c23b0 : decide ((x4_2.length : Int) ≤ (rd t130 x7_2)) = false := decide_eq_false c23
                              clear c23
                              replace H := Option.bind_eq_some_iff.mp H
                              obtain ⟨t136, A260, H⟩ := H
                              replace H : ((lattice_Level.f x5_1).bind fun t137 => (if t136 = (wrap64 (t137 + 1)) then (if 0 ≤ (rd t130 x7_2) then (if (rd t130 x7_2) < (x4_2.length : Int) then (hypercubelaw8_LatticeUp.l1 k2 (wrap64 (1 + t126)) (x4_2.set ((rd t130 x7_2) : Int).toNat (wrap64 ((rd x4_2 (rd t130 x7_2)) + 1))) x5_1 t130 (wrap64 (x7_2 + 1))) else (none)) else (none)) else (some false))) = some r := H
                              have A26 := Aside0.mk A260
                              clear A260
                              replace H := Option.bind_eq_some_iff.mp H
                              obtain ⟨t137, A270, H⟩ := H
                              replace H : (if t136 = (wrap64 (t137 + 1)) then (if 0 ≤ (rd t130 x7_2) then (if (rd t130 x7_2) < (x4_2.length : Int) then (hypercubelaw8_LatticeUp.l1 k2 (wrap64 (1 + t126)) (x4_2.set ((rd t130 x7_2) : Int).toNat (wrap64 ((rd x4_2 (rd t130 x7_2)) + 1))) x5_1 t130 (wrap64 (x7_2 + 1))) else (none)) else (none)) else (some false)) = some r := H
                              have A27 := Aside0.mk A270
                              clear A270
                              by_cases c28 : t136 = (wrap64 (t137 + 1))
                              · rw [if_pos c28] at H
                                have c28b0 : (t136 == (wrap64 (t137 + 1))) = true := beq_iff_eq.mpr c28
                                have c28b1 : (t136 != (wrap64 (t137 + 1))) = false := bne_eq_false_iff_eq.mpr c28
                                clear c28
                                by_cases c29 : 0 ≤ (rd t130 x7_2)
                                · rw [if_pos c29] at H
                                  have c29b0 : decide (0 ≤ (rd t130 x7_2)) = true := decide_eq_true c29
                                  clear c29
                                  by_cases c30 : (rd t130 x7_2) < (x4_2.length : Int)
                                  · rw [if_pos c30] at H
                                    have c30b0 : decide ((rd t130 x7_2) < (x4_2.length : Int)) = true := decide_eq_true c30
                                    clear c30
                                    obtain ⟨y140, hy140⟩ : ∃ y_ : List Int, y_ = (x4_2.set ((rd t130 x7_2) : Int).toNat (wrap64 ((rd x4_2 (rd t130 x7_2)) + 1))) := ⟨_, rfl⟩
                                    replace H : (hypercubelaw8_LatticeUp.l1 k2 (wrap64 (1 + t126)) y140 x5_1 t130 (wrap64 (x7_2 + 1))) = some r := by first | (rw [hy140]; with_reducible exact H) | (have H2_ := (Option.bind_some _ _).symm.trans H; rw [hy140]; with_reducible exact H2_) | (have H2_ := (Option.bind_some _ _).symm.trans H; with_reducible exact H2_) | with_reducible exact H | (rw [hy140]; exact H) | exact H
                                    have Ny140 := Aside0.mk hy140
                                    clear hy140
                                    have H' := Aside0.mk H
                                    clear H
                                    obtain ⟨Ao32, co32, eo32⟩ := Kd.R_slice HO_6.out
                                    subst eo32
                                    have p133 : 0 ≤ (x7_2 : Int) := of_decide_eq_true (by first | (with_reducible assumption) | assumption)
                                    have q133 : x7_2 < (t130.length : Int) := of_decide_eq_true (by first | (with_reducible assumption) | assumption)
                                    obtain ⟨ad133, e133, hx133_0⟩ := Kd.at_int (Kd.R_reads' HO_6.out).2.2 x7_2 p133 q133
                                    cases e133
                                    replace p133 := eq_true p133
                                    replace q133 := eq_true q133
                                    have p134 : 0 ≤ (x7_2 : Int) := of_decide_eq_true (by first | (with_reducible assumption) | assumption)
                                    have q134 : x7_2 < (t130.length : Int) := of_decide_eq_true (by first | (with_reducible assumption) | assumption)
                                    obtain ⟨ad134, e134, hx134_0⟩ := Kd.at_int (Kd.R_reads' HO_6.out).2.2 x7_2 p134 q134
                                    obtain rfl : ad133 = ad134 := (by injection e134)
                                    replace p134 := eq_true p134
                                    replace q134 := eq_true q134
                                    obtain ⟨Ao33, co33, eo33⟩ := Kd.R_slice HO_4.out
                                    subst eo33
                                    have p135 : 0 ≤ (x7_2 : Int) := of_decide_eq_true (by first | (with_reducible assumption) | assumption)
                                    have q135 : x7_2 < (t130.length : Int) := of_decide_eq_true (by first | (with_reducible assumption) | assumption)
                                    obtain ⟨ad135, e135, hx135_0⟩ := Kd.at_int (Kd.R_reads' HO_6.out).2.2 x7_2 p135 q135
                                    obtain rfl : ad133 = ad135 := (by injection e135)
                                    replace p135 := eq_true p135
                                    replace q135 := eq_true q135
                                    go_wp2_with (first | (go_at_call 31; (with_reducible refine (lattice_Level.calls (rd t130 x7_2) t136 _ A26.out).mono ?_); rintro e w' ⟨rfl, ⟨nd, rfl⟩⟩; (try first | exact ⟨rfl, _, World.drewN_drewN _ _ _⟩ | exact ⟨rfl, _, Eq.trans (World.drewN_drewN _ _ _) (congrArg (World.drewN _) (Nat.add_assoc _ _ _))⟩)) | (go_at_call 31; (with_reducible refine (lattice_Level.calls x5_1 t137 _ A27.out).mono ?_); rintro e w' ⟨rfl, ⟨nd, rfl⟩⟩; (try first | exact ⟨rfl, _, World.drewN_drewN _ _ _⟩ | exact ⟨rfl, _, Eq.trans (World.drewN_drewN _ _ _) (congrArg (World.drewN _) (Nat.add_assoc _ _ _))⟩); have p138 : 0 ≤ (x7_2 : Int) := of_decide_eq_true (by first | (with_reducible assumption) | assumption); have q138 : x7_2 < (t130.length : Int) := of_decide_eq_true (by first | (with_reducible assumption) | assumption); obtain ⟨ad138, e138, hx138_0⟩ := Kd.at_int (Kd.R_reads' HO_6.out).2.2 x7_2 p138 q138; obtain rfl : ad133 = ad138 := (by injection e138); replace p138 := eq_true p138; replace q138 := eq_true q138; have p139 : 0 ≤ ((rd t130 x7_2) : Int) := of_decide_eq_true (by first | (with_reducible assumption) | assumption); have q139 : (rd t130 x7_2) < (x4_2.length : Int) := of_decide_eq_true (by first | (with_reducible assumption) | assumption); obtain ⟨ad139, e139, hx139_0⟩ := Kd.at_int (Kd.R_reads' HO_4.out).2.2 (rd t130 x7_2) p139 q139; cases e139; replace p139 := eq_true p139; replace q139 := eq_true q139; have p31 : 0 ≤ ((rd t130 x7_2) : Int) := of_decide_eq_true (by first | (with_reducible assumption) | assumption); have q31 : ((rd t130 x7_2) : Int) < ((x4_2.length : Int) : Int) := of_decide_eq_true (by first | (with_reducible assumption) | assumption); obtain ⟨go31, co31, eo31, gb31, gl31, cl31, HG31⟩ := Kd.R_form HO_4.out (by omega); (first | cases eo31 | (injection eo31 with ea_ en_ ec_; (first | subst ea_ | (injection ea_ with ea_; subst ea_)); subst ec_; clear en_)); have GB31 := Aside0.mk gb31; have GG31 := Aside0.mk HG31; clear gb31 gl31 HG31; (first | simp only [add_plain] at hx139_0 | skip); obtain ⟨hx31_0, hf31_0⟩ := Kd.R_celln 0 HO_4.out ((rd t130 x7_2) : Int) p31 q31; replace p31 := eq_true p31; replace q31 := eq_true q31; obtain ⟨hy34_, hz34_⟩ := Kd.R_celln 0 HO_4.out ((rd t130 x7_2) : Int) (of_decide_eq_true (by first | (with_reducible assumption) | assumption)) (of_decide_eq_true (by first | (with_reducible assumption) | assumption)); have HP34 := Kd.R_putg HO_4.out ((rd t130 x7_2) : Int) (wrap64 ((rd x4_2 (rd t130 x7_2)) + 1))) | ((with_reducible refine gate_store (t := 3) (p := 67) rfl ?_); (try (rw [drewN_self wr]; generalize hq_ : World.drewN wr _ = wr; have n0_ := Aside0.mk (Kd.R_at hq_ HO_4.out); have n1_ := Aside0.mk (Kd.R_at hq_ HO_6.out); have n2_ := Aside0.mk (below_at hq_ HB.out); clear hq_ HO_4 HO_6 HB; have HO_4 := n0_; have HO_6 := n1_; have HB := n2_; clear n0_ n1_ n2_; (try (obtain ⟨hy34_, hz34_⟩ := Kd.R_celln 0 HO_4.out ((rd t130 x7_2) : Int) (of_decide_eq_true (by first | (with_reducible assumption) | assumption)) (of_decide_eq_true (by first | (with_reducible assumption) | assumption)))); (try (have HP34 := Kd.R_putg HO_4.out ((rd t130 x7_2) : Int) (wrap64 ((rd x4_2 (rd t130 x7_2)) + 1)))))); refine store_event (t := 3) (p := 67) (v := ?vo_w35) (w1 := (wr.setCell ⟨go31, ((rd t130 x7_2) : Int).toNat, none⟩ (.int .i64 (wrap64 ((rd x4_2 (rd t130 x7_2)) + 1))))) ?hg ?ho ?hn ?hr ?_; (case ho => rfl); (case hg => rfl); (case hn => rfl); (case hr => first | (go_simp; done) | (go_simp; rfl)); intro w35 hw; have hg : wr.grownBy w35 (some go31) := (by rw [hw]; exact HP34.2); have hp_ : Kd.R (Kd.int .i64) 3 w35 w.heap.size (fun k_ => some k_ ≠ (.slice (some ad133) t130.length co32 : Value).ownBlock) (.slice (some ⟨go31, 0, none⟩) x4_2.length co33) y140 := (by rw [hw, Ny140.out]; exact HP34.1); clear HP34; have n0_ := Aside0.mk (hp_); have n1_ := Aside0.mk (Kd.R_after (v := (.slice (some ⟨go31, 0, none⟩) x4_2.length co33)) (v1 := (.slice (some ⟨go31, 0, none⟩) x4_2.length co33)) (ok := (fun _ => True)) (by (with_reducible repeat (first | apply Kd.R_alloc | apply Kd.R_drewN | apply Kd.R_drew)); exact Kd.R_mono HO_6.out (fun _ hk => ⟨trivial, hk⟩)) hg (.inl rfl)); have n2_ := Aside0.mk ((by rw [hw]; exact below_set (HB.out) GB31.out : Below w.heap.size w w35)); clear HO_4; clear HO_6; clear HB; have HO_4 := n0_; have HO_6 := n1_; have HB := n2_; clear n0_ n1_ n2_; clear hg hw hp_))
                                    repeat (go_quiet (first | (go_at_call 31; (with_reducible refine (lattice_Level.calls (rd t130 x7_2) t136 _ A26.out).mono ?_); rintro e w' ⟨rfl, ⟨nd, rfl⟩⟩; (try first | exact ⟨rfl, _, World.drewN_drewN _ _ _⟩ | exact ⟨rfl, _, Eq.trans (World.drewN_drewN _ _ _) (congrArg (World.drewN _) (Nat.add_assoc _ _ _))⟩)) | (go_at_call 31; (with_reducible refine (lattice_Level.calls x5_1 t137 _ A27.out).mono ?_); rintro e w' ⟨rfl, ⟨nd, rfl⟩⟩; (try first | exact ⟨rfl, _, World.drewN_drewN _ _ _⟩ | exact ⟨rfl, _, Eq.trans (World.drewN_drewN _ _ _) (congrArg (World.drewN _) (Nat.add_assoc _ _ _))⟩); have p138 : 0 ≤ (x7_2 : Int) := of_decide_eq_true (by first | (with_reducible assumption) | assumption); have q138 : x7_2 < (t130.length : Int) := of_decide_eq_true (by first | (with_reducible assumption) | assumption); obtain ⟨ad138, e138, hx138_0⟩ := Kd.at_int (Kd.R_reads' HO_6.out).2.2 x7_2 p138 q138; obtain rfl : ad133 = ad138 := (by injection e138); replace p138 := eq_true p138; replace q138 := eq_true q138; have p139 : 0 ≤ ((rd t130 x7_2) : Int) := of_decide_eq_true (by first | (with_reducible assumption) | assumption); have q139 : (rd t130 x7_2) < (x4_2.length : Int) := of_decide_eq_true (by first | (with_reducible assumption) | assumption); obtain ⟨ad139, e139, hx139_0⟩ := Kd.at_int (Kd.R_reads' HO_4.out).2.2 (rd t130 x7_2) p139 q139; cases e139; replace p139 := eq_true p139; replace q139 := eq_true q139; have p31 : 0 ≤ ((rd t130 x7_2) : Int) := of_decide_eq_true (by first | (with_reducible assumption) | assumption); have q31 : ((rd t130 x7_2) : Int) < ((x4_2.length : Int) : Int) := of_decide_eq_true (by first | (with_reducible assumption) | assumption); obtain ⟨go31, co31, eo31, gb31, gl31, cl31, HG31⟩ := Kd.R_form HO_4.out (by omega); (first | cases eo31 | (injection eo31 with ea_ en_ ec_; (first | subst ea_ | (injection ea_ with ea_; subst ea_)); subst ec_; clear en_)); have GB31 := Aside0.mk gb31; have GG31 := Aside0.mk HG31; clear gb31 gl31 HG31; (first | simp only [add_plain] at hx139_0 | skip); obtain ⟨hx31_0, hf31_0⟩ := Kd.R_celln 0 HO_4.out ((rd t130 x7_2) : Int) p31 q31; replace p31 := eq_true p31; replace q31 := eq_true q31; obtain ⟨hy34_, hz34_⟩ := Kd.R_celln 0 HO_4.out ((rd t130 x7_2) : Int) (of_decide_eq_true (by first | (with_reducible assumption) | assumption)) (of_decide_eq_true (by first | (with_reducible assumption) | assumption)); have HP34 := Kd.R_putg HO_4.out ((rd t130 x7_2) : Int) (wrap64 ((rd x4_2 (rd t130 x7_2)) + 1))) | ((with_reducible refine gate_store (t := 3) (p := 67) rfl ?_); (try (rw [drewN_self wr]; generalize hq_ : World.drewN wr _ = wr; have n0_ := Aside0.mk (Kd.R_at hq_ HO_4.out); have n1_ := Aside0.mk (Kd.R_at hq_ HO_6.out); have n2_ := Aside0.mk (below_at hq_ HB.out); clear hq_ HO_4 HO_6 HB; have HO_4 := n0_; have HO_6 := n1_; have HB := n2_; clear n0_ n1_ n2_; (try (obtain ⟨hy34_, hz34_⟩ := Kd.R_celln 0 HO_4.out ((rd t130 x7_2) : Int) (of_decide_eq_true (by first | (with_reducible assumption) | assumption)) (of_decide_eq_true (by first | (with_reducible assumption) | assumption)))); (try (have HP34 := Kd.R_putg HO_4.out ((rd t130 x7_2) : Int) (wrap64 ((rd x4_2 (rd t130 x7_2)) + 1)))))); refine store_event (t := 3) (p := 67) (v := ?vo_w35) (w1 := (wr.setCell ⟨go31, ((rd t130 x7_2) : Int).toNat, none⟩ (.int .i64 (wrap64 ((rd x4_2 (rd t130 x7_2)) + 1))))) ?hg ?ho ?hn ?hr ?_; (case ho => rfl); (case hg => rfl); (case hn => rfl); (case hr => first | (go_simp; done) | (go_simp; rfl)); intro w35 hw; have hg : wr.grownBy w35 (some go31) := (by rw [hw]; exact HP34.2); have hp_ : Kd.R (Kd.int .i64) 3 w35 w.heap.size (fun k_ => some k_ ≠ (.slice (some ad133) t130.length co32 : Value).ownBlock) (.slice (some ⟨go31, 0, none⟩) x4_2.length co33) y140 := (by rw [hw, Ny140.out]; exact HP34.1); clear HP34; have n0_ := Aside0.mk (hp_); have n1_ := Aside0.mk (Kd.R_after (v := (.slice (some ⟨go31, 0, none⟩) x4_2.length co33)) (v1 := (.slice (some ⟨go31, 0, none⟩) x4_2.length co33)) (ok := (fun _ => True)) (by (with_reducible repeat (first | apply Kd.R_alloc | apply Kd.R_drewN | apply Kd.R_drew)); exact Kd.R_mono HO_6.out (fun _ hk => ⟨trivial, hk⟩)) hg (.inl rfl)); have n2_ := Aside0.mk ((by rw [hw]; exact below_set (HB.out) GB31.out : Below w.heap.size w w35)); clear HO_4; clear HO_6; clear HB; have HO_4 := n0_; have HO_6 := n1_; have HB := n2_; clear n0_ n1_ n2_; clear hg hw hp_)); try go_wp2_with (first | (go_at_call 31; (with_reducible refine (lattice_Level.calls (rd t130 x7_2) t136 _ A26.out).mono ?_); rintro e w' ⟨rfl, ⟨nd, rfl⟩⟩; (try first | exact ⟨rfl, _, World.drewN_drewN _ _ _⟩ | exact ⟨rfl, _, Eq.trans (World.drewN_drewN _ _ _) (congrArg (World.drewN _) (Nat.add_assoc _ _ _))⟩)) | (go_at_call 31; (with_reducible refine (lattice_Level.calls x5_1 t137 _ A27.out).mono ?_); rintro e w' ⟨rfl, ⟨nd, rfl⟩⟩; (try first | exact ⟨rfl, _, World.drewN_drewN _ _ _⟩ | exact ⟨rfl, _, Eq.trans (World.drewN_drewN _ _ _) (congrArg (World.drewN _) (Nat.add_assoc _ _ _))⟩); have p138 : 0 ≤ (x7_2 : Int) := of_decide_eq_true (by first | (with_reducible assumption) | assumption); have q138 : x7_2 < (t130.length : Int) := of_decide_eq_true (by first | (with_reducible assumption) | assumption); obtain ⟨ad138, e138, hx138_0⟩ := Kd.at_int (Kd.R_reads' HO_6.out).2.2 x7_2 p138 q138; obtain rfl : ad133 = ad138 := (by injection e138); replace p138 := eq_true p138; replace q138 := eq_true q138; have p139 : 0 ≤ ((rd t130 x7_2) : Int) := of_decide_eq_true (by first | (with_reducible assumption) | assumption); have q139 : (rd t130 x7_2) < (x4_2.length : Int) := of_decide_eq_true (by first | (with_reducible assumption) | assumption); obtain ⟨ad139, e139, hx139_0⟩ := Kd.at_int (Kd.R_reads' HO_4.out).2.2 (rd t130 x7_2) p139 q139; cases e139; replace p139 := eq_true p139; replace q139 := eq_true q139; have p31 : 0 ≤ ((rd t130 x7_2) : Int) := of_decide_eq_true (by first | (with_reducible assumption) | assumption); have q31 : ((rd t130 x7_2) : Int) < ((x4_2.length : Int) : Int) := of_decide_eq_true (by first | (with_reducible assumption) | assumption); obtain ⟨go31, co31, eo31, gb31, gl31, cl31, HG31⟩ := Kd.R_form HO_4.out (by omega); (first | cases eo31 | (injection eo31 with ea_ en_ ec_; (first | subst ea_ | (injection ea_ with ea_; subst ea_)); subst ec_; clear en_)); have GB31 := Aside0.mk gb31; have GG31 := Aside0.mk HG31; clear gb31 gl31 HG31; (first | simp only [add_plain] at hx139_0 | skip); obtain ⟨hx31_0, hf31_0⟩ := Kd.R_celln 0 HO_4.out ((rd t130 x7_2) : Int) p31 q31; replace p31 := eq_true p31; replace q31 := eq_true q31; obtain ⟨hy34_, hz34_⟩ := Kd.R_celln 0 HO_4.out ((rd t130 x7_2) : Int) (of_decide_eq_true (by first | (with_reducible assumption) | assumption)) (of_decide_eq_true (by first | (with_reducible assumption) | assumption)); have HP34 := Kd.R_putg HO_4.out ((rd t130 x7_2) : Int) (wrap64 ((rd x4_2 (rd t130 x7_2)) + 1))) | ((with_reducible refine gate_store (t := 3) (p := 67) rfl ?_); (try (rw [drewN_self wr]; generalize hq_ : World.drewN wr _ = wr; have n0_ := Aside0.mk (Kd.R_at hq_ HO_4.out); have n1_ := Aside0.mk (Kd.R_at hq_ HO_6.out); have n2_ := Aside0.mk (below_at hq_ HB.out); clear hq_ HO_4 HO_6 HB; have HO_4 := n0_; have HO_6 := n1_; have HB := n2_; clear n0_ n1_ n2_; (try (obtain ⟨hy34_, hz34_⟩ := Kd.R_celln 0 HO_4.out ((rd t130 x7_2) : Int) (of_decide_eq_true (by first | (with_reducible assumption) | assumption)) (of_decide_eq_true (by first | (with_reducible assumption) | assumption)))); (try (have HP34 := Kd.R_putg HO_4.out ((rd t130 x7_2) : Int) (wrap64 ((rd x4_2 (rd t130 x7_2)) + 1)))))); refine store_event (t := 3) (p := 67) (v := ?vo_w35) (w1 := (wr.setCell ⟨go31, ((rd t130 x7_2) : Int).toNat, none⟩ (.int .i64 (wrap64 ((rd x4_2 (rd t130 x7_2)) + 1))))) ?hg ?ho ?hn ?hr ?_; (case ho => rfl); (case hg => rfl); (case hn => rfl); (case hr => first | (go_simp; done) | (go_simp; rfl)); intro w35 hw; have hg : wr.grownBy w35 (some go31) := (by rw [hw]; exact HP34.2); have hp_ : Kd.R (Kd.int .i64) 3 w35 w.heap.size (fun k_ => some k_ ≠ (.slice (some ad133) t130.length co32 : Value).ownBlock) (.slice (some ⟨go31, 0, none⟩) x4_2.length co33) y140 := (by rw [hw, Ny140.out]; exact HP34.1); clear HP34; have n0_ := Aside0.mk (hp_); have n1_ := Aside0.mk (Kd.R_after (v := (.slice (some ⟨go31, 0, none⟩) x4_2.length co33)) (v1 := (.slice (some ⟨go31, 0, none⟩) x4_2.length co33)) (ok := (fun _ => True)) (by (with_reducible repeat (first | apply Kd.R_alloc | apply Kd.R_drewN | apply Kd.R_drew)); exact Kd.R_mono HO_6.out (fun _ hk => ⟨trivial, hk⟩)) hg (.inl rfl)); have n2_ := Aside0.mk ((by rw [hw]; exact below_set (HB.out) GB31.out : Below w.heap.size w w35)); clear HO_4; clear HO_6; clear HB; have HO_4 := n0_; have HO_6 := n1_; have HB := n2_; clear n0_ n1_ n2_; clear hg hw hp_)))
                                    go_roundg k2
                                    case measure => have := HK1.out; have := HK2.out; omega
                                    case rel => exact ⟨(y140), (wrap64 (x7_2 + 1)), (by first | rfl | (simp; done) | (simp [*]; done)), H', ⟨by have := HK1.out; have := HK2.out; omega⟩, ⟨by (with_reducible repeat (first | apply Kd.R_alloc | apply Kd.R_drewN | apply Kd.R_drew)); exact HO_4.out⟩, ⟨by (with_reducible repeat (first | apply Kd.R_alloc | apply Kd.R_drewN | apply Kd.R_drew)); exact Kd.R_mono HO_6.out (fun _ hk => hk.2)⟩, ⟨by repeat (first | (with_reducible first | exact HB.out | apply below_alloc | apply pw_below_drewN | apply below_drew1) | exact HB.out)⟩⟩
                                  · rw [if_neg c30] at H
                                    exact absurd H (by simp)
                                · rw [if_neg c29] at H
                                  exact absurd H (by simp)
                              · rw [if_neg c28] at H
                                have c28b0 : (t136 == (wrap64 (t137 + 1))) = false := beq_eq_false_iff_ne.mpr c28
                                have c28b1 : (t136 != (wrap64 (t137 + 1))) = true := bne_iff_ne.mpr c28
                                obtain rfl := Option.some.inj H
                                obtain ⟨Ao36, co36, eo36⟩ := Kd.R_slice HO_6.out
                                subst eo36
                                have p133 : 0 ≤ (x7_2 : Int) := of_decide_eq_true (by first | (with_reducible assumption) | assumption)
                                have q133 : x7_2 < (t130.length : Int) := of_decide_eq_true (by first | (with_reducible assumption) | assumption)
                                obtain ⟨ad133, e133, hx133_0⟩ := Kd.at_int (Kd.R_reads' HO_6.out).2.2 x7_2 p133 q133
                                cases e133
                                replace p133 := eq_true p133
                                replace q133 := eq_true q133
                                have p134 : 0 ≤ (x7_2 : Int) := of_decide_eq_true (by first | (with_reducible assumption) | assumption)
                                have q134 : x7_2 < (t130.length : Int) := of_decide_eq_true (by first | (with_reducible assumption) | assumption)
                                obtain ⟨ad134, e134, hx134_0⟩ := Kd.at_int (Kd.R_reads' HO_6.out).2.2 x7_2 p134 q134
                                obtain rfl : ad133 = ad134 := (by injection e134)
                                replace p134 := eq_true p134
                                replace q134 := eq_true q134
                                obtain ⟨Ao37, co37, eo37⟩ := Kd.R_slice HO_4.out
                                subst eo37
                                have p135 : 0 ≤ (x7_2 : Int) := of_decide_eq_true (by first | (with_reducible assumption) | assumption)
                                have q135 : x7_2 < (t130.length : Int) := of_decide_eq_true (by first | (with_reducible assumption) | assumption)
                                obtain ⟨ad135, e135, hx135_0⟩ := Kd.at_int (Kd.R_reads' HO_6.out).2.2 x7_2 p135 q135
                                obtain rfl : ad133 = ad135 := (by injection e135)
                                replace p135 := eq_true p135
                                replace q135 := eq_true q135
                                go_wp2_with (first | (go_at_call 31; (with_reducible refine (lattice_Level.calls (rd t130 x7_2) t136 _ A26.out).mono ?_); rintro e w' ⟨rfl, ⟨nd, rfl⟩⟩; (try first | exact ⟨rfl, _, World.drewN_drewN _ _ _⟩ | exact ⟨rfl, _, Eq.trans (World.drewN_drewN _ _ _) (congrArg (World.drewN _) (Nat.add_assoc _ _ _))⟩)) | (go_at_call 31; (with_reducible refine (lattice_Level.calls x5_1 t137 _ A27.out).mono ?_); rintro e w' ⟨rfl, ⟨nd, rfl⟩⟩; (try first | exact ⟨rfl, _, World.drewN_drewN _ _ _⟩ | exact ⟨rfl, _, Eq.trans (World.drewN_drewN _ _ _) (congrArg (World.drewN _) (Nat.add_assoc _ _ _))⟩)))
                                repeat (go_quiet (first | (go_at_call 31; (with_reducible refine (lattice_Level.calls (rd t130 x7_2) t136 _ A26.out).mono ?_); rintro e w' ⟨rfl, ⟨nd, rfl⟩⟩; (try first | exact ⟨rfl, _, World.drewN_drewN _ _ _⟩ | exact ⟨rfl, _, Eq.trans (World.drewN_drewN _ _ _) (congrArg (World.drewN _) (Nat.add_assoc _ _ _))⟩)) | (go_at_call 31; (with_reducible refine (lattice_Level.calls x5_1 t137 _ A27.out).mono ?_); rintro e w' ⟨rfl, ⟨nd, rfl⟩⟩; (try first | exact ⟨rfl, _, World.drewN_drewN _ _ _⟩ | exact ⟨rfl, _, Eq.trans (World.drewN_drewN _ _ _) (congrArg (World.drewN _) (Nat.add_assoc _ _ _))⟩))); try go_wp2_with (first | (go_at_call 31; (with_reducible refine (lattice_Level.calls (rd t130 x7_2) t136 _ A26.out).mono ?_); rintro e w' ⟨rfl, ⟨nd, rfl⟩⟩; (try first | exact ⟨rfl, _, World.drewN_drewN _ _ _⟩ | exact ⟨rfl, _, Eq.trans (World.drewN_drewN _ _ _) (congrArg (World.drewN _) (Nat.add_assoc _ _ _))⟩)) | (go_at_call 31; (with_reducible refine (lattice_Level.calls x5_1 t137 _ A27.out).mono ?_); rintro e w' ⟨rfl, ⟨nd, rfl⟩⟩; (try first | exact ⟨rfl, _, World.drewN_drewN _ _ _⟩ | exact ⟨rfl, _, Eq.trans (World.drewN_drewN _ _ _) (congrArg (World.drewN _) (Nat.add_assoc _ _ _))⟩))))
                                go_ret
                                exact ⟨by first | rfl | (simp [errW_none, errW_some] <;> rfl) | (simp only [← hji5, ← hji7, ← hji13, ← hji15]; first | rfl | (simp [errW_none, errW_some] <;> rfl)) | (simp [*, errW_none, errW_some] <;> rfl), by repeat (first | (with_reducible first | exact HB.out | apply below_alloc | apply pw_below_drewN | apply below_drew1) | exact HB.out)⟩
                        · rw [if_neg c20] at H
                          exact absurd H (by simp)
                      · rw [if_neg c19] at H
                        have c19b0 : decide (x7_2 < (t130.length : Int)) = false := decide_eq_false c19
                        clear c19
                        have H' := Aside0.mk H
                        clear H
                        obtain ⟨Ao38, co38, eo38⟩ := Kd.R_slice HO_6.out
                        subst eo38
                        go_wp2
                        repeat (go_quiet (fail); try go_wp2)
                        go_roundg k2
                        case measure => have := HK1.out; have := HK2.out; omega
                        case rel => exact ⟨(x4_2), (wrap64 (x5_1 + 1)), (by first | rfl | (simp; done) | (simp [*]; done)), H', ⟨by have := HK1.out; have := HK2.out; omega⟩, ⟨by (with_reducible repeat (first | apply Kd.R_alloc | apply Kd.R_drewN | apply Kd.R_drew)); exact Kd.R_mono HO_4.out (fun _ hk => trivial)⟩, ⟨by repeat (first | (with_reducible first | exact HB.out | apply below_alloc | apply pw_below_drewN | apply below_drew1) | exact HB.out)⟩⟩
                · rw [if_neg c16] at H
                  have c16b0 : decide (x5_1 < (ji15)) = false := decide_eq_false c16
                  clear c16
                  have H' := Aside0.mk H
                  clear H
                  go_wp2
                  repeat (go_quiet (fail); try go_wp2)
                  go_loopg [8] k1 (fun kq v8 w' => ∃ (x8_2 : Int), v8 = .int .i64 x8_2 ∧ Aside0 (hypercubelaw8_LatticeUp.l2 kq (wrap64 (1 + t126)) x4_1 x8_2 = some r) ∧ Aside0 (kq ≤ k1) ∧ Aside0 (Kd.R (Kd.int .i64) 3 w' w.heap.size (fun _ => True) v128 x4_1) ∧ Aside0 (Below w.heap.size w w'))
                  case atStart => exact ⟨(0), (by first | rfl | (simp; done) | (simp [*]; done)), H', ⟨Nat.le_refl _⟩, ⟨by (with_reducible repeat (first | apply Kd.R_alloc | apply Kd.R_drewN | apply Kd.R_drew)); exact HO_4.out⟩, ⟨by repeat (first | (with_reducible first | exact HB.out | apply below_alloc | apply pw_below_drewN | apply below_drew1) | exact HB.out)⟩⟩
                  case round =>
                    clear H'
                    try clear c1
                    try clear p1
                    try clear q1
                    try clear hx1
                    try clear c2
                    try clear p2
                    try clear c3
                    try clear p3
                    try clear q3
                    try clear hx3
                    try clear hf3
                    try clear c5
                    try clear c6
                    try clear c6b0
                    try clear c6b1
                    try clear p6
                    try clear c8
                    try clear c8b0
                    try clear c8b1
                    try clear c9
                    try clear c9b0
                    try clear c9b1
                    try clear p13
                    try clear q13
                    try clear hx13
                    try clear c14
                    try clear c14b0
                    try clear c14b1
                    try clear c16
                    try clear c16b0
                    try clear c19
                    try clear c19b0
                    try clear c20
                    try clear c20b0
                    try clear c21
                    try clear c21b0
                    try clear c23
                    try clear c23b0
                    try clear c28
                    try clear c28b0
                    try clear c28b1
                    try clear c29
                    try clear c29b0
                    try clear c30
                    try clear c30b0
                    try clear p31
                    try clear q31
                    try clear hx31
                    try clear hf31
                    try clear hx133_0
                    try clear hx134_0
                    try clear hx135_0
                    try clear hx138_0
                    try clear hx139_0
                    try clear hx31_0
                    try clear p133
                    try clear p134
                    try clear p135
                    try clear p138
                    try clear p139
                    try clear p2
                    try clear p31
                    try clear p6
                    try clear q133
                    try clear q134
                    try clear q135
                    try clear q138
                    try clear q139
                    try clear q31
                    obtain ⟨x8_2, rfl, HA, HK2, HO_4, HB⟩ := hrel
                    cases gk with
                    | zero => exact absurd HA.out (by simp [hypercubelaw8_LatticeUp.l2])
                    | succ k2 =>
                      have H := HA.out
                      clear HA
                      simp only [hypercubelaw8_LatticeUp.l2] at H
                      obtain ⟨ji39, hji39⟩ : ∃ j_ : Int, (IntKind.u64.wrap ((wrap64 (1 + t126)))) = j_ := ⟨_, rfl⟩
                      replace H : (if 0 ≤ (ji39) then (if x8_2 < (shl .i64 1 (ji39)) then (if 0 ≤ x8_2 then (if x8_2 < (x4_1.length : Int) then ((lattice_Level.f x8_2).bind fun t142 => (if (rd x4_1 x8_2) = t142 then (hypercubelaw8_LatticeUp.l2 k2 (wrap64 (1 + t126)) x4_1 (wrap64 (x8_2 + 1))) else (some false))) else (none)) else (none)) else (some true)) else (none)) = some r := by first | (rw [hji39] at H; exact H) | (simp only [hji39] at H ⊢; exact H)
                      obtain rfl : ji39 = ji13 := hji39.symm.trans hji13
                      by_cases c40 : 0 ≤ (ji39)
                      · rw [if_pos c40] at H
                        have c40b0 := eq_true c40
                        have c40b1 : decide (0 ≤ (ji39)) = true := decide_eq_true c40
                        clear c40
                        obtain ⟨ji41, hji41⟩ : ∃ j_ : Int, (shl .i64 1 (ji39)) = j_ := ⟨_, rfl⟩
                        replace H : (if x8_2 < (ji41) then (if 0 ≤ x8_2 then (if x8_2 < (x4_1.length : Int) then ((lattice_Level.f x8_2).bind fun t142 => (if (rd x4_1 x8_2) = t142 then (hypercubelaw8_LatticeUp.l2 k2 (wrap64 (1 + t126)) x4_1 (wrap64 (x8_2 + 1))) else (some false))) else (none)) else (none)) else (some true)) = some r := by first | (rw [hji41] at H; exact H) | (simp only [hji41] at H ⊢; exact H)
                        obtain rfl : ji41 = ji15 := hji41.symm.trans hji15
                        have hji41_ : (IntKind.i64.wrap (1 * 2 ^ min (ji39).toNat 64)) = ji41 := hji41
                        have hji41z : (ji39) ≤ 64 → (IntKind.i64.wrap (1 * 2 ^ (ji39).toNat)) = ji41 := shl_small hji41
                        have hji41u : (IntKind.i64.wrap (2 ^ min (ji39).toNat 64)) = ji41 := by have h_ := hji41_; rw [Int.one_mul] at h_; exact h_
                        have hji41v : (ji39) ≤ 64 → (IntKind.i64.wrap (2 ^ (ji39).toNat)) = ji41 := fun hle_ => by have h_ := hji41z hle_; rw [Int.one_mul] at h_; exact h_
                        have hji41y : (wrap64 (1 * 2 ^ min (ji39).toNat 64)) = ji41 := (i64_w _).symm.trans hji41_
                        have hji41x : (ji39) ≤ 64 → (wrap64 (1 * 2 ^ (ji39).toNat)) = ji41 := fun h_ => (i64_w _).symm.trans (hji41z h_)
                        by_cases c42 : x8_2 < (ji41)
                        · rw [if_pos c42] at H
                          have c42b0 : decide (x8_2 < (ji41)) = true := decide_eq_true c42
                          clear c42
                          by_cases c43 : 0 ≤ x8_2
                          · rw [if_pos c43] at H
                            have c43b0 : decide (0 ≤ x8_2) = true := decide_eq_true c43
                            clear c43
                            by_cases c44 : x8_2 < (x4_1.length : Int)
                            · rw [if_pos c44] at H
                              have c44b0 : decide (x8_2 < (x4_1.length : Int)) = true := decide_eq_true c44
                              clear c44
                              replace H := Option.bind_eq_some_iff.mp H
                              obtain ⟨t142, A450, H⟩ := H
                              replace H : (if (rd x4_1 x8_2) = t142 then (hypercubelaw8_LatticeUp.l2 k2 (wrap64 (1 + t126)) x4_1 (wrap64 (x8_2 + 1))) else (some false)) = some r := H
                              have A45 := Aside0.mk A450
                              clear A450
                              by_cases c46 : (rd x4_1 x8_2) = t142
                              · rw [if_pos c46] at H
                                have c46b0 : ((rd x4_1 x8_2) == t142) = true := beq_iff_eq.mpr c46
                                have c46b1 : ((rd x4_1 x8_2) != t142) = false := bne_eq_false_iff_eq.mpr c46
                                clear c46
                                have H' := Aside0.mk H
                                clear H
                                obtain ⟨Ao47, co47, eo47⟩ := Kd.R_slice HO_4.out
                                subst eo47
                                have p141 : 0 ≤ (x8_2 : Int) := of_decide_eq_true (by first | (with_reducible assumption) | assumption)
                                have q141 : x8_2 < (x4_1.length : Int) := of_decide_eq_true (by first | (with_reducible assumption) | assumption)
                                obtain ⟨ad141, e141, hx141_0⟩ := Kd.at_int (Kd.R_reads' HO_4.out).2.2 x8_2 p141 q141
                                cases e141
                                replace p141 := eq_true p141
                                replace q141 := eq_true q141
                                go_wp2_with (first | (go_at_call 31; (with_reducible refine (lattice_Level.calls x8_2 t142 _ A45.out).mono ?_); rintro e w' ⟨rfl, ⟨nd, rfl⟩⟩; (try first | exact ⟨rfl, _, World.drewN_drewN _ _ _⟩ | exact ⟨rfl, _, Eq.trans (World.drewN_drewN _ _ _) (congrArg (World.drewN _) (Nat.add_assoc _ _ _))⟩)))
                                repeat (go_quiet (first | (go_at_call 31; (with_reducible refine (lattice_Level.calls x8_2 t142 _ A45.out).mono ?_); rintro e w' ⟨rfl, ⟨nd, rfl⟩⟩; (try first | exact ⟨rfl, _, World.drewN_drewN _ _ _⟩ | exact ⟨rfl, _, Eq.trans (World.drewN_drewN _ _ _) (congrArg (World.drewN _) (Nat.add_assoc _ _ _))⟩))); try go_wp2_with (first | (go_at_call 31; (with_reducible refine (lattice_Level.calls x8_2 t142 _ A45.out).mono ?_); rintro e w' ⟨rfl, ⟨nd, rfl⟩⟩; (try first | exact ⟨rfl, _, World.drewN_drewN _ _ _⟩ | exact ⟨rfl, _, Eq.trans (World.drewN_drewN _ _ _) (congrArg (World.drewN _) (Nat.add_assoc _ _ _))⟩))))
                                go_roundg k2
                                case measure => have := HK1.out; have := HK2.out; omega
                                case rel => exact ⟨(wrap64 (x8_2 + 1)), (by first | rfl | (simp; done) | (simp [*]; done)), H', ⟨by have := HK1.out; have := HK2.out; omega⟩, ⟨by (with_reducible repeat (first | apply Kd.R_alloc | apply Kd.R_drewN | apply Kd.R_drew)); exact HO_4.out⟩, ⟨by repeat (first | (with_reducible first | exact HB.out | apply below_alloc | apply pw_below_drewN | apply below_drew1) | exact HB.out)⟩⟩
                              · rw [if_neg c46] at H
                                have c46b0 : ((rd x4_1 x8_2) == t142) = false := beq_eq_false_iff_ne.mpr c46
                                have c46b1 : ((rd x4_1 x8_2) != t142) = true := bne_iff_ne.mpr c46
                                obtain rfl := Option.some.inj H
                                obtain ⟨Ao48, co48, eo48⟩ := Kd.R_slice HO_4.out
                                subst eo48
                                have p141 : 0 ≤ (x8_2 : Int) := of_decide_eq_true (by first | (with_reducible assumption) | assumption)
                                have q141 : x8_2 < (x4_1.length : Int) := of_decide_eq_true (by first | (with_reducible assumption) | assumption)
                                obtain ⟨ad141, e141, hx141_0⟩ := Kd.at_int (Kd.R_reads' HO_4.out).2.2 x8_2 p141 q141
                                cases e141
                                replace p141 := eq_true p141
                                replace q141 := eq_true q141
                                go_wp2_with (first | (go_at_call 31; (with_reducible refine (lattice_Level.calls x8_2 t142 _ A45.out).mono ?_); rintro e w' ⟨rfl, ⟨nd, rfl⟩⟩; (try first | exact ⟨rfl, _, World.drewN_drewN _ _ _⟩ | exact ⟨rfl, _, Eq.trans (World.drewN_drewN _ _ _) (congrArg (World.drewN _) (Nat.add_assoc _ _ _))⟩)))
                                repeat (go_quiet (first | (go_at_call 31; (with_reducible refine (lattice_Level.calls x8_2 t142 _ A45.out).mono ?_); rintro e w' ⟨rfl, ⟨nd, rfl⟩⟩; (try first | exact ⟨rfl, _, World.drewN_drewN _ _ _⟩ | exact ⟨rfl, _, Eq.trans (World.drewN_drewN _ _ _) (congrArg (World.drewN _) (Nat.add_assoc _ _ _))⟩))); try go_wp2_with (first | (go_at_call 31; (with_reducible refine (lattice_Level.calls x8_2 t142 _ A45.out).mono ?_); rintro e w' ⟨rfl, ⟨nd, rfl⟩⟩; (try first | exact ⟨rfl, _, World.drewN_drewN _ _ _⟩ | exact ⟨rfl, _, Eq.trans (World.drewN_drewN _ _ _) (congrArg (World.drewN _) (Nat.add_assoc _ _ _))⟩))))
                                go_ret
                                exact ⟨by first | rfl | (simp [errW_none, errW_some] <;> rfl) | (simp only [← hji5, ← hji7, ← hji13, ← hji15, ← hji39, ← hji41]; first | rfl | (simp [errW_none, errW_some] <;> rfl)) | (simp [*, errW_none, errW_some] <;> rfl), by repeat (first | (with_reducible first | exact HB.out | apply below_alloc | apply pw_below_drewN | apply below_drew1) | exact HB.out)⟩
                            · rw [if_neg c44] at H
                              exact absurd H (by simp)
                          · rw [if_neg c43] at H
                            exact absurd H (by simp)
                        · rw [if_neg c42] at H
                          have c42b0 : decide (x8_2 < (ji41)) = false := decide_eq_false c42
                          clear c42
                          obtain rfl := Option.some.inj H
                          go_wp2
                          repeat (go_quiet (fail); try go_wp2)
                          go_ret
                          exact ⟨by first | rfl | (simp [errW_none, errW_some] <;> rfl) | (simp only [← hji5, ← hji7, ← hji13, ← hji15, ← hji39, ← hji41]; first | rfl | (simp [errW_none, errW_some] <;> rfl)) | (simp [*, errW_none, errW_some] <;> rfl), by repeat (first | (with_reducible first | exact HB.out | apply below_alloc | apply pw_below_drewN | apply below_drew1) | exact HB.out)⟩
                      · rw [if_neg c40] at H
                        exact absurd H (by simp)
              · rw [if_neg c14] at H
                exact absurd H (by simp)
        · rw [if_neg c9] at H
          exact absurd H (by simp)
      · rw [if_neg c8] at H
        exact absurd H (by simp)
    · rw [if_neg c6] at H
      exact absurd H (by simp)
  · replace c3 := Bool.eq_false_iff.mpr c3
    subst c3
    have H1 : (some false) = some r := by rw [if_neg (show ¬ (false = true) by decide)] at H; exact H
    clear H
    have H := H1
    clear H1
    obtain rfl := Option.some.inj H
    go_enter Try.func5, Try.ntmps5
    go_wp2_with (first | (go_at_call 27; (with_reducible refine (hypercubelaw8_known.calls  false _ A2.out).mono ?_); rintro e w49 ⟨rfl, hb⟩; have n0_ := Aside0.mk (below_step (by repeat (first | (with_reducible first | exact HB.out | apply below_alloc | apply pw_below_drewN | apply below_drew1) | exact HB.out)) hb); clear HB; have HB := n0_; clear n0_; (try clear hb); (try clear hb2); (try clear hk); (try clear hi)))
    repeat (go_quiet (first | (go_at_call 27; (with_reducible refine (hypercubelaw8_known.calls  false _ A2.out).mono ?_); rintro e w49 ⟨rfl, hb⟩; have n0_ := Aside0.mk (below_step (by repeat (first | (with_reducible first | exact HB.out | apply below_alloc | apply pw_below_drewN | apply below_drew1) | exact HB.out)) hb); clear HB; have HB := n0_; clear n0_; (try clear hb); (try clear hb2); (try clear hk); (try clear hi))); try go_wp2_with (first | (go_at_call 27; (with_reducible refine (hypercubelaw8_known.calls  false _ A2.out).mono ?_); rintro e w49 ⟨rfl, hb⟩; have n0_ := Aside0.mk (below_step (by repeat (first | (with_reducible first | exact HB.out | apply below_alloc | apply pw_below_drewN | apply below_drew1) | exact HB.out)) hb); clear HB; have HB := n0_; clear n0_; (try clear hb); (try clear hb2); (try clear hk); (try clear hi))))
    go_ret
    exact ⟨by first | rfl | (simp [errW_none, errW_some] <;> rfl) | (simp [*, errW_none, errW_some] <;> rfl), by repeat (first | (with_reducible first | exact HB.out | apply below_alloc | apply pw_below_drewN | apply below_drew1) | exact HB.out)⟩

/-- THE ONE PURE STATEMENT of hypercubelaw8_LatticeUp: yours. -/
def hypercubelaw8_LatticeUp.Pure : Prop := ∀ (a0 : Int), (Lit.int .i64 a0).wf = true → ∃ k, hypercubelaw8_LatticeUp.f k a0 = some true
theorem hypercubelaw8_LatticeUp.walk (P : hypercubelaw8_LatticeUp.Pure) (a0 : Int) (w : World) (w0 : (Lit.int .i64 a0).wf = true) :
    Calls Try.prog 5 #[.int .i64 a0] w fun e w' => e = .returned (.bool true) ∧ Below w.heap.size w w' := by
  obtain ⟨k, h⟩ := P a0 w0
  refine (hypercubelaw8_LatticeUp.calls k a0 true w h).mono ?_
  rintro e w' ⟨rfl, hd⟩
  exact ⟨rfl, hd⟩

end Go.Proofs.Ytlplaidcdocbmaa.PLatticeUp
