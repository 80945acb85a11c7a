-- Laid by dprint.py, a program of this session, with the kit's print.py over a doctored print; not trusted: Lean checks it.
import Derived.Test.YtgnkpahnhhmceaaPMatchLeastx0
import Derived.Test.YtgnkpahnhhmceaaPMatchLeastx1
namespace Go.Proofs.Ytgnkpahnhhmceaa.PMatchLeast
open Go.RowKit Go.Proofs.YtgnkpahnhhmceaaW.PrintWords Go.Proofs.YtgnkpahnhhmceaaW.PrintLast Go.Proofs.YtgnkpahnhhmceaaW.PrintMore
attribute [local go_sem] max2_int min2_int max_two min_two max_three min_three max_four min_four   -- for this text's walks alone
set_option linter.unusedVariables false
set_option linter.unusedSimpArgs false

/-! ### hypercubelaw9_MatchLeast: function 4 -/
mutual
def hypercubelaw9_MatchLeast.j0 : Nat → List Int → List (List Int) → List Int → Int → Bool → Option (Bool)
 | 0, _, _, _, _, _ => none
 | k + 1, x4, x11, x12, x13, x47 => if x47 = true then (some false) else (if (x11.length : Int) = 0 then (some (x13 == 0)) else (if 0 < (x11.length : Int) then (if 0 ≤ ((rd_L1 x11 0).length : Int) then (if (((rd_L1 x11 0).length : Int) : Int).toNat ≤ 281474976710656 then (hypercubelaw9_MatchLeast.l0 k x4 x11 x12 x13 ((rd_L1 x11 0).length : Int) 0 (List.replicate (((rd_L1 x11 0).length : Int) : Int).toNat false) 0) else (none)) else (none)) else (none)))
def hypercubelaw9_MatchLeast.l0 : Nat → List Int → List (List Int) → List Int → Int → Int → Int → List Bool → Int → Option (Bool)
 | 0, _, _, _, _, _, _, _, _ => none
 | k + 1, x4, x11, x12, x13, x15, x16, x17, x18 => if x18 < (x12.length : Int) then (if 0 ≤ x18 then (if (rd x12 x18) < 0 then (some false) else (if (rd x12 x18) ≥ x15 then (some false) else (if 0 ≤ (rd x12 x18) then (if (rd x12 x18) < (x17.length : Int) then (if rdOf false x17 (rd x12 x18) = true then (some false) else (if x18 < (x11.length : Int) then (if (rd x12 x18) < ((rd_L1 x11 x18).length : Int) then (hypercubelaw9_MatchLeast.l0 k x4 x11 x12 x13 x15 (wrap64 (x16 + (rd (rd_L1 x11 x18) (rd x12 x18)))) (x17.set ((rd x12 x18) : Int).toNat true) (wrap64 (x18 + 1))) else (none)) else (none))) else (none)) else (none)))) else (none)) else (hypercubelaw9_MatchLeast.l1 k x4 x11 x12 x13 x15 x16 ([] : List Int) 0)
def hypercubelaw9_MatchLeast.l1 : Nat → List Int → List (List Int) → List Int → Int → Int → Int → List Int → Int → Option (Bool)
 | 0, _, _, _, _, _, _, _, _ => none
 | k + 1, x4, x11, x12, x13, x15, x16, x19, x20 => if x20 < x15 then (if x19.length < 17592186044416 then (hypercubelaw9_MatchLeast.l1 k x4 x11 x12 x13 x15 x16 (x19 ++ [x20]) (wrap64 (x20 + 1))) else (none)) else (hypercubelaw9_MatchLeast.l2 k x4 x11 x12 x13 x15 x16 x19 0)
def hypercubelaw9_MatchLeast.l2 : Nat → List Int → List (List Int) → List Int → Int → Int → Int → List Int → Int → Option (Bool)
 | 0, _, _, _, _, _, _, _, _ => none
 | k + 1, x4, x11, x12, x13, x15, x16, x19, x21 => if x21 < (x4.length : Int) then (hypercubelaw9_MatchLeast.j4 k x4 x11 x12 x13 x15 x16 x19 x21 (decide (x21 < 30))) else (hypercubelaw9_MatchLeast.j4 k x4 x11 x12 x13 x15 x16 x19 x21 false)
def hypercubelaw9_MatchLeast.j4 : Nat → List Int → List (List Int) → List Int → Int → Int → Int → List Int → Int → Bool → Option (Bool)
 | 0, _, _, _, _, _, _, _, _, _ => none
 | k + 1, x4, x11, x12, x13, x15, x16, x19, x21, x121 => if x121 = true then (if x15 = 0 then (none) else (if 0 ≤ x21 then (if x21 < (x4.length : Int) then ((hypercubelaw9_within.f (rd x4 x21) x15).bind fun t152 => (if 0 ≤ t152 then (if t152 < (x19.length : Int) then (if 0 ≤ (Int.tmod x21 x15) then (if (Int.tmod x21 x15) < (x19.length : Int) then (hypercubelaw9_MatchLeast.l3 k x4 x11 x12 x13 x15 x16 ((x19.set ((Int.tmod x21 x15) : Int).toNat (rd x19 t152)).set (t152 : Int).toNat (rd x19 (Int.tmod x21 x15))) x21 0 0) else (none)) else (none)) else (none)) else (none))) else (none)) else (none))) else (some (x16 == x13))
def hypercubelaw9_MatchLeast.l3 : Nat → List Int → List (List Int) → List Int → Int → Int → Int → List Int → Int → Int → Int → Option (Bool)
 | 0, _, _, _, _, _, _, _, _, _, _ => none
 | k + 1, x4, x11, x12, x13, x15, x16, x19, x21, x24, x25 => if x25 < (x11.length : Int) then (if 0 ≤ x25 then (if x25 < (x19.length : Int) then (if 0 ≤ (rd x19 x25) then (if (rd x19 x25) < ((rd_L1 x11 x25).length : Int) then (hypercubelaw9_MatchLeast.l3 k x4 x11 x12 x13 x15 x16 x19 x21 (wrap64 (x24 + (rd (rd_L1 x11 x25) (rd x19 x25)))) (wrap64 (x25 + 1))) else (none)) else (none)) else (none)) else (none)) else (if x24 < x13 then (some false) else (if x24 = x13 then (if 0 ≤ (x11.length : Int) then (if (x11.length : Int) ≤ (x19.length : Int) then ((hypercubelaw9_ahead.f k (x19.take ((x11.length : Int) : Int).toNat) x12).bind fun t164 => (if t164 = true then (some false) else (hypercubelaw9_MatchLeast.l2 k x4 x11 x12 x13 x15 x16 x19 (wrap64 (x21 + 1))))) else (none)) else (none)) else (hypercubelaw9_MatchLeast.l2 k x4 x11 x12 x13 x15 x16 x19 (wrap64 (x21 + 1)))))
end
noncomputable def hypercubelaw9_MatchLeast.f (k : Nat) (a0 : Int) (a1 : Int) (l2 : List Int) (a3 : Int) (l4 : List Int) : Option (Bool) := (hypercubelaw9_known.f).bind fun t126 => (if t126 = true then ((hypercubelaw9_Costs.f a0 a1 l2 a3).bind fun t127 => ((match_Assign.f t127).bind fun bt130 => (if bt130.2.2 = true then (hypercubelaw9_MatchLeast.j0 k l4 t127 bt130.1 bt130.2.1 ((bt130.1.length : Int) != (t127.length : Int))) else (hypercubelaw9_MatchLeast.j0 k l4 t127 bt130.1 bt130.2.1 true)))) else (some false))
theorem hypercubelaw9_MatchLeast.mono_l : ∀ k, (∀ y0 y1 y2 y3 y4, LeO (hypercubelaw9_MatchLeast.j0 k y0 y1 y2 y3 y4) (hypercubelaw9_MatchLeast.j0 (k + 1) y0 y1 y2 y3 y4)) ∧ (∀ y0 y1 y2 y3 y4 y5 y6 y7, LeO (hypercubelaw9_MatchLeast.l0 k y0 y1 y2 y3 y4 y5 y6 y7) (hypercubelaw9_MatchLeast.l0 (k + 1) y0 y1 y2 y3 y4 y5 y6 y7)) ∧ (∀ y0 y1 y2 y3 y4 y5 y6 y7, LeO (hypercubelaw9_MatchLeast.l1 k y0 y1 y2 y3 y4 y5 y6 y7) (hypercubelaw9_MatchLeast.l1 (k + 1) y0 y1 y2 y3 y4 y5 y6 y7)) ∧ (∀ y0 y1 y2 y3 y4 y5 y6 y7, LeO (hypercubelaw9_MatchLeast.l2 k y0 y1 y2 y3 y4 y5 y6 y7) (hypercubelaw9_MatchLeast.l2 (k + 1) y0 y1 y2 y3 y4 y5 y6 y7)) ∧ (∀ y0 y1 y2 y3 y4 y5 y6 y7 y8, LeO (hypercubelaw9_MatchLeast.j4 k y0 y1 y2 y3 y4 y5 y6 y7 y8) (hypercubelaw9_MatchLeast.j4 (k + 1) y0 y1 y2 y3 y4 y5 y6 y7 y8)) ∧ (∀ y0 y1 y2 y3 y4 y5 y6 y7 y8 y9, LeO (hypercubelaw9_MatchLeast.l3 k y0 y1 y2 y3 y4 y5 y6 y7 y8 y9) (hypercubelaw9_MatchLeast.l3 (k + 1) y0 y1 y2 y3 y4 y5 y6 y7 y8 y9))
 | 0 => ⟨fun _ _ _ _ _ r h => by simp [hypercubelaw9_MatchLeast.j0] at h, fun _ _ _ _ _ _ _ _ r h => by simp [hypercubelaw9_MatchLeast.l0] at h, fun _ _ _ _ _ _ _ _ r h => by simp [hypercubelaw9_MatchLeast.l1] at h, fun _ _ _ _ _ _ _ _ r h => by simp [hypercubelaw9_MatchLeast.l2] at h, fun _ _ _ _ _ _ _ _ _ r h => by simp [hypercubelaw9_MatchLeast.j4] at h, fun _ _ _ _ _ _ _ _ _ _ r h => by simp [hypercubelaw9_MatchLeast.l3] at h⟩
 | k + 1 => by
  obtain ⟨ih0, ih1, ih2, ih3, ih4, ih5⟩ := hypercubelaw9_MatchLeast.mono_l k
  refine ⟨?_, ?_, ?_, ?_, ?_, ?_⟩
  ·intro y0 y1 y2 y3 y4
   unfold hypercubelaw9_MatchLeast.j0
   repeat' first
   | (with_reducible exact ih0 _ _ _ _ _)
   | (with_reducible exact ih1 _ _ _ _ _ _ _ _)
   | (with_reducible exact ih2 _ _ _ _ _ _ _ _)
   | (with_reducible exact ih3 _ _ _ _ _ _ _ _)
   | (with_reducible exact ih4 _ _ _ _ _ _ _ _ _)
   | (with_reducible exact ih5 _ _ _ _ _ _ _ _ _ _)
   | (with_reducible exact hypercubelaw9_ahead.mono _ _ _)
   | (with_reducible exact LeO.refl _)
   | (with_reducible exact LeO.none _)
   | (with_reducible refine LeO.ite ?_ ?_)
   | (with_reducible refine LeO.bind ?_ (fun _ => ?_))
   | exact ih0 _ _ _ _ _
   | exact ih1 _ _ _ _ _ _ _ _
   | exact ih2 _ _ _ _ _ _ _ _
   | exact ih3 _ _ _ _ _ _ _ _
   | exact ih4 _ _ _ _ _ _ _ _ _
   | exact ih5 _ _ _ _ _ _ _ _ _ _
   | exact hypercubelaw9_ahead.mono _ _ _
   | exact LeO.none _
   | refine LeO.ite ?_ ?_
   | refine LeO.bind ?_ (fun _ => ?_)
  ·intro y0 y1 y2 y3 y4 y5 y6 y7
   unfold hypercubelaw9_MatchLeast.l0
   repeat' first
   | (with_reducible exact ih0 _ _ _ _ _)
   | (with_reducible exact ih1 _ _ _ _ _ _ _ _)
   | (with_reducible exact ih2 _ _ _ _ _ _ _ _)
   | (with_reducible exact ih3 _ _ _ _ _ _ _ _)
   | (with_reducible exact ih4 _ _ _ _ _ _ _ _ _)
   | (with_reducible exact ih5 _ _ _ _ _ _ _ _ _ _)
   | (with_reducible exact hypercubelaw9_ahead.mono _ _ _)
   | (with_reducible exact LeO.refl _)
   | (with_reducible exact LeO.none _)
   | (with_reducible refine LeO.ite ?_ ?_)
   | (with_reducible refine LeO.bind ?_ (fun _ => ?_))
   | exact ih0 _ _ _ _ _
   | exact ih1 _ _ _ _ _ _ _ _
   | exact ih2 _ _ _ _ _ _ _ _
   | exact ih3 _ _ _ _ _ _ _ _
   | exact ih4 _ _ _ _ _ _ _ _ _
   | exact ih5 _ _ _ _ _ _ _ _ _ _
   | exact hypercubelaw9_ahead.mono _ _ _
   | exact LeO.none _
   | refine LeO.ite ?_ ?_
   | refine LeO.bind ?_ (fun _ => ?_)
  ·intro y0 y1 y2 y3 y4 y5 y6 y7
   unfold hypercubelaw9_MatchLeast.l1
   repeat' first
   | (with_reducible exact ih0 _ _ _ _ _)
   | (with_reducible exact ih1 _ _ _ _ _ _ _ _)
   | (with_reducible exact ih2 _ _ _ _ _ _ _ _)
   | (with_reducible exact ih3 _ _ _ _ _ _ _ _)
   | (with_reducible exact ih4 _ _ _ _ _ _ _ _ _)
   | (with_reducible exact ih5 _ _ _ _ _ _ _ _ _ _)
   | (with_reducible exact hypercubelaw9_ahead.mono _ _ _)
   | (with_reducible exact LeO.refl _)
   | (with_reducible exact LeO.none _)
   | (with_reducible refine LeO.ite ?_ ?_)
   | (with_reducible refine LeO.bind ?_ (fun _ => ?_))
   | exact ih0 _ _ _ _ _
   | exact ih1 _ _ _ _ _ _ _ _
   | exact ih2 _ _ _ _ _ _ _ _
   | exact ih3 _ _ _ _ _ _ _ _
   | exact ih4 _ _ _ _ _ _ _ _ _
   | exact ih5 _ _ _ _ _ _ _ _ _ _
   | exact hypercubelaw9_ahead.mono _ _ _
   | exact LeO.none _
   | refine LeO.ite ?_ ?_
   | refine LeO.bind ?_ (fun _ => ?_)
  ·intro y0 y1 y2 y3 y4 y5 y6 y7
   unfold hypercubelaw9_MatchLeast.l2
   repeat' first
   | (with_reducible exact ih0 _ _ _ _ _)
   | (with_reducible exact ih1 _ _ _ _ _ _ _ _)
   | (with_reducible exact ih2 _ _ _ _ _ _ _ _)
   | (with_reducible exact ih3 _ _ _ _ _ _ _ _)
   | (with_reducible exact ih4 _ _ _ _ _ _ _ _ _)
   | (with_reducible exact ih5 _ _ _ _ _ _ _ _ _ _)
   | (with_reducible exact hypercubelaw9_ahead.mono _ _ _)
   | (with_reducible exact LeO.refl _)
   | (with_reducible exact LeO.none _)
   | (with_reducible refine LeO.ite ?_ ?_)
   | (with_reducible refine LeO.bind ?_ (fun _ => ?_))
   | exact ih0 _ _ _ _ _
   | exact ih1 _ _ _ _ _ _ _ _
   | exact ih2 _ _ _ _ _ _ _ _
   | exact ih3 _ _ _ _ _ _ _ _
   | exact ih4 _ _ _ _ _ _ _ _ _
   | exact ih5 _ _ _ _ _ _ _ _ _ _
   | exact hypercubelaw9_ahead.mono _ _ _
   | exact LeO.none _
   | refine LeO.ite ?_ ?_
   | refine LeO.bind ?_ (fun _ => ?_)
  ·intro y0 y1 y2 y3 y4 y5 y6 y7 y8
   unfold hypercubelaw9_MatchLeast.j4
   repeat' first
   | (with_reducible exact ih0 _ _ _ _ _)
   | (with_reducible exact ih1 _ _ _ _ _ _ _ _)
   | (with_reducible exact ih2 _ _ _ _ _ _ _ _)
   | (with_reducible exact ih3 _ _ _ _ _ _ _ _)
   | (with_reducible exact ih4 _ _ _ _ _ _ _ _ _)
   | (with_reducible exact ih5 _ _ _ _ _ _ _ _ _ _)
   | (with_reducible exact hypercubelaw9_ahead.mono _ _ _)
   | (with_reducible exact LeO.refl _)
   | (with_reducible exact LeO.none _)
   | (with_reducible refine LeO.ite ?_ ?_)
   | (with_reducible refine LeO.bind ?_ (fun _ => ?_))
   | exact ih0 _ _ _ _ _
   | exact ih1 _ _ _ _ _ _ _ _
   | exact ih2 _ _ _ _ _ _ _ _
   | exact ih3 _ _ _ _ _ _ _ _
   | exact ih4 _ _ _ _ _ _ _ _ _
   | exact ih5 _ _ _ _ _ _ _ _ _ _
   | exact hypercubelaw9_ahead.mono _ _ _
   | exact LeO.none _
   | refine LeO.ite ?_ ?_
   | refine LeO.bind ?_ (fun _ => ?_)
  ·intro y0 y1 y2 y3 y4 y5 y6 y7 y8 y9
   unfold hypercubelaw9_MatchLeast.l3
   repeat' first
   | (with_reducible exact ih0 _ _ _ _ _)
   | (with_reducible exact ih1 _ _ _ _ _ _ _ _)
   | (with_reducible exact ih2 _ _ _ _ _ _ _ _)
   | (with_reducible exact ih3 _ _ _ _ _ _ _ _)
   | (with_reducible exact ih4 _ _ _ _ _ _ _ _ _)
   | (with_reducible exact ih5 _ _ _ _ _ _ _ _ _ _)
   | (with_reducible exact hypercubelaw9_ahead.mono _ _ _)
   | (with_reducible exact LeO.refl _)
   | (with_reducible exact LeO.none _)
   | (with_reducible refine LeO.ite ?_ ?_)
   | (with_reducible refine LeO.bind ?_ (fun _ => ?_))
   | exact ih0 _ _ _ _ _
   | exact ih1 _ _ _ _ _ _ _ _
   | exact ih2 _ _ _ _ _ _ _ _
   | exact ih3 _ _ _ _ _ _ _ _
   | exact ih4 _ _ _ _ _ _ _ _ _
   | exact ih5 _ _ _ _ _ _ _ _ _ _
   | exact hypercubelaw9_ahead.mono _ _ _
   | exact LeO.none _
   | refine LeO.ite ?_ ?_
   | refine LeO.bind ?_ (fun _ => ?_)
theorem hypercubelaw9_MatchLeast.mono : ∀ a0 a1 a2 a3 a4 k, LeO (hypercubelaw9_MatchLeast.f k a0 a1 a2 a3 a4) (hypercubelaw9_MatchLeast.f (k + 1) a0 a1 a2 a3 a4) := by
 intro a0 a1 a2 a3 a4 k
 obtain ⟨ih0, ih1, ih2, ih3, ih4, ih5⟩ := hypercubelaw9_MatchLeast.mono_l k
 unfold hypercubelaw9_MatchLeast.f
 repeat' first
   | (with_reducible exact ih0 _ _ _ _ _)
   | (with_reducible exact ih1 _ _ _ _ _ _ _ _)
   | (with_reducible exact ih2 _ _ _ _ _ _ _ _)
   | (with_reducible exact ih3 _ _ _ _ _ _ _ _)
   | (with_reducible exact ih4 _ _ _ _ _ _ _ _ _)
   | (with_reducible exact ih5 _ _ _ _ _ _ _ _ _ _)
   | (with_reducible exact hypercubelaw9_ahead.mono _ _ _)
   | (with_reducible exact LeO.refl _)
   | (with_reducible exact LeO.none _)
   | (with_reducible refine LeO.ite ?_ ?_)
   | (with_reducible refine LeO.bind ?_ (fun _ => ?_))
   | exact ih0 _ _ _ _ _
   | exact ih1 _ _ _ _ _ _ _ _
   | exact ih2 _ _ _ _ _ _ _ _
   | exact ih3 _ _ _ _ _ _ _ _
   | exact ih4 _ _ _ _ _ _ _ _ _
   | exact ih5 _ _ _ _ _ _ _ _ _ _
   | exact hypercubelaw9_ahead.mono _ _ _
   | exact LeO.none _
   | refine LeO.ite ?_ ?_
   | refine LeO.bind ?_ (fun _ => ?_)
def hypercubelaw9_MatchLeast.T18 : Bool × List (List Nat × List Nat) := (true, [([], []), ([], []), ([], []), ([1, 2], [1, 2]), ([3], [3]), ([], []), ([], []), ([5, 6], [5, 6]), ([7], [7]), ([4, 8], [4, 8]), ([9], [9]), ([0, 10], [0, 10]), ([11, 0, 1, 2, 3, 4, 5, 6, 7, 8, 9, 10, 11], [0, 11])])
def hypercubelaw9_MatchLeast.B18 : List Nat := [0, 0, 0, 6, 14, 0, 0, 96, 224, 510, 1022, 2047, 4095]
theorem hypercubelaw9_MatchLeast.tab18 : rtab .any (opsOf Try.f4 18) = hypercubelaw9_MatchLeast.T18 := by kernel_rfl
theorem hypercubelaw9_MatchLeast.bits18 : waitsOk hypercubelaw9_MatchLeast.T18.2 hypercubelaw9_MatchLeast.B18 = true := by kernel_rfl
def hypercubelaw9_MatchLeast.T27 : Bool × List (List Nat × List Nat) := (true, [([], []), ([], []), ([0, 1], [0, 1]), ([], []), ([], []), ([3, 4], [3, 4]), ([5], [5]), ([], []), ([6, 7], [6, 7]), ([2, 8, 0, 1, 2], [2]), ([8, 9, 0, 1, 2, 3, 4, 5, 6, 7, 8, 9], [8])])
def hypercubelaw9_MatchLeast.B27 : List Nat := [0, 0, 3, 0, 0, 24, 56, 0, 248, 511, 1023]
theorem hypercubelaw9_MatchLeast.tab27 : rtab .any (opsOf Try.f4 27) = hypercubelaw9_MatchLeast.T27 := by kernel_rfl
theorem hypercubelaw9_MatchLeast.bits27 : waitsOk hypercubelaw9_MatchLeast.T27.2 hypercubelaw9_MatchLeast.B27 = true := by kernel_rfl
def hypercubelaw9_MatchLeast.T28 : Bool × List (List Nat × List Nat) := (true, [([], []), ([], []), ([], []), ([], []), ([], []), ([], []), ([4, 5], [4, 5]), ([6], [6]), ([], []), ([], []), ([8, 9], [8, 9]), ([10], [10]), ([0, 1, 0, 1, 4, 5, 6, 7, 11], [0, 1]), ([12, 7, 0, 1, 4, 5, 6, 7, 11], [7, 12]), ([2, 3, 0, 1, 2, 3, 4, 5, 6, 7, 8, 9, 10, 11, 12, 13], [2, 3]), ([14, 11, 13, 0, 1, 2, 3, 4, 5, 6, 7, 8, 9, 10, 11, 12, 13], [11, 14])])
def hypercubelaw9_MatchLeast.B28 : List Nat := [0, 0, 0, 0, 0, 0, 48, 112, 0, 0, 768, 1792, 4083, 8179, 16383, 32767]
theorem hypercubelaw9_MatchLeast.tab28 : rtab .any (opsOf Try.f4 28) = hypercubelaw9_MatchLeast.T28 := by kernel_rfl
theorem hypercubelaw9_MatchLeast.bits28 : waitsOk hypercubelaw9_MatchLeast.T28.2 hypercubelaw9_MatchLeast.B28 = true := by kernel_rfl
def hypercubelaw9_MatchLeast.T33 : Bool × List (List Nat × List Nat) := (true, [([], []), ([], []), ([], []), ([1, 2], [1, 2]), ([3], [3]), ([], []), ([], []), ([5, 6], [5, 6]), ([7], [7]), ([4, 8], [4, 8]), ([9], [9]), ([0, 10], [0, 10]), ([11, 0, 1, 2, 3, 4, 5, 6, 7, 8, 9, 10, 11], [0, 11])])
def hypercubelaw9_MatchLeast.B33 : List Nat := [0, 0, 0, 6, 14, 0, 0, 96, 224, 510, 1022, 2047, 4095]
theorem hypercubelaw9_MatchLeast.tab33 : rtab .any (opsOf Try.f4 33) = hypercubelaw9_MatchLeast.T33 := by kernel_rfl
theorem hypercubelaw9_MatchLeast.bits33 : waitsOk hypercubelaw9_MatchLeast.T33.2 hypercubelaw9_MatchLeast.B33 = true := by kernel_rfl
set_option maxHeartbeats 8000000 in
set_option maxRecDepth 100000 in
theorem hypercubelaw9_MatchLeast.calls (k : Nat) (a0 : Int) (a1 : Int) (A2 : Option Addr) (c2 : Nat) (l2 : List Int) (a3 : Int) (A4 : Option Addr) (c4 : Nat) (l4 : List Int) (r : Bool) (w : World) (hr2 : Kd.C (Kd.int .i64) w A2 l2.length l2) (hc2 : l2.length ≤ c2) (hr4 : Kd.C (Kd.int .i64) w A4 l4.length l4) (hc4 : l4.length ≤ c4) (h : hypercubelaw9_MatchLeast.f k a0 a1 l2 a3 l4 = some r) :
  Calls Try.prog 4 #[.int .i64 a0, .int .i64 a1, .slice A2 l2.length c2, .int .i64 a3, .slice A4 l4.length c4] w fun e w' => e = .returned (.bool r) ∧ Below w.heap.size w w' := by
 have HR2 := Aside0.mk hr2
 have HC2 := Aside0.mk hc2
 clear hr2 hc2
 have HR4 := Aside0.mk hr4
 have HC4 := Aside0.mk hc4
 clear hr4 hc4
 have HB := Aside0.mk (Below.refl w.heap.size w)
 have H : ((hypercubelaw9_known.f).bind fun t126 => (if t126 = true then ((hypercubelaw9_Costs.f a0 a1 l2 a3).bind fun t127 => ((match_Assign.f t127).bind fun bt130 => (if bt130.2.2 = true then (hypercubelaw9_MatchLeast.j0 k l4 t127 bt130.1 bt130.2.1 ((bt130.1.length : Int) != (t127.length : Int))) else (hypercubelaw9_MatchLeast.j0 k l4 t127 bt130.1 bt130.2.1 true)))) else (some false))) = some r := h
 clear h
 replace H := Option.bind_eq_some_iff.mp H
 obtain ⟨t126, A60, H⟩ := H
 replace H : (if t126 = true then ((hypercubelaw9_Costs.f a0 a1 l2 a3).bind fun t127 => ((match_Assign.f t127).bind fun bt130 => (if bt130.2.2 = true then (hypercubelaw9_MatchLeast.j0 k l4 t127 bt130.1 bt130.2.1 ((bt130.1.length : Int) != (t127.length : Int))) else (hypercubelaw9_MatchLeast.j0 k l4 t127 bt130.1 bt130.2.1 true)))) else (some false)) = some r := H
 have A6 := Aside0.mk A60
 clear A60
 by_cases c7 : t126 = true
 ·subst c7
  have H1 : ((hypercubelaw9_Costs.f a0 a1 l2 a3).bind fun t127 => ((match_Assign.f t127).bind fun bt130 => (if bt130.2.2 = true then (hypercubelaw9_MatchLeast.j0 k l4 t127 bt130.1 bt130.2.1 ((bt130.1.length : Int) != (t127.length : Int))) else (hypercubelaw9_MatchLeast.j0 k l4 t127 bt130.1 bt130.2.1 true)))) = some r := by rw [if_pos rfl] at H; exact H
  clear H
  have H := H1
  clear H1
  replace H := Option.bind_eq_some_iff.mp H
  obtain ⟨t127, A80, H⟩ := H
  replace H : ((match_Assign.f t127).bind fun bt130 => (if bt130.2.2 = true then (hypercubelaw9_MatchLeast.j0 k l4 t127 bt130.1 bt130.2.1 ((bt130.1.length : Int) != (t127.length : Int))) else (hypercubelaw9_MatchLeast.j0 k l4 t127 bt130.1 bt130.2.1 true))) = some r := H
  have A8 := Aside0.mk A80
  clear A80
  replace H := Option.bind_eq_some_iff.mp H
  obtain ⟨⟨t130, t131, t132⟩, A90, H⟩ := H
  replace H : (if t132 = true then (hypercubelaw9_MatchLeast.j0 k l4 t127 t130 t131 ((t130.length : Int) != (t127.length : Int))) else (hypercubelaw9_MatchLeast.j0 k l4 t127 t130 t131 true)) = some r := H
  have A9 := Aside0.mk A90
  clear A90
  have HC10 := Aside0.mk H
  clear H
  go_enter Try.func4, Try.ntmps4
  go_upto_region 5 with (first | ((with_reducible refine gate_callee (f := 13) rfl ?_); refine goesL_ (some 26) rfl rfl Try.func13 (by kernel_rfl) rfl #[] rfl (by (try simp only [List.map_toArray, List.map_cons, List.map_nil]); first | done | rfl | (simp only [List.length_drop, List.length_take]; rfl)) ?_; (with_reducible refine (hypercubelaw9_known.calls  true _ A6.out).mono ?_); rintro e w11 ⟨rfl, hb⟩; refine ⟨_, rfl, ?_⟩; have n0_ := Aside0.mk (below_step (by repeat (first | (with_reducible first | exact HB.out | apply below_alloc | apply pw_below_drewN | apply below_drew1) | exact HB.out)) hb); clear HB; have HB := n0_; clear n0_; (try clear hb); (try clear hb2); (try clear hk); (try clear hi)) | ((with_reducible refine gate_callee (f := 14) rfl ?_); refine goesL_ (some 32) rfl rfl Try.func14 (by kernel_rfl) rfl #[.int .i64 a0, .int .i64 a1, .slice A2 l2.length c2, .int .i64 a3] rfl (by (try simp only [List.map_toArray, List.map_cons, List.map_nil]); first | done | rfl | (simp only [List.length_drop, List.length_take]; rfl)) ?_; (with_reducible refine (hypercubelaw9_Costs.calls a0 a1 _ _ l2 a3 t127 _ ?side1 ?side2 A8.out).mono ?_); (case side1 => repeat (first | exact (Kd.C_below HR2.out HB.out) | (with_reducible refine Kd.C_alloc ?_ _) | (with_reducible refine Kd.C_drewN ?_ _) | (with_reducible refine Kd.C_drew ?_))); (case side2 => exact HC2.out); rintro e w12 ⟨v128, rfl, ho0, hb⟩; refine ⟨_, rfl, ?_⟩; have n0_ := Aside0.mk (Kd.S_lower ho0 (below_size (by repeat (first | (with_reducible first | exact HB.out | apply below_alloc | apply pw_below_drewN | apply below_drew1) | exact HB.out)))); have n1_ := Aside0.mk (below_step (by repeat (first | (with_reducible first | exact HB.out | apply below_alloc | apply pw_below_drewN | apply below_drew1) | exact HB.out)) hb); clear HB; have HO129 := n0_; have HB := n1_; clear n0_ n1_; (try clear hb); (try clear hb2); (try clear hk); (try clear hi); (try clear ho0); obtain ⟨Ao13, co13, eo13⟩ := Kd.S_slice HO129.out; subst eo13) | ((with_reducible refine gate_callee (f := 15) rfl ?_); refine goesL_ (some 35) rfl rfl Try.func15 (by kernel_rfl) rfl #[.slice Ao13 t127.length co13] rfl (by (try simp only [List.map_toArray, List.map_cons, List.map_nil]); first | done | rfl | (simp only [List.length_drop, List.length_take]; rfl)) ?_; (with_reducible refine (match_Assign.calls _ _ t127 t130 t131 t132 _ ?side1 ?side2 A9.out).mono ?_); (case side1 => repeat (first | exact (Kd.S_reads' HO129.out).2.2 | (with_reducible refine Kd.C_alloc ?_ _) | (with_reducible refine Kd.C_drewN ?_ _) | (with_reducible refine Kd.C_drew ?_))); (case side2 => exact (Kd.S_reads' HO129.out).2.1); rintro e w14 ⟨v133, rfl, ho0, hb⟩; refine ⟨_, rfl, ?_⟩; have n0_ := Aside0.mk (Kd.S_elder' (by (with_reducible repeat (first | apply Kd.S_alloc | apply Kd.S_drewN | apply Kd.S_drew)); exact HO129.out) (Kd.R_base ho0) hb); have n1_ := Aside0.mk (Kd.R_lower ho0 (below_size (by repeat (first | (with_reducible first | exact HB.out | apply below_alloc | apply pw_below_drewN | apply below_drew1) | exact HB.out)))); have n2_ := Aside0.mk (below_step (by repeat (first | (with_reducible first | exact HB.out | apply below_alloc | apply pw_below_drewN | apply below_drew1) | exact HB.out)) hb); clear HO129; clear HB; have HO129 := n0_; have HO134 := n1_; have HB := n2_; clear n0_ n1_ n2_; (try clear hb); (try clear hb2); (try clear hk); (try clear hi); (try clear ho0)))
  (try simp only [Act.put, List.setIfInBounds_toArray, List.set_cons_zero, List.set_cons_succ])
  go_cut [47] (fun v47 wc => ∃ (kq : Nat) (x47_9 : Bool), v47 = .bool x47_9 ∧ Aside0 (hypercubelaw9_MatchLeast.j0 kq l4 t127 t130 t131 x47_9 = some r) ∧ Aside0 (kq ≤ k) ∧ Aside0 (Kd.S (Kd.slice 3 (Kd.int .i64)) 22 wc w.heap.size (fun k_ => some k_ ≠ (v133 : Value).ownBlock) (.slice Ao13 t127.length co13) t127) ∧ Aside0 (Kd.R (Kd.int .i64) 3 wc w.heap.size (fun _ => True) v133 t130) ∧ Aside0 (Below w.heap.size w wc))
  case first =>
   have H := HC10.out
   clear HC10
   by_cases c15 : t132 = true
   ·subst c15
    have H1 : (hypercubelaw9_MatchLeast.j0 k l4 t127 t130 t131 ((t130.length : Int) != (t127.length : Int))) = some r := by rw [if_pos rfl] at H; exact H
    clear H
    have H := H1
    clear H1
    have H' := Aside0.mk H
    clear H
    obtain ⟨Ao16, co16, eo16⟩ := Kd.R_slice HO134.out
    subst eo16
    go_wp2
    go_meet
    case rel => exact ⟨_, (((t130.length : Int) != (t127.length : Int))), (by first | rfl | (simp; done) | (simp [*]; done)), H', ⟨by first | omega | exact Nat.le_refl _⟩, ⟨by (with_reducible repeat (first | apply Kd.S_alloc | apply Kd.S_drewN | apply Kd.S_drew)); exact Kd.S_mono HO129.out (fun _ hk => hk.2)⟩, ⟨by (with_reducible repeat (first | apply Kd.R_alloc | apply Kd.R_drewN | apply Kd.R_drew)); exact HO134.out⟩, ⟨by repeat (first | (with_reducible first | exact HB.out | apply below_alloc | apply pw_below_drewN | apply below_drew1) | exact HB.out)⟩⟩
   ·replace c15 := Bool.eq_false_iff.mpr c15
    subst c15
    have H1 : (hypercubelaw9_MatchLeast.j0 k l4 t127 t130 t131 true) = some r := by rw [if_neg (show ¬ (false = true) by decide)] at H; exact H
    clear H
    have H := H1
    clear H1
    have H' := Aside0.mk H
    clear H
    go_wp2
    go_meet
    case rel => exact ⟨_, (true), (by first | rfl | (simp; done) | (simp [*]; done)), H', ⟨by first | omega | exact Nat.le_refl _⟩, ⟨by (with_reducible repeat (first | apply Kd.S_alloc | apply Kd.S_drewN | apply Kd.S_drew)); exact Kd.S_mono HO129.out (fun _ hk => hk.2)⟩, ⟨by (with_reducible repeat (first | apply Kd.R_alloc | apply Kd.R_drewN | apply Kd.R_drew)); exact HO134.out⟩, ⟨by repeat (first | (with_reducible first | exact HB.out | apply below_alloc | apply pw_below_drewN | apply below_drew1) | exact HB.out)⟩⟩
  case rest =>
   clear HC10
   try clear c1
   try clear c2
   try clear p2
   try clear c4
   try clear c7
   try clear c13
   try clear c14
   try clear c15
   obtain ⟨kq, x47_9, rfl, HA, HJ9, HO_11, HO_12, HB⟩ := hcut
   cases kq with
   | zero => exact absurd HA.out (by simp [hypercubelaw9_MatchLeast.j0])
   | succ kj9 =>
    have H := HA.out
    clear HA
    simp only [hypercubelaw9_MatchLeast.j0] at H
    by_cases c17 : x47_9 = true
    ·subst c17
     have H1 : (some false) = some r := by rw [if_pos rfl] at H; exact H
     clear H
     have H := H1
     clear H1
     obtain rfl := Option.some.inj H
     go_wp2
     go_ret
     exact ⟨by first | rfl | (simp [errW_none, errW_some] <;> rfl) | (simp [*, errW_none, errW_some] <;> rfl), by repeat (first | (with_reducible first | exact HB.out | apply below_alloc | apply pw_below_drewN | apply below_drew1) | exact HB.out)⟩
    ·replace c17 := Bool.eq_false_iff.mpr c17
     subst c17
     have H1 : (if (t127.length : Int) = 0 then (some (t131 == 0)) else (if 0 < (t127.length : Int) then (if 0 ≤ ((rd_L1 t127 0).length : Int) then (if (((rd_L1 t127 0).length : Int) : Int).toNat ≤ 281474976710656 then (hypercubelaw9_MatchLeast.l0 kj9 l4 t127 t130 t131 ((rd_L1 t127 0).length : Int) 0 (List.replicate (((rd_L1 t127 0).length : Int) : Int).toNat false) 0) else (none)) else (none)) else (none))) = some r := by rw [if_neg (show ¬ (false = true) by decide)] at H; exact H
     clear H
     have H := H1
     clear H1
     by_cases c18 : (t127.length : Int) = 0
     ·rw [if_pos c18] at H
      have c18b0 : ((t127.length : Int) == 0) = true := beq_iff_eq.mpr c18
      have c18b1 : ((t127.length : Int) != 0) = false := bne_eq_false_iff_eq.mpr c18
      clear c18
      obtain rfl := Option.some.inj H
      go_wp2
      go_ret
      exact ⟨by first | rfl | (simp [errW_none, errW_some] <;> rfl) | (simp [*, errW_none, errW_some] <;> rfl), by repeat (first | (with_reducible first | exact HB.out | apply below_alloc | apply pw_below_drewN | apply below_drew1) | exact HB.out)⟩
     ·rw [if_neg c18] at H
      have c18b0 : ((t127.length : Int) == 0) = false := beq_eq_false_iff_ne.mpr c18
      have c18b1 : ((t127.length : Int) != 0) = true := bne_iff_ne.mpr c18
      have c18b2 : ¬ (t127 = []) := fun h_ => c18 (by rw [h_]; rfl)
      by_cases c19 : 0 < (t127.length : Int)
      ·rw [if_pos c19] at H
       have c19b0 : decide (0 < (t127.length : Int)) = true := decide_eq_true c19
       have c19b1 : decide (0 < t127.length) = true := decide_eq_true (by omega)
       clear c19
       by_cases c20 : 0 ≤ ((rd_L1 t127 0).length : Int)
       ·rw [if_pos c20] at H
        have c20b0 := eq_true c20
        have c20b1 : decide (0 ≤ ((rd_L1 t127 0).length : Int)) = true := decide_eq_true c20
        clear c20
        by_cases c21 : (((rd_L1 t127 0).length : Int) : Int).toNat ≤ 281474976710656
        ·rw [if_pos c21] at H
         have c21b0 := eq_true c21
         have c21b1 : decide ((((rd_L1 t127 0).length : Int) : Int).toNat ≤ 281474976710656) = true := decide_eq_true c21
         clear c21
         obtain ⟨y136, hy136⟩ : ∃ y_ : List Bool, y_ = (List.replicate (((rd_L1 t127 0).length : Int) : Int).toNat false) := ⟨_, rfl⟩
         replace H : (hypercubelaw9_MatchLeast.l0 kj9 l4 t127 t130 t131 ((rd_L1 t127 0).length : Int) 0 y136 0) = some r := by first | (rw [hy136]; with_reducible exact H) | (have H2_ := (Option.bind_some _ _).symm.trans H; rw [hy136]; with_reducible exact H2_) | (have H2_ := (Option.bind_some _ _).symm.trans H; with_reducible exact H2_) | with_reducible exact H | (rw [hy136]; exact H) | exact H
         have Ny136 := Aside0.mk hy136
         clear hy136
         have H' := Aside0.mk H
         clear H
         have p135 : 0 ≤ (0 : Int) := (by omega)
         have q135 : 0 < (t127.length : Int) := of_decide_eq_true (by first | (with_reducible assumption) | assumption)
         obtain ⟨ad135, A135_0, c135_0, e135, hx135_0, hl135_0, hi135_0⟩ := at_L1 (Kd.S_reads' HO_11.out).2.2 0 p135 q135
         cases e135
         obtain ⟨ce135, hce135, hMe135, hcc135⟩ := Kd.S_get HO_11.out [] 0 p135 (by first | exact q135 | exact of_decide_eq_true (by first | (with_reducible assumption) | assumption) | (have e_ := (Kd.S_reads' HO_11.out).1; omega))
         obtain ⟨ve135_0, rfl, ge135_0⟩ := hMe135
         have hv135_0 := hcc135 0 _ rfl
         rw [Nat.add_zero, show ((Kd.slice 3 (Kd.int .i64))).sz = 1 from rfl, Nat.mul_one] at hv135_0
         replace hv135_0 := Option.some.inj (hv135_0.symm.trans hx135_0)
         rw [hv135_0] at ge135_0
         have HL135_0 := Aside0.mk (show Kd.R (Kd.int .i64) 3 _ _ _ _ (rd_L1 t127 0) from ge135_0)
         clear hv135_0 ge135_0
         clear hcc135 hce135
         have qi135 : (0 < t127.length) = True := eq_true (by omega)
         (try rw [show ((0 : Int)).toNat = 0 from rfl] at hx135_0)
         (try rw [Addr.add_zero'] at hx135_0)
         have HR135_0 := Aside0.mk hi135_0
         have HC135_0 := Aside0.mk hl135_0
         clear hi135_0 hl135_0
         replace p135 := eq_true p135
         replace q135 := eq_true q135
         go_wp2_with (first | ((with_reducible refine gate_dst (N := 58) rfl ?_); (try (refine gate_guard (by rfl) ?_; dsimp only)); refine Kd.R_make Kd.bool _ 4 rfl (N := 58) rfl 30 _ _ rfl ((rd_L1 t127 0).length : Int) rfl rfl Try.underlying30 (.bool false) 1 info4 rfl (by decide) (by omega) false (ok := fun _ => True) (okp := fun _ => True) rfl (fun _ hk => hk) trivial (of_decide_eq_true (by first | (with_reducible assumption) | assumption)) (Nat.le_trans (Nat.mul_le_mul_right _ (of_decide_eq_true (by first | (with_reducible assumption) | assumption) : ((rd_L1 t127 0).length : Int).toNat ≤ 281474976710656)) (by omega)) (Below.refl _ _) (Nat.le_refl _) ?_; intro v137 w22 ho23 hb hg_ hnew_; clear hg_ hnew_; (first | rw [← Ny136.out] at ho23 | (simp only [Int.reduceToNat] at ho23; rw [← Ny136.out] at ho23)); have n0_ := Aside0.mk (Kd.S_below (by (with_reducible repeat (first | apply Kd.S_alloc | apply Kd.S_drewN | apply Kd.S_drew)); exact HO_11.out) hb); have n1_ := Aside0.mk (Kd.R_below (by (with_reducible repeat (first | apply Kd.R_alloc | apply Kd.R_drewN | apply Kd.R_drew)); exact HO_12.out) hb); have n2_ := Aside0.mk (Kd.R_below (by (with_reducible repeat (first | apply Kd.R_alloc | apply Kd.R_drewN | apply Kd.R_drew)); exact HL135_0.out) hb); have n3_ := Aside0.mk (Kd.R_lower ho23 (below_size (by repeat (first | (with_reducible first | exact HB.out | apply below_alloc | apply pw_below_drewN | apply below_drew1) | exact HB.out)))); have n4_ := Aside0.mk (Kd.C_below (by repeat (first | (with_reducible exact HR135_0.out) | (with_reducible refine Kd.C_alloc ?_ _) | (with_reducible refine Kd.C_drewN ?_ _) | (with_reducible refine Kd.C_drew ?_) | exact HR135_0.out)) hb); have n5_ := Aside0.mk (below_step (by repeat (first | (with_reducible first | exact HB.out | apply below_alloc | apply pw_below_drewN | apply below_drew1) | exact HB.out)) hb); clear HO_11; clear HO_12; clear HL135_0; clear HR135_0; clear HB; have HO_11 := n0_; have HO_12 := n1_; have HL135_0 := n2_; have HO138 := n3_; have HR135_0 := n4_; have HB := n5_; clear n0_ n1_ n2_ n3_ n4_ n5_; clear hb ho23))
         go_loopg [16, 18] kj9 (fun kq v16 v18 w' => ∃ (x16_2 : Int) (x17_2 : List Bool) (x18_2 : Int), v16 = .int .i64 x16_2 ∧ v18 = .int .i64 x18_2 ∧ Aside0 (hypercubelaw9_MatchLeast.l0 kq l4 t127 t130 t131 ((rd_L1 t127 0).length : Int) x16_2 x17_2 x18_2 = some r) ∧ Aside0 (kq ≤ kj9) ∧ Aside0 (Kd.S (Kd.slice 3 (Kd.int .i64)) 22 w' w.heap.size (fun k_ => some k_ ≠ (v133 : Value).ownBlock) (.slice (some ad135) t127.length co13) t127) ∧ Aside0 (Kd.R (Kd.int .i64) 3 w' w.heap.size (fun _ => True) v133 t130) ∧ Aside0 (Kd.R Kd.bool 4 w' w.heap.size (fun _ => True) v137 x17_2) ∧ Aside0 (Below w.heap.size w w'))
         case atStart => exact ⟨(0), (y136), (0), (by first | rfl | (simp; done) | (simp [*]; done)), (by first | rfl | (simp; done) | (simp [*]; done)), H', ⟨Nat.le_refl _⟩, ⟨by (with_reducible repeat (first | apply Kd.S_alloc | apply Kd.S_drewN | apply Kd.S_drew)); exact HO_11.out⟩, ⟨by (with_reducible repeat (first | apply Kd.R_alloc | apply Kd.R_drewN | apply Kd.R_drew)); exact HO_12.out⟩, ⟨by (with_reducible repeat (first | apply Kd.R_alloc | apply Kd.R_drewN | apply Kd.R_drew)); exact HO138.out⟩, ⟨by repeat (first | (with_reducible first | exact HB.out | apply below_alloc | apply pw_below_drewN | apply below_drew1) | exact HB.out)⟩⟩
         case round =>
          clear H'
          try clear c1
          try clear p1
          try clear q1
          try clear hx1
          try clear qi1
          try clear c2
          try clear p2
          try clear c4
          try clear c7
          try clear c13
          try clear p13
          try clear q13
          try clear hx13
          try clear qi13
          try clear c14
          try clear c15
          try clear c17
          try clear c18
          try clear c18b0
          try clear c18b1
          try clear c18b2
          try clear c19
          try clear c19b0
          try clear c19b1
          try clear c20
          try clear c20b0
          try clear c20b1
          try clear c21
          try clear c21b0
          try clear c21b1
          try clear hx135_0
          try clear p135
          try clear p2
          try clear q135
          obtain ⟨x16_2, x17_2, x18_2, rfl, rfl, HA, HK2, HO_11, HO_12, HO_17, HB⟩ := hrel
          cases gk with
          | zero => exact absurd HA.out (by simp [hypercubelaw9_MatchLeast.l0])
          | succ k2 =>
           have H := HA.out
           clear HA
           simp only [hypercubelaw9_MatchLeast.l0] at H
           by_cases c24 : x18_2 < (t130.length : Int)
           ·rw [if_pos c24] at H
            have c24b0 : decide (x18_2 < (t130.length : Int)) = true := decide_eq_true c24
            clear c24
            by_cases c25 : 0 ≤ x18_2
            ·rw [if_pos c25] at H
             have c25b0 : decide (0 ≤ x18_2) = true := decide_eq_true c25
             clear c25
             by_cases c26 : (rd t130 x18_2) < 0
             ·rw [if_pos c26] at H
              have c26b0 : decide ((rd t130 x18_2) < 0) = true := decide_eq_true c26
              clear c26
              obtain rfl := Option.some.inj H
              obtain ⟨Ao27, co27, eo27⟩ := Kd.R_slice HO_12.out
              subst eo27
              have p139 : 0 ≤ (x18_2 : Int) := of_decide_eq_true (by first | (with_reducible assumption) | assumption)
              have q139 : x18_2 < (t130.length : Int) := of_decide_eq_true (by first | (with_reducible assumption) | assumption)
              obtain ⟨ad139, e139, hx139_0⟩ := Kd.at_int (Kd.R_reads' HO_12.out).2.2 x18_2 p139 q139
              cases e139
              replace p139 := eq_true p139
              replace q139 := eq_true q139
              go_wp2
              go_ret
              exact ⟨by first | rfl | (simp [errW_none, errW_some] <;> rfl) | (simp [*, errW_none, errW_some] <;> rfl), by repeat (first | (with_reducible first | exact HB.out | apply below_alloc | apply pw_below_drewN | apply below_drew1) | exact HB.out)⟩
             ·rw [if_neg c26] at H
              have c26b0 : decide ((rd t130 x18_2) < 0) = false := decide_eq_false c26
              clear c26
              by_cases c28 : (rd t130 x18_2) ≥ ((rd_L1 t127 0).length : Int)
              ·rw [if_pos c28] at H
               have c28b0 : decide (((rd_L1 t127 0).length : Int) ≤ (rd t130 x18_2)) = true := decide_eq_true c28
               clear c28
               obtain rfl := Option.some.inj H
               obtain ⟨Ao29, co29, eo29⟩ := Kd.R_slice HO_12.out
               subst eo29
               have p139 : 0 ≤ (x18_2 : Int) := of_decide_eq_true (by first | (with_reducible assumption) | assumption)
               have q139 : x18_2 < (t130.length : Int) := of_decide_eq_true (by first | (with_reducible assumption) | assumption)
               obtain ⟨ad139, e139, hx139_0⟩ := Kd.at_int (Kd.R_reads' HO_12.out).2.2 x18_2 p139 q139
               cases e139
               replace p139 := eq_true p139
               replace q139 := eq_true q139
               have p140 : 0 ≤ (x18_2 : Int) := of_decide_eq_true (by first | (with_reducible assumption) | assumption)
               have q140 : x18_2 < (t130.length : Int) := of_decide_eq_true (by first | (with_reducible assumption) | assumption)
               obtain ⟨ad140, e140, hx140_0⟩ := Kd.at_int (Kd.R_reads' HO_12.out).2.2 x18_2 p140 q140
               obtain rfl : ad139 = ad140 := (by injection e140)
               replace p140 := eq_true p140
               replace q140 := eq_true q140
               go_wp2
               go_ret
               exact ⟨by first | rfl | (simp [errW_none, errW_some] <;> rfl) | (simp [*, errW_none, errW_some] <;> rfl), by repeat (first | (with_reducible first | exact HB.out | apply below_alloc | apply pw_below_drewN | apply below_drew1) | exact HB.out)⟩
              ·rw [if_neg c28] at H
               have c28b0 : decide (((rd_L1 t127 0).length : Int) ≤ (rd t130 x18_2)) = false := decide_eq_false c28
               clear c28
               by_cases c30 : 0 ≤ (rd t130 x18_2)
               ·rw [if_pos c30] at H
                have c30b0 : decide (0 ≤ (rd t130 x18_2)) = true := decide_eq_true c30
                clear c30
                by_cases c31 : (rd t130 x18_2) < (x17_2.length : Int)
                ·rw [if_pos c31] at H
                 have c31b0 : decide ((rd t130 x18_2) < (x17_2.length : Int)) = true := decide_eq_true c31
                 clear c31
                 obtain ⟨bq32, hbq32⟩ : ∃ b_ : Bool, b_ = (rdOf false x17_2 (rd t130 x18_2)) := ⟨_, rfl⟩
                 replace H : (if bq32 = true then (some false) else (if x18_2 < (t127.length : Int) then (if (rd t130 x18_2) < ((rd_L1 t127 x18_2).length : Int) then (hypercubelaw9_MatchLeast.l0 k2 l4 t127 t130 t131 ((rd_L1 t127 0).length : Int) (wrap64 (x16_2 + (rd (rd_L1 t127 x18_2) (rd t130 x18_2)))) (x17_2.set ((rd t130 x18_2) : Int).toNat true) (wrap64 (x18_2 + 1))) else (none)) else (none))) = some r := by rw [← hbq32] at H; exact H
                 have Nbq32 := Aside0.mk hbq32
                 clear hbq32
                 by_cases c33 : bq32 = true
                 ·subst c33
                  have H1 : (some false) = some r := by rw [if_pos rfl] at H; exact H
                  clear H
                  have H := H1
                  clear H1
                  obtain rfl := Option.some.inj H
                  obtain ⟨Ao34, co34, eo34⟩ := Kd.R_slice HO_12.out
                  subst eo34
                  have p139 : 0 ≤ (x18_2 : Int) := of_decide_eq_true (by first | (with_reducible assumption) | assumption)
                  have q139 : x18_2 < (t130.length : Int) := of_decide_eq_true (by first | (with_reducible assumption) | assumption)
                  obtain ⟨ad139, e139, hx139_0⟩ := Kd.at_int (Kd.R_reads' HO_12.out).2.2 x18_2 p139 q139
                  cases e139
                  replace p139 := eq_true p139
                  replace q139 := eq_true q139
                  have p140 : 0 ≤ (x18_2 : Int) := of_decide_eq_true (by first | (with_reducible assumption) | assumption)
                  have q140 : x18_2 < (t130.length : Int) := of_decide_eq_true (by first | (with_reducible assumption) | assumption)
                  obtain ⟨ad140, e140, hx140_0⟩ := Kd.at_int (Kd.R_reads' HO_12.out).2.2 x18_2 p140 q140
                  obtain rfl : ad139 = ad140 := (by injection e140)
                  replace p140 := eq_true p140
                  replace q140 := eq_true q140
                  have p141 : 0 ≤ (x18_2 : Int) := of_decide_eq_true (by first | (with_reducible assumption) | assumption)
                  have q141 : x18_2 < (t130.length : Int) := of_decide_eq_true (by first | (with_reducible assumption) | assumption)
                  obtain ⟨ad141, e141, hx141_0⟩ := Kd.at_int (Kd.R_reads' HO_12.out).2.2 x18_2 p141 q141
                  obtain rfl : ad139 = ad141 := (by injection e141)
                  replace p141 := eq_true p141
                  replace q141 := eq_true q141
                  obtain ⟨Ao35, co35, eo35⟩ := Kd.R_slice HO_17.out
                  subst eo35
                  have p142 : 0 ≤ ((rd t130 x18_2) : Int) := of_decide_eq_true (by first | (with_reducible assumption) | assumption)
                  have q142 : (rd t130 x18_2) < (x17_2.length : Int) := of_decide_eq_true (by first | (with_reducible assumption) | assumption)
                  obtain ⟨ad142, e142, hx142_0⟩ := Kd.at_bool (Kd.R_reads' HO_17.out).2.2 (rd t130 x18_2) p142 q142
                  (try rw [← Nbq32.out] at hx142_0)
                  cases e142
                  replace p142 := eq_true p142
                  replace q142 := eq_true q142
                  go_wp2
                  go_ret
                  exact ⟨by first | rfl | (simp [errW_none, errW_some] <;> rfl) | (simp [*, errW_none, errW_some] <;> rfl), by repeat (first | (with_reducible first | exact HB.out | apply below_alloc | apply pw_below_drewN | apply below_drew1) | exact HB.out)⟩
                 ·replace c33 := Bool.eq_false_iff.mpr c33
                  subst c33
                  have H1 : (if x18_2 < (t127.length : Int) then (if (rd t130 x18_2) < ((rd_L1 t127 x18_2).length : Int) then (hypercubelaw9_MatchLeast.l0 k2 l4 t127 t130 t131 ((rd_L1 t127 0).length : Int) (wrap64 (x16_2 + (rd (rd_L1 t127 x18_2) (rd t130 x18_2)))) (x17_2.set ((rd t130 x18_2) : Int).toNat true) (wrap64 (x18_2 + 1))) else (none)) else (none)) = some r := by rw [if_neg (show ¬ (false = true) by decide)] at H; exact H
                  clear H
                  have H := H1
                  clear H1
                  obtain ⟨y144, hy144⟩ : ∃ y_ : List Bool, y_ = (x17_2.set ((rd t130 x18_2) : Int).toNat true) := ⟨_, rfl⟩
                  replace H : (if x18_2 < (t127.length : Int) then (if (rd t130 x18_2) < ((rd_L1 t127 x18_2).length : Int) then (hypercubelaw9_MatchLeast.l0 k2 l4 t127 t130 t131 ((rd_L1 t127 0).length : Int) (wrap64 (x16_2 + (rd (rd_L1 t127 x18_2) (rd t130 x18_2)))) y144 (wrap64 (x18_2 + 1))) else (none)) else (none)) = some r := by first | (rw [hy144]; with_reducible exact H) | (have H2_ := (Option.bind_some _ _).symm.trans H; rw [hy144]; with_reducible exact H2_) | (have H2_ := (Option.bind_some _ _).symm.trans H; with_reducible exact H2_) | with_reducible exact H | (rw [hy144]; exact H) | exact H
                  have Ny144 := Aside0.mk hy144
                  clear hy144
                  by_cases c37 : x18_2 < (t127.length : Int)
                  ·rw [if_pos c37] at H
                   have c37b0 : decide (x18_2 < (t127.length : Int)) = true := decide_eq_true c37
                   clear c37
                   by_cases c38 : (rd t130 x18_2) < ((rd_L1 t127 x18_2).length : Int)
                   ·rw [if_pos c38] at H
                    have c38b0 : decide ((rd t130 x18_2) < ((rd_L1 t127 x18_2).length : Int)) = true := decide_eq_true c38
                    clear c38
                    have H' := Aside0.mk H
                    clear H
                    obtain ⟨Ao39, co39, eo39⟩ := Kd.R_slice HO_12.out
                    subst eo39
                    have p139 : 0 ≤ (x18_2 : Int) := of_decide_eq_true (by first | (with_reducible assumption) | assumption)
                    have q139 : x18_2 < (t130.length : Int) := of_decide_eq_true (by first | (with_reducible assumption) | assumption)
                    obtain ⟨ad139, e139, hx139_0⟩ := Kd.at_int (Kd.R_reads' HO_12.out).2.2 x18_2 p139 q139
                    cases e139
                    replace p139 := eq_true p139
                    replace q139 := eq_true q139
                    have p140 : 0 ≤ (x18_2 : Int) := of_decide_eq_true (by first | (with_reducible assumption) | assumption)
                    have q140 : x18_2 < (t130.length : Int) := of_decide_eq_true (by first | (with_reducible assumption) | assumption)
                    obtain ⟨ad140, e140, hx140_0⟩ := Kd.at_int (Kd.R_reads' HO_12.out).2.2 x18_2 p140 q140
                    obtain rfl : ad139 = ad140 := (by injection e140)
                    replace p140 := eq_true p140
                    replace q140 := eq_true q140
                    have p141 : 0 ≤ (x18_2 : Int) := of_decide_eq_true (by first | (with_reducible assumption) | assumption)
                    have q141 : x18_2 < (t130.length : Int) := of_decide_eq_true (by first | (with_reducible assumption) | assumption)
                    obtain ⟨ad141, e141, hx141_0⟩ := Kd.at_int (Kd.R_reads' HO_12.out).2.2 x18_2 p141 q141
                    obtain rfl : ad139 = ad141 := (by injection e141)
                    replace p141 := eq_true p141
                    replace q141 := eq_true q141
                    obtain ⟨Ao40, co40, eo40⟩ := Kd.R_slice HO_17.out
                    subst eo40
                    have p142 : 0 ≤ ((rd t130 x18_2) : Int) := of_decide_eq_true (by first | (with_reducible assumption) | assumption)
                    have q142 : (rd t130 x18_2) < (x17_2.length : Int) := of_decide_eq_true (by first | (with_reducible assumption) | assumption)
                    obtain ⟨ad142, e142, hx142_0⟩ := Kd.at_bool (Kd.R_reads' HO_17.out).2.2 (rd t130 x18_2) p142 q142
                    (try rw [← Nbq32.out] at hx142_0)
                    cases e142
                    replace p142 := eq_true p142
                    replace q142 := eq_true q142
                    have p143 : 0 ≤ (x18_2 : Int) := of_decide_eq_true (by first | (with_reducible assumption) | assumption)
                    have q143 : x18_2 < (t130.length : Int) := of_decide_eq_true (by first | (with_reducible assumption) | assumption)
                    obtain ⟨ad143, e143, hx143_0⟩ := Kd.at_int (Kd.R_reads' HO_12.out).2.2 x18_2 p143 q143
                    obtain rfl : ad139 = ad143 := (by injection e143)
                    replace p143 := eq_true p143
                    replace q143 := eq_true q143
                    have p36 : 0 ≤ ((rd t130 x18_2) : Int) := of_decide_eq_true (by first | (with_reducible assumption) | assumption)
                    have q36 : ((rd t130 x18_2) : Int) < ((x17_2.length : Int) : Int) := of_decide_eq_true (by first | (with_reducible assumption) | assumption)
                    obtain ⟨go36, co36, eo36, gb36, gl36, cl36, HG36⟩ := Kd.R_form HO_17.out (by omega)
                    (first | cases eo36 | (injection eo36 with ea_ en_ ec_; (first | subst ea_ | (injection ea_ with ea_; subst ea_)); subst ec_; clear en_))
                    have GB36 := Aside0.mk gb36
                    have GG36 := Aside0.mk HG36
                    clear gb36 gl36 HG36
                    (first | simp only [add_plain] at hx142_0 | skip)
                    obtain ⟨hx36_0, hf36_0⟩ := Kd.R_celln false HO_17.out ((rd t130 x18_2) : Int) p36 q36
                    replace p36 := eq_true p36
                    replace q36 := eq_true q36
                    have HP41 := Kd.R_putg HO_17.out ((rd t130 x18_2) : Int) true
                    try go_wp2_with (first | ((with_reducible refine gate_store (t := 4) (p := 92) rfl ?_); refine store_event (t := 4) (p := 92) (v := ?vo_w42) (w1 := (wr.setCell ⟨go36, ((rd t130 x18_2) : Int).toNat, none⟩ (.bool true))) ?hg ?ho ?hn ?hr ?_; (case ho => rfl); (case hg => rfl); (case hn => rfl); (case hr => first | (go_simp; done) | (go_simp; rfl)); intro w42 hw; have hg : wr.grownBy w42 (some go36) := (by rw [hw]; exact HP41.2); have hp_ : Kd.R Kd.bool 4 w42 w.heap.size (fun _ => True) (.slice (some ⟨go36, 0, none⟩) x17_2.length co40) y144 := (by rw [hw, Ny144.out]; exact HP41.1); clear HP41; have n0_ := Aside0.mk (Kd.S_over' (v := (.slice (some ⟨go36, 0, none⟩) x17_2.length co40)) (by (with_reducible repeat (first | apply Kd.S_alloc | apply Kd.S_drewN | apply Kd.S_drew)); exact HO_11.out) (Kd.R_typed HO_17.out) (by decide) hg); have n1_ := Aside0.mk (Kd.R_over' (v := (.slice (some ⟨go36, 0, none⟩) x17_2.length co40)) (by (with_reducible repeat (first | apply Kd.R_alloc | apply Kd.R_drewN | apply Kd.R_drew)); exact HO_12.out) (Kd.R_typed HO_17.out) (by decide) hg); have n2_ := Aside0.mk (hp_); have n3_ := Aside0.mk ((by rw [hw]; exact below_set (HB.out) GB36.out : Below w.heap.size w w42)); clear HO_11; clear HO_12; clear HO_17; clear HB; have HO_11 := n0_; have HO_12 := n1_; have HO_17 := n2_; have HB := n3_; clear n0_ n1_ n2_ n3_; clear hg hw hp_))
                    have n0_ := Aside0.mk (Kd.S_drew HO_11.out)
                    have n1_ := Aside0.mk (Kd.R_drew HO_12.out)
                    have n2_ := Aside0.mk (Kd.R_drew HO_17.out)
                    have n3_ := Aside0.mk (below_drew1 HB.out)
                    clear HO_11
                    clear HO_12
                    clear HO_17
                    clear HB
                    have HO_11 := n0_
                    have HO_12 := n1_
                    have HO_17 := n2_
                    have HB := n3_
                    clear n0_ n1_ n2_ n3_
                    have p145 : 0 ≤ (x18_2 : Int) := of_decide_eq_true (by first | (with_reducible assumption) | assumption)
                    have q145 : x18_2 < (t127.length : Int) := of_decide_eq_true (by first | (with_reducible assumption) | assumption)
                    obtain ⟨ad145, A145_0, c145_0, e145, hx145_0, hl145_0, hi145_0⟩ := at_L1 (Kd.S_reads' HO_11.out).2.2 x18_2 p145 q145
                    obtain rfl : ad135 = ad145 := (by injection e145)
                    obtain ⟨ce145, hce145, hMe145, hcc145⟩ := Kd.S_get HO_11.out [] x18_2 p145 (by first | exact q145 | exact of_decide_eq_true (by first | (with_reducible assumption) | assumption) | (have e_ := (Kd.S_reads' HO_11.out).1; omega))
                    obtain ⟨ve145_0, rfl, ge145_0⟩ := hMe145
                    have hv145_0 := hcc145 0 _ rfl
                    rw [Nat.add_zero, show ((Kd.slice 3 (Kd.int .i64))).sz = 1 from rfl, Nat.mul_one] at hv145_0
                    replace hv145_0 := Option.some.inj (hv145_0.symm.trans hx145_0)
                    rw [hv145_0] at ge145_0
                    have HL145_0 := Aside0.mk (show Kd.R (Kd.int .i64) 3 _ _ _ _ (rd_L1 t127 x18_2) from ge145_0)
                    clear hv145_0 ge145_0
                    clear hcc145 hce145
                    have HR145_0 := Aside0.mk hi145_0
                    have HC145_0 := Aside0.mk hl145_0
                    clear hi145_0 hl145_0
                    replace p145 := eq_true p145
                    replace q145 := eq_true q145
                    have p146 : 0 ≤ (x18_2 : Int) := of_decide_eq_true (by first | (with_reducible assumption) | assumption)
                    have q146 : x18_2 < (t130.length : Int) := of_decide_eq_true (by first | (with_reducible assumption) | assumption)
                    obtain ⟨ad146, e146, hx146_0⟩ := Kd.at_int (Kd.R_reads' HO_12.out).2.2 x18_2 p146 q146
                    obtain rfl : ad139 = ad146 := (by injection e146)
                    replace p146 := eq_true p146
                    replace q146 := eq_true q146
                    have p147 : 0 ≤ ((rd t130 x18_2) : Int) := of_decide_eq_true (by first | (with_reducible assumption) | assumption)
                    have q147 : (rd t130 x18_2) < ((rd_L1 t127 x18_2).length : Int) := of_decide_eq_true (by first | (with_reducible assumption) | assumption)
                    obtain ⟨ad147, e147, hx147_0⟩ := Kd.at_int (by repeat (first | (with_reducible exact HR145_0.out) | (with_reducible refine Kd.C_alloc ?_ _) | (with_reducible refine Kd.C_drewN ?_ _) | (with_reducible refine Kd.C_drew ?_) | exact HR145_0.out)) (rd t130 x18_2) p147 q147
                    cases e147
                    replace p147 := eq_true p147
                    replace q147 := eq_true q147
                    refine start_ (n := 13) (S := fun w' => w'.cell? (ad135.add (x18_2).toNat) = some (.slice (some ad147) (rd_L1 t127 x18_2).length c145_0) ∧ w'.cell? (ad139.add (x18_2).toNat) = some (.int .i64 (rd t130 x18_2)) ∧ w'.cell? (ad147.add ((rd t130 x18_2)).toNat) = some (.int .i64 (rd (rd_L1 t127 x18_2) (rd t130 x18_2)))) (ds := []) #[false, false, false, false, false, false, false, false, false, false, false, false, false] (by kernel_rfl) rfl rfl ⟨hx145_0, hx146_0, hx147_0⟩ (fun hHeld => ?_); refine with_tabW hypercubelaw9_MatchLeast.tab18 hypercubelaw9_MatchLeast.bits18 (fun HT_ HW_ => ?_)
                    generalize w42.drew = w43 at HO_11 HO_12 HO_17 HB HL145_0 HR145_0 hx145_0 hx146_0 hx147_0 hHeld ⊢
                    refine pure_ (i := 0) (N := some 93) (v := ?_) (a' := ?_) #[true, false, false, false, false, false, false, false, false, false, false, false, false] rfl rfl (any_of HT_.out (by kernel_rfl)) (fun _ _ _ h => h) (Or.inl ⟨by rfl, ?_⟩) ?_ ?_
                    rotate_left
                    ·intro w'
                     go_simp
                     with_reducible rfl
                    rotate_left
                    ·simp only [Act.put, List.setIfInBounds_toArray, List.set_cons_zero, List.set_cons_succ, i64_w, i32_w]
                     rfl
                    refine pure_ (i := 1) (N := some 94) (v := ?_) (a' := ?_) #[true, true, false, false, false, false, false, false, false, false, false, false, false] rfl rfl (any_of HT_.out (by kernel_rfl)) (fun _ _ _ h => h) (Or.inl ⟨by rfl, ?_⟩) ?_ ?_
                    rotate_left
                    ·intro w'
                     go_simp
                     with_reducible rfl
                    rotate_left
                    ·simp only [Act.put, List.setIfInBounds_toArray, List.set_cons_zero, List.set_cons_succ, i64_w, i32_w]
                     rfl
                    refine pure_ (i := 2) (N := some 95) (v := ?_) (a' := ?_) #[true, true, true, false, false, false, false, false, false, false, false, false, false] rfl rfl (any_of HT_.out (by kernel_rfl)) (fun _ _ _ h => h) (Or.inl ⟨by rfl, ?_⟩) ?_ ?_
                    rotate_left
                    ·intro w'
                     go_simp
                     with_reducible rfl
                    rotate_left
                    ·simp only [Act.put, List.setIfInBounds_toArray, List.set_cons_zero, List.set_cons_succ, i64_w, i32_w]
                     rfl
                    refine pure_ (i := 3) (N := some 96) (v := ?_) (a' := ?_) #[true, true, true, true, false, false, false, false, false, false, false, false, false] rfl rfl (any_of HT_.out (by kernel_rfl)) (fun _ _ _ h => h) (Or.inl ⟨by rfl, ?_⟩) ?_ ?_
                    rotate_left
                    ·intro w'
                     go_simp
                     with_reducible rfl
                    rotate_left
                    ·simp only [Act.put, List.setIfInBounds_toArray, List.set_cons_zero, List.set_cons_succ, i64_w, i32_w]
                     rfl
                    refine pure_ (i := 5) (N := some 98) (v := ?_) (a' := ?_) #[true, true, true, true, false, true, false, false, false, false, false, false, false] rfl rfl (any_of HT_.out (by kernel_rfl)) (fun _ _ _ h => h) (Or.inl ⟨by rfl, ?_⟩) ?_ ?_
                    rotate_left
                    ·intro w'
                     go_simp
                     with_reducible rfl
                    rotate_left
                    ·simp only [Act.put, List.setIfInBounds_toArray, List.set_cons_zero, List.set_cons_succ, i64_w, i32_w]
                     rfl
                    refine pure_ (i := 6) (N := some 99) (v := ?_) (a' := ?_) #[true, true, true, true, false, true, true, false, false, false, false, false, false] rfl rfl (any_of HT_.out (by kernel_rfl)) (fun _ _ _ h => h) (Or.inl ⟨by rfl, ?_⟩) ?_ ?_
                    rotate_left
                    ·intro w'
                     go_simp
                     with_reducible rfl
                    rotate_left
                    ·simp only [Act.put, List.setIfInBounds_toArray, List.set_cons_zero, List.set_cons_succ, i64_w, i32_w]
                     rfl
                    refine pure_ (i := 7) (N := some 100) (v := ?_) (a' := ?_) #[true, true, true, true, false, true, true, true, false, false, false, false, false] rfl rfl (any_of HT_.out (by kernel_rfl)) (fun _ _ _ h => h) (Or.inl ⟨by rfl, ?_⟩) ?_ ?_
                    rotate_left
                    ·intro w'
                     go_simp
                     with_reducible rfl
                    rotate_left
                    ·simp only [Act.put, List.setIfInBounds_toArray, List.set_cons_zero, List.set_cons_succ, i64_w, i32_w]
                     rfl
                    refine take_ (i := 4) (N := some 97) (v := ?_) (a' := ?_) #[true, true, true, true, true, true, true, true, false, false, false, false, false] rfl rfl (take_ofW HT_.out HW_.out (by kernel_rfl)) (fun _ _ _ h => h) (Or.inl ⟨by rfl, ?_⟩) hHeld ?_ ?_
                    rotate_left
                    ·rintro w' ⟨s0, s1, s2⟩
                     go_simp
                     with_reducible rfl
                    rotate_left
                    ·simp only [Act.put, List.setIfInBounds_toArray, List.set_cons_zero, List.set_cons_succ, i64_w, i32_w]
                     rfl
                    refine take_ (i := 8) (N := some 101) (v := ?_) (a' := ?_) #[true, true, true, true, true, true, true, true, true, false, false, false, false] rfl rfl (take_ofW HT_.out HW_.out (by kernel_rfl)) (fun _ _ _ h => h) (Or.inl ⟨by rfl, ?_⟩) hHeld ?_ ?_
                    rotate_left
                    ·rintro w' ⟨s0, s1, s2⟩
                     go_simp
                     with_reducible rfl
                    rotate_left
                    ·simp only [Act.put, List.setIfInBounds_toArray, List.set_cons_zero, List.set_cons_succ, i64_w, i32_w]
                     rfl
                    refine pure_ (i := 9) (N := some 102) (v := ?_) (a' := ?_) #[true, true, true, true, true, true, true, true, true, true, false, false, false] rfl rfl (any_of HT_.out (by kernel_rfl)) (fun _ _ _ h => h) (Or.inl ⟨by rfl, ?_⟩) ?_ ?_
                    rotate_left
                    ·intro w'
                     go_simp
                     with_reducible rfl
                    rotate_left
                    ·simp only [Act.put, List.setIfInBounds_toArray, List.set_cons_zero, List.set_cons_succ, i64_w, i32_w]
                     rfl
                    refine take_ (i := 10) (N := some 103) (v := ?_) (a' := ?_) #[true, true, true, true, true, true, true, true, true, true, true, false, false] rfl rfl (take_ofW HT_.out HW_.out (by kernel_rfl)) (fun _ _ _ h => h) (Or.inl ⟨by rfl, ?_⟩) hHeld ?_ ?_
                    rotate_left
                    ·rintro w' ⟨s0, s1, s2⟩
                     go_simp
                     with_reducible rfl
                    rotate_left
                    ·simp only [Act.put, List.setIfInBounds_toArray, List.set_cons_zero, List.set_cons_succ, i64_w, i32_w]
                     rfl
                    refine pure_ (i := 11) (N := some 104) (v := ?_) (a' := ?_) #[true, true, true, true, true, true, true, true, true, true, true, true, false] rfl rfl (any_of HT_.out (by kernel_rfl)) (fun _ _ _ h => h) (Or.inl ⟨by rfl, ?_⟩) ?_ ?_
                    rotate_left
                    ·intro w'
                     go_simp
                     with_reducible rfl
                    rotate_left
                    ·simp only [Act.put, List.setIfInBounds_toArray, List.set_cons_zero, List.set_cons_succ, i64_w, i32_w]
                     rfl
                    refine pure_ (i := 12) (N := some 16) (v := ?_) (a' := ?_) #[true, true, true, true, true, true, true, true, true, true, true, true, true] rfl rfl (any_of HT_.out (by kernel_rfl)) (fun _ _ _ h => h) (Or.inl ⟨by rfl, ?_⟩) ?_ ?_
                    rotate_left
                    ·intro w'
                     go_simp
                     with_reducible rfl
                    rotate_left
                    ·simp only [Act.put, List.setIfInBounds_toArray, List.set_cons_zero, List.set_cons_succ, i64_w, i32_w]
                     rfl
                    refine done_ (done_of HT_.out (by kernel_rfl)) ?_
                    try go_wp2
                    go_roundg k2
                    case measure => have := HJ9.out; have := HK2.out; omega
                    case rel => exact ⟨(wrap64 (x16_2 + (rd (rd_L1 t127 x18_2) (rd t130 x18_2)))), (y144), (wrap64 (x18_2 + 1)), (by first | rfl | (simp; done) | (simp [*]; done)), (by first | rfl | (simp; done) | (simp [*]; done)), H', ⟨by have := HJ9.out; have := HK2.out; omega⟩, ⟨by (with_reducible repeat (first | apply Kd.S_alloc | apply Kd.S_drewN | apply Kd.S_drew)); exact HO_11.out⟩, ⟨by (with_reducible repeat (first | apply Kd.R_alloc | apply Kd.R_drewN | apply Kd.R_drew)); exact HO_12.out⟩, ⟨by (with_reducible repeat (first | apply Kd.R_alloc | apply Kd.R_drewN | apply Kd.R_drew)); exact HO_17.out⟩, ⟨by repeat (first | (with_reducible first | exact HB.out | apply below_alloc | apply pw_below_drewN | apply below_drew1) | exact HB.out)⟩⟩
                   ·rw [if_neg c38] at H
                    exact absurd H (by simp)
                  ·rw [if_neg c37] at H
                   exact absurd H (by simp)
                ·rw [if_neg c31] at H
                 exact absurd H (by simp)
               ·rw [if_neg c30] at H
                exact absurd H (by simp)
            ·rw [if_neg c25] at H
             exact absurd H (by simp)
           ·rw [if_neg c24] at H
            have c24b0 : decide (x18_2 < (t130.length : Int)) = false := decide_eq_false c24
            clear c24
            have H' := Aside0.mk H
            clear H
            obtain ⟨Ao44, co44, eo44⟩ := Kd.R_slice HO_12.out
            subst eo44
            go_wp2
            go_loopg [19, 20] k2 (fun kq v19 v20 w' => ∃ (x19_3 : List Int) (x20_3 : Int), v20 = .int .i64 x20_3 ∧ Aside0 (hypercubelaw9_MatchLeast.l1 kq l4 t127 t130 t131 ((rd_L1 t127 0).length : Int) x16_2 x19_3 x20_3 = some r) ∧ Aside0 (kq ≤ k2) ∧ Aside0 (Kd.S (Kd.slice 3 (Kd.int .i64)) 22 w' w.heap.size (fun k_ => some k_ ≠ ((.slice Ao44 t130.length co44) : Value).ownBlock ∧ some k_ ≠ (v19 : Value).ownBlock) (.slice (some ad135) t127.length co13) t127) ∧ Aside0 (Kd.R (Kd.int .i64) 3 w' w.heap.size (fun k_ => some k_ ≠ (v19 : Value).ownBlock) (.slice Ao44 t130.length co44) t130) ∧ Aside0 (Kd.R (Kd.int .i64) 3 w' w.heap.size (fun k_ => some k_ ≠ ((.slice Ao44 t130.length co44) : Value).ownBlock) v19 x19_3) ∧ Aside0 (Below w.heap.size w w'))
            case atStart => exact ⟨(([] : List Int)), (0), (by first | rfl | (simp; done) | (simp [*]; done)), H', ⟨Nat.le_refl _⟩, ⟨by (with_reducible repeat (first | apply Kd.S_alloc | apply Kd.S_drewN | apply Kd.S_drew)); exact Kd.S_mono HO_11.out (fun _ hk => ⟨hk, (by simp [Value.ownBlock])⟩)⟩, ⟨by (with_reducible repeat (first | apply Kd.R_alloc | apply Kd.R_drewN | apply Kd.R_drew)); exact Kd.R_mono HO_12.out (fun _ hk => (by simp [Value.ownBlock]))⟩, ⟨by first | exact Kd.R_nil _ _ _ _ _ | exact Kd.N_nil _ _ _ _ _ | exact Kd.V_nil _ _ _ _ _ | exact Kd.Q_nil _ _ _ _ _ | exact Kd.S_nil _ _ _ _ _⟩, ⟨by repeat (first | (with_reducible first | exact HB.out | apply below_alloc | apply pw_below_drewN | apply below_drew1) | exact HB.out)⟩⟩
            case round =>
             clear H'
             try clear c1
             try clear p1
             try clear q1
             try clear hx1
             try clear qi1
             try clear c2
             try clear p2
             try clear c3
             try clear p3
             try clear q3
             try clear hx3
             try clear c4
             try clear p6
             try clear c7
             try clear c13
             try clear p13
             try clear q13
             try clear hx13
             try clear qi13
             try clear c14
             try clear p14
             try clear q14
             try clear hx14
             try clear c15
             try clear c17
             try clear c18
             try clear c18b0
             try clear c18b1
             try clear c18b2
             try clear c19
             try clear c19b0
             try clear c19b1
             try clear c20
             try clear c20b0
             try clear c20b1
             try clear c21
             try clear c21b0
             try clear c21b1
             try clear c24
             try clear c24b0
             try clear c25
             try clear c25b0
             try clear c26
             try clear c26b0
             try clear c28
             try clear c28b0
             try clear c30
             try clear c30b0
             try clear c31
             try clear c31b0
             try clear q32
             try clear c33
             try clear p36
             try clear q36
             try clear hx36
             try clear hf36
             try clear c37
             try clear c37b0
             try clear c38
             try clear c38b0
             try clear hx135_0
             try clear hx139_0
             try clear hx140_0
             try clear hx141_0
             try clear hx142_0
             try clear hx143_0
             try clear hx145_0
             try clear hx146_0
             try clear hx147_0
             try clear hx36_0
             try clear p1
             try clear p13
             try clear p135
             try clear p139
             try clear p140
             try clear p141
             try clear p142
             try clear p143
             try clear p145
             try clear p146
             try clear p147
             try clear p2
             try clear p36
             try clear q1
             try clear q13
             try clear q135
             try clear q139
             try clear q140
             try clear q141
             try clear q142
             try clear q143
             try clear q145
             try clear q146
             try clear q147
             try clear q36
             obtain ⟨x19_3, x20_3, rfl, HA, HK3, HO_11, HO_12, HO_19, HB⟩ := hrel
             cases gk with
             | zero => exact absurd HA.out (by simp [hypercubelaw9_MatchLeast.l1])
             | succ k3 =>
              have H := HA.out
              clear HA
              simp only [hypercubelaw9_MatchLeast.l1] at H
              by_cases c45 : x20_3 < ((rd_L1 t127 0).length : Int)
              ·rw [if_pos c45] at H
               have c45b0 : decide (x20_3 < ((rd_L1 t127 0).length : Int)) = true := decide_eq_true c45
               clear c45
               by_cases c46 : x19_3.length < 17592186044416
               ·rw [if_pos c46] at H
                have LMc46 := Aside0.mk c46
                clear c46
                obtain ⟨y148, hy148⟩ : ∃ y_ : List Int, y_ = (x19_3 ++ [x20_3]) := ⟨_, rfl⟩
                replace H : (hypercubelaw9_MatchLeast.l1 k3 l4 t127 t130 t131 ((rd_L1 t127 0).length : Int) x16_2 y148 (wrap64 (x20_3 + 1))) = some r := by first | (rw [hy148]; with_reducible exact H) | (have H2_ := (Option.bind_some _ _).symm.trans H; rw [hy148]; with_reducible exact H2_) | (have H2_ := (Option.bind_some _ _).symm.trans H; with_reducible exact H2_) | with_reducible exact H | (rw [hy148]; exact H) | exact H
                have Ny148 := Aside0.mk hy148
                clear hy148
                have H' := Aside0.mk H
                clear H
                go_wp2_with (first | ((with_reducible refine gate_builtin (b := .append) (xs := #[.tmp 110, .tmp 112]) rfl ?_); (try (refine gate_guard (by rfl) ?_; dsimp only)); at_builtin; refine Kd.R_append (Kd.int .i64) (w0 := w) w.heap.size rfl (.tmp 110) (.tmp 112) 22 3 (.int .i64 0) 8 rfl Try.underlying22 info3 rfl (by decide) (by omega) u19 x19_3 x20_3 [.int .i64 x20_3] (fun k_ => some k_ ≠ (.slice Ao44 t130.length co44 : Value).ownBlock) (fun _ => False) rfl rfl ?aP (fun _ hk => hk.elim) ?aF ?aO ?aB ?aS ?aL ?_; (case aP => exact rfl); (case aB => exact (by repeat (first | (with_reducible first | exact HB.out | apply below_alloc | apply pw_below_drewN | apply below_drew1) | exact HB.out))); (case aF => exact (fun k_ hk => Kd.fresh' (Kd.R_lt (by (with_reducible repeat (first | apply Kd.R_alloc | apply Kd.R_drewN | apply Kd.R_drew)); exact HO_12.out)) k_ hk)); (case aO => exact (by (with_reducible repeat (first | apply Kd.R_alloc | apply Kd.R_drewN | apply Kd.R_drew)); exact HO_19.out)); (case aS => exact (below_size (by repeat (first | (with_reducible first | exact HB.out | apply below_alloc | apply pw_below_drewN | apply below_drew1) | exact HB.out)))); (case aL => have := LMc46.out; omega); intro v149 w47 ho hb hg hat; rw [← Ny148.out] at ho; have n0_ := Aside0.mk (Kd.S_after (ok := (fun k_ => some k_ ≠ (.slice Ao44 t130.length co44 : Value).ownBlock)) (by (with_reducible repeat (first | apply Kd.S_alloc | apply Kd.S_drewN | apply Kd.S_drew)); exact HO_11.out) hg hat); have n1_ := Aside0.mk (Kd.R_after (ok := (fun _ => True)) (by (with_reducible repeat (first | apply Kd.R_alloc | apply Kd.R_drewN | apply Kd.R_drew)); exact Kd.R_mono HO_12.out (fun _ hk => ⟨trivial, hk⟩)) hg hat); have n2_ := Aside0.mk (hb); have n3_ := Aside0.mk (ho); clear HO_11; clear HO_12; clear HB; clear HO_19; have HO_11 := n0_; have HO_12 := n1_; have HB := n2_; have HO150 := n3_; clear n0_ n1_ n2_ n3_; clear ho hb hg hat))
                go_roundg k3
                case measure => have := HJ9.out; have := HK2.out; have := HK3.out; omega
                case rel => exact ⟨(y148), (wrap64 (x20_3 + 1)), (by first | rfl | (simp; done) | (simp [*]; done)), H', ⟨by have := HJ9.out; have := HK2.out; have := HK3.out; omega⟩, ⟨by (with_reducible repeat (first | apply Kd.S_alloc | apply Kd.S_drewN | apply Kd.S_drew)); exact HO_11.out⟩, ⟨by (with_reducible repeat (first | apply Kd.R_alloc | apply Kd.R_drewN | apply Kd.R_drew)); exact Kd.R_mono HO_12.out (fun _ hk => hk.2)⟩, ⟨by (with_reducible repeat (first | apply Kd.R_alloc | apply Kd.R_drewN | apply Kd.R_drew)); exact HO150.out⟩, ⟨by repeat (first | (with_reducible first | exact HB.out | apply below_alloc | apply pw_below_drewN | apply below_drew1) | exact HB.out)⟩⟩
               ·rw [if_neg c46] at H
                exact absurd H (by simp)
              ·rw [if_neg c45] at H
               have c45b0 : decide (x20_3 < ((rd_L1 t127 0).length : Int)) = false := decide_eq_false c45
               clear c45
               have H' := Aside0.mk H
               clear H
               go_wp2
               go_loopg [21] k3 (fun kq v21 w' => ∃ (x19_4 : List Int) (x21_4 : Int), v21 = .int .i64 x21_4 ∧ Aside0 (hypercubelaw9_MatchLeast.l2 kq l4 t127 t130 t131 ((rd_L1 t127 0).length : Int) x16_2 x19_4 x21_4 = some r) ∧ Aside0 (kq ≤ k3) ∧ Aside0 (Kd.S (Kd.slice 3 (Kd.int .i64)) 22 w' w.heap.size (fun k_ => some k_ ≠ ((.slice Ao44 t130.length co44) : Value).ownBlock ∧ some k_ ≠ (u19 : Value).ownBlock) (.slice (some ad135) t127.length co13) t127) ∧ Aside0 (Kd.R (Kd.int .i64) 3 w' w.heap.size (fun k_ => some k_ ≠ (u19 : Value).ownBlock) (.slice Ao44 t130.length co44) t130) ∧ Aside0 (Kd.R (Kd.int .i64) 3 w' w.heap.size (fun k_ => some k_ ≠ ((.slice Ao44 t130.length co44) : Value).ownBlock) u19 x19_4) ∧ Aside0 (Below w.heap.size w w'))
               case atStart => exact ⟨(x19_3), (0), (by first | rfl | (simp; done) | (simp [*]; done)), H', ⟨Nat.le_refl _⟩, ⟨by (with_reducible repeat (first | apply Kd.S_alloc | apply Kd.S_drewN | apply Kd.S_drew)); exact HO_11.out⟩, ⟨by (with_reducible repeat (first | apply Kd.R_alloc | apply Kd.R_drewN | apply Kd.R_drew)); exact HO_12.out⟩, ⟨by (with_reducible repeat (first | apply Kd.R_alloc | apply Kd.R_drewN | apply Kd.R_drew)); exact HO_19.out⟩, ⟨by repeat (first | (with_reducible first | exact HB.out | apply below_alloc | apply pw_below_drewN | apply below_drew1) | exact HB.out)⟩⟩
               case round =>
                clear H'
                try clear c1
                try clear p1
                try clear q1
                try clear hx1
                try clear qi1
                try clear c2
                try clear p2
                try clear c3
                try clear p3
                try clear q3
                try clear hx3
                try clear c4
                try clear p6
                try clear c7
                try clear c13
                try clear p13
                try clear q13
                try clear hx13
                try clear qi13
                try clear c14
                try clear p14
                try clear q14
                try clear hx14
                try clear c15
                try clear c17
                try clear c18
                try clear c18b0
                try clear c18b1
                try clear c18b2
                try clear c19
                try clear c19b0
                try clear c19b1
                try clear c20
                try clear c20b0
                try clear c20b1
                try clear c21
                try clear c21b0
                try clear c21b1
                try clear c24
                try clear c24b0
                try clear c25
                try clear c25b0
                try clear c26
                try clear c26b0
                try clear c28
                try clear c28b0
                try clear c30
                try clear c30b0
                try clear c31
                try clear c31b0
                try clear q32
                try clear c33
                try clear p36
                try clear q36
                try clear hx36
                try clear hf36
                try clear c37
                try clear c37b0
                try clear c38
                try clear c38b0
                try clear c45
                try clear c45b0
                try clear c46
                try clear hx135_0
                try clear hx139_0
                try clear hx140_0
                try clear hx141_0
                try clear hx142_0
                try clear hx143_0
                try clear hx145_0
                try clear hx146_0
                try clear hx147_0
                try clear hx36_0
                try clear p1
                try clear p13
                try clear p135
                try clear p139
                try clear p14
                try clear p140
                try clear p141
                try clear p142
                try clear p143
                try clear p145
                try clear p146
                try clear p147
                try clear p2
                try clear p3
                try clear p36
                try clear p6
                try clear q1
                try clear q13
                try clear q135
                try clear q139
                try clear q14
                try clear q140
                try clear q141
                try clear q142
                try clear q143
                try clear q145
                try clear q146
                try clear q147
                try clear q3
                try clear q32
                try clear q36
                obtain ⟨x19_4, x21_4, rfl, HA, HK4, HO_11, HO_12, HO_19, HB⟩ := hrel
                cases gk with
                | zero => exact absurd HA.out (by simp [hypercubelaw9_MatchLeast.l2])
                | succ k4 =>
                 have H := HA.out
                 clear HA
                 simp only [hypercubelaw9_MatchLeast.l2] at H
                 have HC48 := Aside0.mk H
                 clear H
                 go_upto_region 25 with (fail)
                 go_cut [121] (fun v121 wc => ∃ (kq : Nat) (x121_47 : Bool), v121 = .bool x121_47 ∧ Aside0 (hypercubelaw9_MatchLeast.j4 kq l4 t127 t130 t131 ((rd_L1 t127 0).length : Int) x16_2 x19_4 x21_4 x121_47 = some r) ∧ Aside0 (kq ≤ k4) ∧ Aside0 (Kd.S (Kd.slice 3 (Kd.int .i64)) 22 wc w.heap.size (fun k_ => some k_ ≠ ((.slice Ao44 t130.length co44) : Value).ownBlock ∧ some k_ ≠ (u19 : Value).ownBlock) (.slice (some ad135) t127.length co13) t127) ∧ Aside0 (Kd.R (Kd.int .i64) 3 wc w.heap.size (fun k_ => some k_ ≠ (u19 : Value).ownBlock) (.slice Ao44 t130.length co44) t130) ∧ Aside0 (Kd.R (Kd.int .i64) 3 wc w.heap.size (fun k_ => some k_ ≠ ((.slice Ao44 t130.length co44) : Value).ownBlock) u19 x19_4) ∧ Aside0 (Below w.heap.size w wc))
                 case first =>
                  have H := HC48.out
                  clear HC48
                  by_cases c49 : x21_4 < (l4.length : Int)
                  ·rw [if_pos c49] at H
                   have c49b0 : decide (x21_4 < (l4.length : Int)) = true := decide_eq_true c49
                   clear c49
                   (first | rw [c49b0] | (simp only [i64_w, i32_w]; rw [c49b0]) | skip)
                   have H' := Aside0.mk H
                   clear H
                   go_wp2
                   go_meet
                   case rel => exact ⟨_, (decide (x21_4 < 30)), (by first | rfl | (simp; done) | (simp [*]; done)), H', ⟨by have := HJ9.out; have := HK2.out; have := HK3.out; have := HK4.out; first | omega | exact Nat.le_refl _⟩, ⟨by (with_reducible repeat (first | apply Kd.S_alloc | apply Kd.S_drewN | apply Kd.S_drew)); exact HO_11.out⟩, ⟨by (with_reducible repeat (first | apply Kd.R_alloc | apply Kd.R_drewN | apply Kd.R_drew)); exact HO_12.out⟩, ⟨by (with_reducible repeat (first | apply Kd.R_alloc | apply Kd.R_drewN | apply Kd.R_drew)); exact HO_19.out⟩, ⟨by repeat (first | (with_reducible first | exact HB.out | apply below_alloc | apply pw_below_drewN | apply below_drew1) | exact HB.out)⟩⟩
                  ·rw [if_neg c49] at H
                   have c49b0 : decide (x21_4 < (l4.length : Int)) = false := decide_eq_false c49
                   clear c49
                   (first | rw [c49b0] | (simp only [i64_w, i32_w]; rw [c49b0]) | skip)
                   have H' := Aside0.mk H
                   clear H
                   go_wp2
                   go_meet
                   case rel => exact ⟨_, (false), (by first | rfl | (simp; done) | (simp [*]; done)), H', ⟨by have := HJ9.out; have := HK2.out; have := HK3.out; have := HK4.out; first | omega | exact Nat.le_refl _⟩, ⟨by (with_reducible repeat (first | apply Kd.S_alloc | apply Kd.S_drewN | apply Kd.S_drew)); exact HO_11.out⟩, ⟨by (with_reducible repeat (first | apply Kd.R_alloc | apply Kd.R_drewN | apply Kd.R_drew)); exact HO_12.out⟩, ⟨by (with_reducible repeat (first | apply Kd.R_alloc | apply Kd.R_drewN | apply Kd.R_drew)); exact HO_19.out⟩, ⟨by repeat (first | (with_reducible first | exact HB.out | apply below_alloc | apply pw_below_drewN | apply below_drew1) | exact HB.out)⟩⟩
                 case rest =>
                  clear HC48
                  try clear c1
                  try clear p1
                  try clear q1
                  try clear hx1
                  try clear qi1
                  try clear c2
                  try clear p2
                  try clear c3
                  try clear p3
                  try clear q3
                  try clear hx3
                  try clear c4
                  try clear p6
                  try clear c7
                  try clear c13
                  try clear p13
                  try clear q13
                  try clear hx13
                  try clear qi13
                  try clear c14
                  try clear p14
                  try clear q14
                  try clear hx14
                  try clear c15
                  try clear c17
                  try clear c18
                  try clear c18b0
                  try clear c18b1
                  try clear c18b2
                  try clear c19
                  try clear c19b0
                  try clear c19b1
                  try clear c20
                  try clear c20b0
                  try clear c20b1
                  try clear c21
                  try clear c21b0
                  try clear c21b1
                  try clear c24
                  try clear c24b0
                  try clear c25
                  try clear c25b0
                  try clear c26
                  try clear c26b0
                  try clear c28
                  try clear c28b0
                  try clear c30
                  try clear c30b0
                  try clear c31
                  try clear c31b0
                  try clear q32
                  try clear c33
                  try clear p36
                  try clear q36
                  try clear hx36
                  try clear hf36
                  try clear c37
                  try clear c37b0
                  try clear c38
                  try clear c38b0
                  try clear c45
                  try clear c45b0
                  try clear c46
                  try clear c49
                  try clear c49b0
                  try clear hx135_0
                  try clear hx139_0
                  try clear hx140_0
                  try clear hx141_0
                  try clear hx142_0
                  try clear hx143_0
                  try clear hx145_0
                  try clear hx146_0
                  try clear hx147_0
                  try clear hx36_0
                  try clear p1
                  try clear p13
                  try clear p135
                  try clear p139
                  try clear p14
                  try clear p140
                  try clear p141
                  try clear p142
                  try clear p143
                  try clear p145
                  try clear p146
                  try clear p147
                  try clear p2
                  try clear p3
                  try clear p36
                  try clear p6
                  try clear q1
                  try clear q13
                  try clear q135
                  try clear q139
                  try clear q14
                  try clear q140
                  try clear q141
                  try clear q142
                  try clear q143
                  try clear q145
                  try clear q146
                  try clear q147
                  try clear q3
                  try clear q32
                  try clear q36
                  obtain ⟨kq, x121_47, rfl, HA, HJ47, HO_11, HO_12, HO_19, HB⟩ := hcut
                  cases kq with
                  | zero => exact absurd HA.out (by simp [hypercubelaw9_MatchLeast.j4])
                  | succ kj47 =>
                   have H := HA.out
                   clear HA
                   simp only [hypercubelaw9_MatchLeast.j4] at H
                   by_cases c50 : x121_47 = true
                   ·subst c50
                    have H1 : (if ((rd_L1 t127 0).length : Int) = 0 then (none) else (if 0 ≤ x21_4 then (if x21_4 < (l4.length : Int) then ((hypercubelaw9_within.f (rd l4 x21_4) ((rd_L1 t127 0).length : Int)).bind fun t152 => (if 0 ≤ t152 then (if t152 < (x19_4.length : Int) then (if 0 ≤ (Int.tmod x21_4 ((rd_L1 t127 0).length : Int)) then (if (Int.tmod x21_4 ((rd_L1 t127 0).length : Int)) < (x19_4.length : Int) then (hypercubelaw9_MatchLeast.l3 kj47 l4 t127 t130 t131 ((rd_L1 t127 0).length : Int) x16_2 ((x19_4.set ((Int.tmod x21_4 ((rd_L1 t127 0).length : Int)) : Int).toNat (rd x19_4 t152)).set (t152 : Int).toNat (rd x19_4 (Int.tmod x21_4 ((rd_L1 t127 0).length : Int)))) x21_4 0 0) else (none)) else (none)) else (none)) else (none))) else (none)) else (none))) = some r := by rw [if_pos rfl] at H; exact H
                    clear H
                    have H := H1
                    clear H1
                    by_cases c51 : ((rd_L1 t127 0).length : Int) = 0
                    ·rw [if_pos c51] at H
                     exact absurd H (by simp)
                    ·rw [if_neg c51] at H
                     have c51b0 : (((rd_L1 t127 0).length : Int) == 0) = false := beq_eq_false_iff_ne.mpr c51
                     have c51b1 : (((rd_L1 t127 0).length : Int) != 0) = true := bne_iff_ne.mpr c51
                     have c51b2 : ¬ ((rd_L1 t127 0) = []) := fun h_ => c51 (by rw [h_]; rfl)
                     by_cases c52 : 0 ≤ x21_4
                     ·rw [if_pos c52] at H
                      have c52b0 : decide (0 ≤ x21_4) = true := decide_eq_true c52
                      clear c52
                      by_cases c53 : x21_4 < (l4.length : Int)
                      ·rw [if_pos c53] at H
                       have c53b0 : decide (x21_4 < (l4.length : Int)) = true := decide_eq_true c53
                       clear c53
                       replace H := Option.bind_eq_some_iff.mp H
                       obtain ⟨t152, A540, H⟩ := H
                       replace H : (if 0 ≤ t152 then (if t152 < (x19_4.length : Int) then (if 0 ≤ (Int.tmod x21_4 ((rd_L1 t127 0).length : Int)) then (if (Int.tmod x21_4 ((rd_L1 t127 0).length : Int)) < (x19_4.length : Int) then (hypercubelaw9_MatchLeast.l3 kj47 l4 t127 t130 t131 ((rd_L1 t127 0).length : Int) x16_2 ((x19_4.set ((Int.tmod x21_4 ((rd_L1 t127 0).length : Int)) : Int).toNat (rd x19_4 t152)).set (t152 : Int).toNat (rd x19_4 (Int.tmod x21_4 ((rd_L1 t127 0).length : Int)))) x21_4 0 0) else (none)) else (none)) else (none)) else (none)) = some r := H
                       have A54 := Aside0.mk A540
                       clear A540
                       by_cases c55 : 0 ≤ t152
                       ·rw [if_pos c55] at H
                        have c55b0 : decide (0 ≤ t152) = true := decide_eq_true c55
                        clear c55
                        by_cases c56 : t152 < (x19_4.length : Int)
                        ·rw [if_pos c56] at H
                         have c56b0 : decide (t152 < (x19_4.length : Int)) = true := decide_eq_true c56
                         clear c56
                         obtain ⟨ji57, hji57⟩ : ∃ j_ : Int, (Int.tmod x21_4 ((rd_L1 t127 0).length : Int)) = j_ := ⟨_, rfl⟩
                         replace H : (if 0 ≤ (ji57) then (if (ji57) < (x19_4.length : Int) then (hypercubelaw9_MatchLeast.l3 kj47 l4 t127 t130 t131 ((rd_L1 t127 0).length : Int) x16_2 ((x19_4.set ((ji57) : Int).toNat (rd x19_4 t152)).set (t152 : Int).toNat (rd x19_4 (ji57))) x21_4 0 0) else (none)) else (none)) = some r := by first | (rw [hji57] at H; exact H) | (simp only [hji57] at H ⊢; exact H)
                         (try rw [hji57] at A54)
                         by_cases c58 : 0 ≤ (ji57)
                         ·rw [if_pos c58] at H
                          have c58b0 : decide (0 ≤ (ji57)) = true := decide_eq_true c58
                          clear c58
                          by_cases c59 : (ji57) < (x19_4.length : Int)
                          ·rw [if_pos c59] at H
                           have c59b0 : decide ((ji57) < (x19_4.length : Int)) = true := decide_eq_true c59
                           clear c59
                           obtain ⟨y155, hy155⟩ : ∃ y_ : List Int, y_ = (x19_4.set ((ji57) : Int).toNat (rd x19_4 t152)) := ⟨_, rfl⟩
                           replace H : (hypercubelaw9_MatchLeast.l3 kj47 l4 t127 t130 t131 ((rd_L1 t127 0).length : Int) x16_2 (y155.set (t152 : Int).toNat (rd x19_4 (ji57))) x21_4 0 0) = some r := by first | (rw [hy155]; with_reducible exact H) | (have H2_ := (Option.bind_some _ _).symm.trans H; rw [hy155]; with_reducible exact H2_) | (have H2_ := (Option.bind_some _ _).symm.trans H; with_reducible exact H2_) | with_reducible exact H | (rw [hy155]; exact H) | exact H
                           have Ny155 := Aside0.mk hy155
                           clear hy155
                           obtain ⟨y156, hy156⟩ : ∃ y_ : List Int, y_ = (y155.set (t152 : Int).toNat (rd x19_4 (ji57))) := ⟨_, rfl⟩
                           replace H : (hypercubelaw9_MatchLeast.l3 kj47 l4 t127 t130 t131 ((rd_L1 t127 0).length : Int) x16_2 y156 x21_4 0 0) = some r := by first | (rw [hy156]; with_reducible exact H) | (have H2_ := (Option.bind_some _ _).symm.trans H; rw [hy156]; with_reducible exact H2_) | (have H2_ := (Option.bind_some _ _).symm.trans H; with_reducible exact H2_) | with_reducible exact H | (rw [hy156]; exact H) | exact H
                           have Ny156 := Aside0.mk hy156
                           clear hy156
                           have H' := Aside0.mk H
                           clear H
                           try go_wp2
                           have n0_ := Aside0.mk (Kd.S_drew HO_11.out)
                           have n1_ := Aside0.mk (Kd.R_drew HO_12.out)
                           have n2_ := Aside0.mk (Kd.R_drew HO_19.out)
                           have n3_ := Aside0.mk (below_drew1 HB.out)
                           clear HO_11
                           clear HO_12
                           clear HO_19
                           clear HB
                           have HO_11 := n0_
                           have HO_12 := n1_
                           have HO_19 := n2_
                           have HB := n3_
                           clear n0_ n1_ n2_ n3_
                           have p151 : 0 ≤ (x21_4 : Int) := of_decide_eq_true (by first | (with_reducible assumption) | assumption)
                           have q151 : x21_4 < (l4.length : Int) := of_decide_eq_true (by first | (with_reducible assumption) | assumption)
                           obtain ⟨ad151, e151, hx151_0⟩ := Kd.at_int HR4.out x21_4 p151 q151
                           have hw151_0 := hx151_0
                           cases e151
                           replace hx151_0 := (HB.out.cell (World.block_lt_of_cell? w _ hx151_0)).trans hx151_0
                           replace p151 := eq_true p151
                           replace q151 := eq_true q151
                           refine start_ (n := 11) (S := fun w' => w'.cell? (ad151.add (x21_4).toNat) = some (.int .i64 (rd l4 x21_4))) (ds := []) #[false, false, false, false, false, false, false, false, false, false, false] (by kernel_rfl) rfl rfl (((HB.out.cell (World.block_lt_of_cell? w _ hw151_0)).trans hw151_0)) (fun hHeld => ?_); refine with_tabW hypercubelaw9_MatchLeast.tab27 hypercubelaw9_MatchLeast.bits27 (fun HT_ HW_ => ?_)
                           generalize wc.drew = w62 at HO_11 HO_12 HO_19 HB hx151_0 hHeld ⊢
                           refine pure_ (i := 0) (N := some 124) (v := ?_) (a' := ?_) #[true, false, false, false, false, false, false, false, false, false, false] rfl rfl (any_of HT_.out (by kernel_rfl)) (fun _ _ _ h => h) (Or.inl ⟨by rfl, ?_⟩) ?_ ?_
                           rotate_left
                           ·intro w'
                            go_simp
                            with_reducible rfl
                           rotate_left
                           ·simp only [Act.put, List.setIfInBounds_toArray, List.set_cons_zero, List.set_cons_succ, i64_w, i32_w]
                            rfl
                           refine pure_ (i := 1) (N := some 125) (v := ?_) (a' := ?_) #[true, true, false, false, false, false, false, false, false, false, false] rfl rfl (any_of HT_.out (by kernel_rfl)) (fun _ _ _ h => h) (Or.inl ⟨by rfl, ?_⟩) ?_ ?_
                           rotate_left
                           ·intro w'
                            go_simp
                            with_reducible rfl
                           rotate_left
                           ·simp only [Act.put, List.setIfInBounds_toArray, List.set_cons_zero, List.set_cons_succ, i64_w, i32_w]
                            rfl
                           refine pure_ (i := 2) (N := some 126) (v := ?_) (a' := ?_) #[true, true, true, false, false, false, false, false, false, false, false] rfl rfl (any_of HT_.out (by kernel_rfl)) (fun _ _ _ h => h) (Or.inl ⟨by rfl, ?_⟩) ?_ ?_
                           rotate_left
                           ·intro w'
                            go_simp
                            with_reducible rfl
                           rotate_left
                           ·simp only [Act.put, List.setIfInBounds_toArray, List.set_cons_zero, List.set_cons_succ, i64_w, i32_w]
                            rfl
                           refine pure_ (i := 3) (N := some 127) (v := ?_) (a' := ?_) #[true, true, true, true, false, false, false, false, false, false, false] rfl rfl (any_of HT_.out (by kernel_rfl)) (fun _ _ _ h => h) (Or.inl ⟨by rfl, ?_⟩) ?_ ?_
                           rotate_left
                           ·intro w'
                            go_simp
                            with_reducible rfl
                           rotate_left
                           ·simp only [Act.put, List.setIfInBounds_toArray, List.set_cons_zero, List.set_cons_succ, i64_w, i32_w]
                            rfl
                           refine pure_ (i := 4) (N := some 128) (v := ?_) (a' := ?_) #[true, true, true, true, true, false, false, false, false, false, false] rfl rfl (any_of HT_.out (by kernel_rfl)) (fun _ _ _ h => h) (Or.inl ⟨by rfl, ?_⟩) ?_ ?_
                           rotate_left
                           ·intro w'
                            go_simp
                            with_reducible rfl
                           rotate_left
                           ·simp only [Act.put, List.setIfInBounds_toArray, List.set_cons_zero, List.set_cons_succ, i64_w, i32_w]
                            rfl
                           refine pure_ (i := 5) (N := some 129) (v := ?_) (a' := ?_) #[true, true, true, true, true, true, false, false, false, false, false] rfl rfl (any_of HT_.out (by kernel_rfl)) (fun _ _ _ h => h) (Or.inl ⟨by rfl, ?_⟩) ?_ ?_
                           rotate_left
                           ·intro w'
                            go_simp
                            with_reducible rfl
                           rotate_left
                           ·simp only [Act.put, List.setIfInBounds_toArray, List.set_cons_zero, List.set_cons_succ, i64_w, i32_w]
                            rfl
                           refine pure_ (i := 7) (N := some 131) (v := ?_) (a' := ?_) #[true, true, true, true, true, true, false, true, false, false, false] rfl rfl (any_of HT_.out (by kernel_rfl)) (fun _ _ _ h => h) (Or.inl ⟨by rfl, ?_⟩) ?_ ?_
                           rotate_left
                           ·intro w'
                            go_simp
                            with_reducible rfl
                           rotate_left
                           ·simp only [Act.put, List.setIfInBounds_toArray, List.set_cons_zero, List.set_cons_succ, i64_w, i32_w]
                            rfl
                           refine take_ (i := 6) (N := some 130) (v := ?_) (a' := ?_) #[true, true, true, true, true, true, true, true, false, false, false] rfl rfl (take_ofW HT_.out HW_.out (by kernel_rfl)) (fun _ _ _ h => h) (Or.inl ⟨by rfl, ?_⟩) hHeld ?_ ?_
                           rotate_left
                           ·intro w' s0
                            go_simp
                            with_reducible rfl
                           rotate_left
                           ·simp only [Act.put, List.setIfInBounds_toArray, List.set_cons_zero, List.set_cons_succ, i64_w, i32_w]
                            rfl
                           refine one_ (i := 8) (N := some 132) #[true, true, true, true, true, true, true, true, true, false, false] rfl rfl (one_of HT_.out (by kernel_rfl)) (by decide) (fun K hK => ?_)
                           refine goes_ Try.func18 (by kernel_rfl) rfl #[.int .i64 (rd l4 x21_4), .int .i64 ((rd_L1 t127 0).length : Int)] (by rfl) rfl rfl (by (try simp only [List.map_toArray, List.map_cons, List.map_nil]); first | done | rfl | (simp only [List.length_drop, List.length_take]; rfl)) ?_
                           with_reducible refine (hypercubelaw9_within.calls (rd l4 x21_4) ((rd_L1 t127 0).length : Int) t152 _ A54.out).mono ?_
                           rintro e w63 ⟨rfl, hb⟩
                           refine ⟨_, rfl, ?_⟩
                           have n0_ := Aside0.mk (Kd.S_below (by (with_reducible repeat (first | apply Kd.S_alloc | apply Kd.S_drewN | apply Kd.S_drew)); exact HO_11.out) hb)
                           have n1_ := Aside0.mk (Kd.R_below (by (with_reducible repeat (first | apply Kd.R_alloc | apply Kd.R_drewN | apply Kd.R_drew)); exact HO_12.out) hb)
                           have n2_ := Aside0.mk (Kd.R_below (by (with_reducible repeat (first | apply Kd.R_alloc | apply Kd.R_drewN | apply Kd.R_drew)); exact HO_19.out) hb)
                           have n3_ := Aside0.mk (below_step (by repeat (first | (with_reducible first | exact HB.out | apply below_alloc | apply pw_below_drewN | apply below_drew1) | exact HB.out)) hb)
                           clear HO_11
                           clear HO_12
                           clear HO_19
                           clear HB
                           have HO_11 := n0_
                           have HO_12 := n1_
                           have HO_19 := n2_
                           have HB := n3_
                           clear n0_ n1_ n2_ n3_
                           (try clear hb)
                           (try clear hb2)
                           (try clear hk)
                           (try clear hi)
                           refine hK.out _ _ (((HB.out.cell (World.block_lt_of_cell? w _ hw151_0)).trans hw151_0)) (fun hHeld => ?_)
                           clear hK K
                           refine norm_ (a' := ?_) ?_ ?_
                           rotate_left
                           ·show Act.put _ (some 132) _ = _
                            simp only [Act.put, List.setIfInBounds_toArray, List.set_cons_zero, List.set_cons_succ, i64_w, i32_w]
                            rfl
                           refine pure_ (i := 9) (N := some 22) (v := ?_) (a' := ?_) #[true, true, true, true, true, true, true, true, true, true, false] rfl rfl (any_of HT_.out (by kernel_rfl)) (fun _ _ _ h => h) (Or.inl ⟨by rfl, ?_⟩) ?_ ?_
                           rotate_left
                           ·intro w'
                            go_simp
                            with_reducible rfl
                           rotate_left
                           ·simp only [Act.put, List.setIfInBounds_toArray, List.set_cons_zero, List.set_cons_succ, i64_w, i32_w]
                            rfl
                           refine pure_ (i := 10) (N := some 23) (v := ?_) (a' := ?_) #[true, true, true, true, true, true, true, true, true, true, true] rfl rfl (any_of HT_.out (by kernel_rfl)) (fun _ _ _ h => h) (Or.inl ⟨by rfl, ?_⟩) ?_ ?_
                           rotate_left
                           ·intro w'
                            go_simp
                            with_reducible rfl
                           rotate_left
                           ·simp only [Act.put, List.setIfInBounds_toArray, List.set_cons_zero, List.set_cons_succ, i64_w, i32_w]
                            rfl
                           refine done_ (done_of HT_.out (by kernel_rfl)) ?_
                           try go_wp2
                           have n0_ := Aside0.mk (Kd.S_drew HO_11.out)
                           have n1_ := Aside0.mk (Kd.R_drew HO_12.out)
                           have n2_ := Aside0.mk (Kd.R_drew HO_19.out)
                           have n3_ := Aside0.mk (below_drew1 HB.out)
                           clear HO_11
                           clear HO_12
                           clear HO_19
                           clear HB
                           have HO_11 := n0_
                           have HO_12 := n1_
                           have HO_19 := n2_
                           have HB := n3_
                           clear n0_ n1_ n2_ n3_
                           obtain ⟨Ao65, co65, eo65⟩ := Kd.R_slice HO_19.out
                           (first | subst eo65 | (injection eo65 with f1_ f2_ f3_; have f4_ := f1_.symm; have f5_ := f3_.symm; clear f1_ f2_ f3_; subst f4_; subst f5_))
                           have p153 : 0 ≤ (t152 : Int) := of_decide_eq_true (by first | (with_reducible assumption) | assumption)
                           have q153 : t152 < (x19_4.length : Int) := of_decide_eq_true (by first | (with_reducible assumption) | assumption)
                           obtain ⟨ad153, e153, hx153_0⟩ := Kd.at_int (Kd.R_reads' HO_19.out).2.2 t152 p153 q153
                           cases e153
                           replace p153 := eq_true p153
                           replace q153 := eq_true q153
                           have p154 : 0 ≤ ((ji57) : Int) := of_decide_eq_true (by first | (with_reducible assumption) | assumption)
                           have q154 : (ji57) < (x19_4.length : Int) := of_decide_eq_true (by first | (with_reducible assumption) | assumption)
                           obtain ⟨ad154, e154, hx154_0⟩ := Kd.at_int (Kd.R_reads' HO_19.out).2.2 (ji57) p154 q154
                           obtain rfl : ad153 = ad154 := (by injection e154)
                           replace p154 := eq_true p154
                           replace q154 := eq_true q154
                           have p60 : 0 ≤ ((ji57) : Int) := of_decide_eq_true (by first | (with_reducible assumption) | assumption)
                           have q60 : ((ji57) : Int) < ((x19_4.length : Int) : Int) := of_decide_eq_true (by first | (with_reducible assumption) | assumption)
                           obtain ⟨go60, co60, eo60, gb60, gl60, cl60, HG60⟩ := Kd.R_form HO_19.out (by omega)
                           (first | cases eo60 | (injection eo60 with ea_ en_ ec_; (first | subst ea_ | (injection ea_ with ea_; subst ea_)); subst ec_; clear en_))
                           have GB60 := Aside0.mk gb60
                           have GG60 := Aside0.mk HG60
                           clear gb60 gl60 HG60
                           (first | simp only [add_plain] at hx153_0 | skip)
                           (first | simp only [add_plain] at hx154_0 | skip)
                           obtain ⟨hx60_0, hf60_0⟩ := Kd.R_celln 0 HO_19.out ((ji57) : Int) p60 q60
                           replace p60 := eq_true p60
                           replace q60 := eq_true q60
                           have HP66 := Kd.R_putn HO_19.out ((ji57) : Int) (rd x19_4 t152)
                           rw [← Ny155.out] at HP66
                           have HQ66 := Aside0.mk HP66
                           clear HP66
                           have p61 : 0 ≤ (t152 : Int) := of_decide_eq_true (by first | (with_reducible assumption) | assumption)
                           have q61 : (t152 : Int) < ((x19_4.length : Int) : Int) := of_decide_eq_true (by first | (with_reducible assumption) | assumption)
                           obtain ⟨hx61_0, hf61_0⟩ := Kd.R_celln 0 HQ66.out (t152 : Int) p61 q61
                           replace p61 := eq_true p61
                           replace q61 := eq_true q61
                           have HP67 := Kd.R_putn HQ66.out (t152 : Int) (rd x19_4 (ji57))
                           rw [← Ny156.out] at HP67
                           have HQ67 := Aside0.mk HP67
                           clear HP67
                           refine start_ (n := 16) (S := fun w' => w'.cell? ⟨go60, (t152).toNat, none⟩ = some (.int .i64 (rd x19_4 t152)) ∧ w'.cell? ⟨go60, ((ji57)).toNat, none⟩ = some (.int .i64 (rd x19_4 (ji57)))) (ds := [13, 15]) #[false, false, false, false, false, false, false, false, false, false, false, false, false, false, false, false] (by kernel_rfl) rfl rfl ⟨hx153_0, hx154_0⟩ (fun hHeld => ?_); refine with_tabW hypercubelaw9_MatchLeast.tab28 hypercubelaw9_MatchLeast.bits28 (fun HT_ HW_ => ?_)
                           generalize w63.drew = w64 at HO_11 HO_12 HO_19 HB GG60 HQ66 HQ67 hf60_0 hf61_0 hx153_0 hx154_0 hx60_0 hx61_0 hHeld ⊢
                           refine pure_ (i := 0) (N := some 133) (v := ?_) (a' := ?_) #[true, false, false, false, false, false, false, false, false, false, false, false, false, false, false, false] rfl rfl (any_of HT_.out (by kernel_rfl)) (fun _ _ _ h => h) (Or.inl ⟨by rfl, ?_⟩) ?_ ?_
                           rotate_left
                           ·intro w'
                            go_simp
                            with_reducible rfl
                           rotate_left
                           ·simp only [Act.put, List.setIfInBounds_toArray, List.set_cons_zero, List.set_cons_succ, i64_w, i32_w]
                            rfl
                           refine pure_ (i := 1) (N := some 134) (v := ?_) (a' := ?_) #[true, true, false, false, false, false, false, false, false, false, false, false, false, false, false, false] rfl rfl (any_of HT_.out (by kernel_rfl)) (fun _ _ _ h => h) (Or.inl ⟨by rfl, ?_⟩) ?_ ?_
                           rotate_left
                           ·intro w'
                            go_simp
                            with_reducible rfl
                           rotate_left
                           ·simp only [Act.put, List.setIfInBounds_toArray, List.set_cons_zero, List.set_cons_succ, i64_w, i32_w]
                            rfl
                           refine pure_ (i := 2) (N := some 135) (v := ?_) (a' := ?_) #[true, true, true, false, false, false, false, false, false, false, false, false, false, false, false, false] rfl rfl (any_of HT_.out (by kernel_rfl)) (fun _ _ _ h => h) (Or.inl ⟨by rfl, ?_⟩) ?_ ?_
                           rotate_left
                           ·intro w'
                            go_simp
                            with_reducible rfl
                           rotate_left
                           ·simp only [Act.put, List.setIfInBounds_toArray, List.set_cons_zero, List.set_cons_succ, i64_w, i32_w]
                            rfl
                           refine pure_ (i := 3) (N := some 136) (v := ?_) (a' := ?_) #[true, true, true, true, false, false, false, false, false, false, false, false, false, false, false, false] rfl rfl (any_of HT_.out (by kernel_rfl)) (fun _ _ _ h => h) (Or.inl ⟨by rfl, ?_⟩) ?_ ?_
                           rotate_left
                           ·intro w'
                            go_simp
                            with_reducible rfl
                           rotate_left
                           ·simp only [Act.put, List.setIfInBounds_toArray, List.set_cons_zero, List.set_cons_succ, i64_w, i32_w]
                            rfl
                           refine pure_ (i := 4) (N := some 137) (v := ?_) (a' := ?_) #[true, true, true, true, true, false, false, false, false, false, false, false, false, false, false, false] rfl rfl (any_of HT_.out (by kernel_rfl)) (fun _ _ _ h => h) (Or.inl ⟨by rfl, ?_⟩) ?_ ?_
                           rotate_left
                           ·intro w'
                            go_simp
                            with_reducible rfl
                           rotate_left
                           ·simp only [Act.put, List.setIfInBounds_toArray, List.set_cons_zero, List.set_cons_succ, i64_w, i32_w]
                            rfl
                           refine pure_ (i := 5) (N := some 138) (v := ?_) (a' := ?_) #[true, true, true, true, true, true, false, false, false, false, false, false, false, false, false, false] rfl rfl (any_of HT_.out (by kernel_rfl)) (fun _ _ _ h => h) (Or.inl ⟨by rfl, ?_⟩) ?_ ?_
                           rotate_left
                           ·intro w'
                            go_simp
                            with_reducible rfl
                           rotate_left
                           ·simp only [Act.put, List.setIfInBounds_toArray, List.set_cons_zero, List.set_cons_succ, i64_w, i32_w]
                            rfl
                           refine pure_ (i := 6) (N := some 139) (v := ?_) (a' := ?_) #[true, true, true, true, true, true, true, false, false, false, false, false, false, false, false, false] rfl rfl (any_of HT_.out (by kernel_rfl)) (fun _ _ _ h => h) (Or.inl ⟨by rfl, ?_⟩) ?_ ?_
                           rotate_left
                           ·intro w'
                            go_simp
                            with_reducible rfl
                           rotate_left
                           ·simp only [Act.put, List.setIfInBounds_toArray, List.set_cons_zero, List.set_cons_succ, i64_w, i32_w]
                            rfl
                           refine pure_ (i := 8) (N := some 141) (v := ?_) (a' := ?_) #[true, true, true, true, true, true, true, false, true, false, false, false, false, false, false, false] rfl rfl (any_of HT_.out (by kernel_rfl)) (fun _ _ _ h => h) (Or.inl ⟨by rfl, ?_⟩) ?_ ?_
                           rotate_left
                           ·intro w'
                            go_simp
                            with_reducible rfl
                           rotate_left
                           ·simp only [Act.put, List.setIfInBounds_toArray, List.set_cons_zero, List.set_cons_succ, i64_w, i32_w]
                            rfl
                           refine pure_ (i := 9) (N := some 142) (v := ?_) (a' := ?_) #[true, true, true, true, true, true, true, false, true, true, false, false, false, false, false, false] rfl rfl (any_of HT_.out (by kernel_rfl)) (fun _ _ _ h => h) (Or.inl ⟨by rfl, ?_⟩) ?_ ?_
                           rotate_left
                           ·intro w'
                            go_simp
                            with_reducible rfl
                           rotate_left
                           ·simp only [Act.put, List.setIfInBounds_toArray, List.set_cons_zero, List.set_cons_succ, i64_w, i32_w]
                            rfl
                           refine pure_ (i := 10) (N := some 143) (v := ?_) (a' := ?_) #[true, true, true, true, true, true, true, false, true, true, true, false, false, false, false, false] rfl rfl (any_of HT_.out (by kernel_rfl)) (fun _ _ _ h => h) (Or.inl ⟨by rfl, ?_⟩) ?_ ?_
                           rotate_left
                           ·intro w'
                            go_simp
                            with_reducible rfl
                           rotate_left
                           ·simp only [Act.put, List.setIfInBounds_toArray, List.set_cons_zero, List.set_cons_succ, i64_w, i32_w]
                            rfl
                           refine take_ (i := 7) (N := some 140) (v := ?_) (a' := ?_) #[true, true, true, true, true, true, true, true, true, true, true, false, false, false, false, false] rfl rfl (take_ofW HT_.out HW_.out (by kernel_rfl)) (fun _ _ _ h => h) (Or.inl ⟨by rfl, ?_⟩) hHeld ?_ ?_
                           rotate_left
                           ·rintro w' ⟨s0, s1⟩
                            go_simp
                            with_reducible rfl
                           rotate_left
                           ·simp only [Act.put, List.setIfInBounds_toArray, List.set_cons_zero, List.set_cons_succ, i64_w, i32_w]
                            rfl
                           refine take_ (i := 11) (N := some 144) (v := ?_) (a' := ?_) #[true, true, true, true, true, true, true, true, true, true, true, true, false, false, false, false] rfl rfl (take_ofW HT_.out HW_.out (by kernel_rfl)) (fun _ _ _ h => h) (Or.inl ⟨by rfl, ?_⟩) hHeld ?_ ?_
                           rotate_left
                           ·rintro w' ⟨s0, s1⟩
                            go_simp
                            with_reducible rfl
                           rotate_left
                           ·simp only [Act.put, List.setIfInBounds_toArray, List.set_cons_zero, List.set_cons_succ, i64_w, i32_w]
                            rfl
                           refine pure_ (i := 12) (N := some 145) (v := ?_) (a' := ?_) #[true, true, true, true, true, true, true, true, true, true, true, true, true, false, false, false] rfl rfl (any_of HT_.out (by kernel_rfl)) (fun _ _ _ h => h) (Or.inl ⟨by rfl, ?_⟩) ?_ ?_
                           rotate_left
                           ·intro w'
                            go_simp
                            with_reducible rfl
                           rotate_left
                           ·simp only [Act.put, List.setIfInBounds_toArray, List.set_cons_zero, List.set_cons_succ, i64_w, i32_w]
                            rfl
                           refine last_ (i := 13) (N := none) #[true, true, true, true, true, true, true, true, true, true, true, true, true, true, false, false] rfl rfl (one_of HT_.out (by kernel_rfl)) (by decide) (fun K hK => ?_)
                           refine skip_ (w1 := ?_) (by rfl) rfl ?_ ?_
                           rotate_left
                           ·go_simp
                            rfl
                           refine hK.out _ _ ?_
                           clear hK K
                           refine pure_ (i := 14) (N := some 146) (v := ?_) (a' := ?_) #[true, true, true, true, true, true, true, true, true, true, true, true, true, true, true, false] rfl rfl (any_of HT_.out (by kernel_rfl)) (fun _ _ _ h => h) (Or.inl ⟨by rfl, ?_⟩) ?_ ?_
                           rotate_left
                           ·intro w'
                            go_simp
                            with_reducible rfl
                           rotate_left
                           ·simp only [Act.put, List.setIfInBounds_toArray, List.set_cons_zero, List.set_cons_succ, i64_w, i32_w]
                            rfl
                           refine last_ (i := 15) (N := none) #[true, true, true, true, true, true, true, true, true, true, true, true, true, true, true, true] rfl rfl (one_of HT_.out (by kernel_rfl)) (by decide) (fun K hK => ?_)
                           refine skip_ (w1 := ?_) (by rfl) rfl ?_ ?_
                           rotate_left
                           ·go_simp
                            rfl
                           refine hK.out _ _ ?_
                           clear hK K
                           refine done_ (done_of HT_.out (by kernel_rfl)) ?_
                           try go_wp2
                           go_loopg [24, 25] kj47 (fun kq v24 v25 w' => ∃ (x24_6 : Int) (x25_6 : Int), v24 = .int .i64 x24_6 ∧ v25 = .int .i64 x25_6 ∧ Aside0 (hypercubelaw9_MatchLeast.l3 kq l4 t127 t130 t131 ((rd_L1 t127 0).length : Int) x16_2 y156 x21_4 x24_6 x25_6 = some r) ∧ Aside0 (kq ≤ kj47) ∧ Aside0 (Kd.S (Kd.slice 3 (Kd.int .i64)) 22 w' w.heap.size (fun k_ => some k_ ≠ ((.slice Ao44 t130.length co44) : Value).ownBlock ∧ some k_ ≠ ((.slice (some ⟨go60, 0, none⟩) x19_4.length co65) : Value).ownBlock) (.slice (some ad135) t127.length co13) t127) ∧ Aside0 (Kd.R (Kd.int .i64) 3 w' w.heap.size (fun k_ => some k_ ≠ ((.slice (some ⟨go60, 0, none⟩) x19_4.length co65) : Value).ownBlock) (.slice Ao44 t130.length co44) t130) ∧ Aside0 (Kd.R (Kd.int .i64) 3 w' w.heap.size (fun k_ => some k_ ≠ ((.slice Ao44 t130.length co44) : Value).ownBlock) (.slice (some ⟨go60, 0, none⟩) x19_4.length co65) y156) ∧ Aside0 (Below w.heap.size w w'))
                           case atStart => exact ⟨(0), (0), (by first | rfl | (simp; done) | (simp [*]; done)), (by first | rfl | (simp; done) | (simp [*]; done)), H', ⟨Nat.le_refl _⟩, ⟨by (with_reducible repeat (first | apply Kd.S_alloc | apply Kd.S_drewN | apply Kd.S_drew)); exact Kd.S_mono (Kd.S_far (p := ⟨go60, (t152 : Int).toNat, none⟩) (Kd.S_far (p := ⟨go60, ((ji57) : Int).toNat, none⟩) (Kd.S_mono HO_11.out (fun k_ hk => (⟨hk, fun e_ => hk.2 (by rw [e_]; rfl)⟩ : _ ∧ k_ ≠ go60))) (fun _ hk => hk.2) (.int .i64 (rd x19_4 t152))) (fun _ hk => hk.2) (.int .i64 (rd x19_4 (ji57)))) (fun _ hk => ⟨hk.1.1, hk.1.2⟩)⟩, ⟨by (with_reducible repeat (first | apply Kd.R_alloc | apply Kd.R_drewN | apply Kd.R_drew)); exact Kd.R_mono (Kd.R_far (p := ⟨go60, (t152 : Int).toNat, none⟩) (Kd.R_far (p := ⟨go60, ((ji57) : Int).toNat, none⟩) (Kd.R_mono HO_12.out (fun k_ hk => (⟨hk, fun e_ => hk (by rw [e_]; rfl)⟩ : _ ∧ k_ ≠ go60))) (fun _ hk => hk.2) (.int .i64 (rd x19_4 t152))) (fun _ hk => hk.2) (.int .i64 (rd x19_4 (ji57)))) (fun _ hk => hk.1)⟩, ⟨by (with_reducible repeat (first | apply Kd.R_alloc | apply Kd.R_drewN | apply Kd.R_drew)); exact HQ67.out⟩, ⟨by repeat (first | (with_reducible first | exact HB.out | apply below_alloc | apply pw_below_drewN | apply below_drew1 | refine below_set ?_ GB60.out | refine below_set ?_ GB60.out) | exact HB.out)⟩⟩
                           case round =>
                            clear H'
                            try clear c1
                            try clear p1
                            try clear q1
                            try clear hx1
                            try clear qi1
                            try clear c2
                            try clear p2
                            try clear c3
                            try clear p3
                            try clear q3
                            try clear hx3
                            try clear c4
                            try clear c5
                            try clear p6
                            try clear q6
                            try clear hx6
                            try clear hf6
                            try clear c7
                            try clear c13
                            try clear p13
                            try clear q13
                            try clear hx13
                            try clear qi13
                            try clear c14
                            try clear p14
                            try clear q14
                            try clear hx14
                            try clear c15
                            try clear p15
                            try clear q15
                            try clear hx15
                            try clear c17
                            try clear c18
                            try clear c18b0
                            try clear c18b1
                            try clear c18b2
                            try clear c19
                            try clear c19b0
                            try clear c19b1
                            try clear c20
                            try clear c20b0
                            try clear c20b1
                            try clear c21
                            try clear c21b0
                            try clear c21b1
                            try clear c24
                            try clear c24b0
                            try clear c25
                            try clear c25b0
                            try clear c26
                            try clear c26b0
                            try clear c28
                            try clear c28b0
                            try clear c30
                            try clear c30b0
                            try clear c31
                            try clear c31b0
                            try clear q32
                            try clear c33
                            try clear p36
                            try clear q36
                            try clear hx36
                            try clear hf36
                            try clear c37
                            try clear c37b0
                            try clear c38
                            try clear c38b0
                            try clear c45
                            try clear c45b0
                            try clear c46
                            try clear c49
                            try clear c49b0
                            try clear c50
                            try clear c51
                            try clear c51b0
                            try clear c51b1
                            try clear c51b2
                            try clear c52
                            try clear c52b0
                            try clear c53
                            try clear c53b0
                            try clear c55
                            try clear c55b0
                            try clear c56
                            try clear c56b0
                            try clear c58
                            try clear c58b0
                            try clear c59
                            try clear c59b0
                            try clear p60
                            try clear q60
                            try clear hx60
                            try clear hf60
                            try clear p61
                            try clear q61
                            try clear hx61
                            try clear hf61
                            try clear hx135_0
                            try clear hx139_0
                            try clear hx140_0
                            try clear hx141_0
                            try clear hx142_0
                            try clear hx143_0
                            try clear hx145_0
                            try clear hx146_0
                            try clear hx147_0
                            try clear hx151_0
                            try clear hx153_0
                            try clear hx154_0
                            try clear hx36_0
                            try clear hx60_0
                            try clear hx61_0
                            try clear p1
                            try clear p13
                            try clear p135
                            try clear p139
                            try clear p14
                            try clear p140
                            try clear p141
                            try clear p142
                            try clear p143
                            try clear p145
                            try clear p146
                            try clear p147
                            try clear p151
                            try clear p153
                            try clear p154
                            try clear p2
                            try clear p3
                            try clear p36
                            try clear p6
                            try clear p60
                            try clear p61
                            try clear q1
                            try clear q13
                            try clear q135
                            try clear q139
                            try clear q14
                            try clear q140
                            try clear q141
                            try clear q142
                            try clear q143
                            try clear q145
                            try clear q146
                            try clear q147
                            try clear q151
                            try clear q153
                            try clear q154
                            try clear q3
                            try clear q32
                            try clear q36
                            try clear q60
                            try clear q61
                            obtain ⟨x24_6, x25_6, rfl, rfl, HA, HK6, HO_11, HO_12, HO_19, HB⟩ := hrel
                            have hl19_6 := (Kd.R_reads' HO_19.out).1
                            rw [hl19_6] at HO_19
                            (try simp only [hl19_6])
                            (try simp only [hl19_6] at HO_11)
                            (try simp only [hl19_6] at HO_12)
                            cases gk with
                            | zero => exact absurd HA.out (by simp [hypercubelaw9_MatchLeast.l3])
                            | succ k6 =>
                             have H := HA.out
                             clear HA
                             simp only [hypercubelaw9_MatchLeast.l3] at H
                             by_cases c68 : x25_6 < (t127.length : Int)
                             ·rw [if_pos c68] at H
                              have c68b0 : decide (x25_6 < (t127.length : Int)) = true := decide_eq_true c68
                              clear c68
                              by_cases c69 : 0 ≤ x25_6
                              ·rw [if_pos c69] at H
                               have c69b0 : decide (0 ≤ x25_6) = true := decide_eq_true c69
                               clear c69
                               by_cases c70 : x25_6 < (y156.length : Int)
                               ·rw [if_pos c70] at H
                                have c70b0 : decide (x25_6 < (y156.length : Int)) = true := decide_eq_true c70
                                clear c70
                                by_cases c71 : 0 ≤ (rd y156 x25_6)
                                ·rw [if_pos c71] at H
                                 have c71b0 : decide (0 ≤ (rd y156 x25_6)) = true := decide_eq_true c71
                                 clear c71
                                 by_cases c72 : (rd y156 x25_6) < ((rd_L1 t127 x25_6).length : Int)
                                 ·rw [if_pos c72] at H
                                  have c72b0 : decide ((rd y156 x25_6) < ((rd_L1 t127 x25_6).length : Int)) = true := decide_eq_true c72
                                  clear c72
                                  have H' := Aside0.mk H
                                  clear H
                                  try go_wp2
                                  have n0_ := Aside0.mk (Kd.S_drew HO_11.out)
                                  have n1_ := Aside0.mk (Kd.R_drew HO_12.out)
                                  have n2_ := Aside0.mk (Kd.R_drew HO_19.out)
                                  have n3_ := Aside0.mk (below_drew1 HB.out)
                                  clear HO_11
                                  clear HO_12
                                  clear HO_19
                                  clear HB
                                  have HO_11 := n0_
                                  have HO_12 := n1_
                                  have HO_19 := n2_
                                  have HB := n3_
                                  clear n0_ n1_ n2_ n3_
                                  have p157 : 0 ≤ (x25_6 : Int) := of_decide_eq_true (by first | (with_reducible assumption) | assumption)
                                  have q157 : x25_6 < (t127.length : Int) := of_decide_eq_true (by first | (with_reducible assumption) | assumption)
                                  obtain ⟨ad157, A157_0, c157_0, e157, hx157_0, hl157_0, hi157_0⟩ := at_L1 (Kd.S_reads' HO_11.out).2.2 x25_6 p157 q157
                                  obtain rfl : ad135 = ad157 := (by injection e157)
                                  obtain ⟨ce157, hce157, hMe157, hcc157⟩ := Kd.S_get HO_11.out [] x25_6 p157 (by first | exact q157 | exact of_decide_eq_true (by first | (with_reducible assumption) | assumption) | (have e_ := (Kd.S_reads' HO_11.out).1; omega))
                                  obtain ⟨ve157_0, rfl, ge157_0⟩ := hMe157
                                  have hv157_0 := hcc157 0 _ rfl
                                  rw [Nat.add_zero, show ((Kd.slice 3 (Kd.int .i64))).sz = 1 from rfl, Nat.mul_one] at hv157_0
                                  replace hv157_0 := Option.some.inj (hv157_0.symm.trans hx157_0)
                                  rw [hv157_0] at ge157_0
                                  have HL157_0 := Aside0.mk (show Kd.R (Kd.int .i64) 3 _ _ _ _ (rd_L1 t127 x25_6) from ge157_0)
                                  clear hv157_0 ge157_0
                                  clear hcc157 hce157
                                  have HR157_0 := Aside0.mk hi157_0
                                  have HC157_0 := Aside0.mk hl157_0
                                  clear hi157_0 hl157_0
                                  replace p157 := eq_true p157
                                  replace q157 := eq_true q157
                                  have p158 : 0 ≤ (x25_6 : Int) := of_decide_eq_true (by first | (with_reducible assumption) | assumption)
                                  have q158 : x25_6 < (y156.length : Int) := of_decide_eq_true (by first | (with_reducible assumption) | assumption)
                                  obtain ⟨ad158, e158, hx158_0⟩ := Kd.at_int (Kd.R_reads' HO_19.out).2.2 x25_6 p158 q158
                                  obtain rfl : (⟨go60, 0, none⟩ : Addr) = ad158 := (by injection e158)
                                  (first | simp only [add_plain] at hx158_0 | simp only [add_at] at hx158_0 | simp only [Addr.add, Nat.zero_add] at hx158_0 | skip)
                                  replace p158 := eq_true p158
                                  replace q158 := eq_true q158
                                  have p159 : 0 ≤ ((rd y156 x25_6) : Int) := of_decide_eq_true (by first | (with_reducible assumption) | assumption)
                                  have q159 : (rd y156 x25_6) < ((rd_L1 t127 x25_6).length : Int) := of_decide_eq_true (by first | (with_reducible assumption) | assumption)
                                  obtain ⟨ad159, e159, hx159_0⟩ := Kd.at_int (by repeat (first | (with_reducible exact HR157_0.out) | (with_reducible refine Kd.C_alloc ?_ _) | (with_reducible refine Kd.C_drewN ?_ _) | (with_reducible refine Kd.C_drew ?_) | exact HR157_0.out)) (rd y156 x25_6) p159 q159
                                  cases e159
                                  replace p159 := eq_true p159
                                  replace q159 := eq_true q159
                                  refine start_ (n := 13) (S := fun w' => w'.cell? (ad135.add (x25_6).toNat) = some (.slice (some ad159) (rd_L1 t127 x25_6).length c157_0) ∧ w'.cell? ⟨go60, (x25_6).toNat, none⟩ = some (.int .i64 (rd y156 x25_6)) ∧ w'.cell? (ad159.add ((rd y156 x25_6)).toNat) = some (.int .i64 (rd (rd_L1 t127 x25_6) (rd y156 x25_6)))) (ds := []) #[false, false, false, false, false, false, false, false, false, false, false, false, false] (by kernel_rfl) rfl rfl ⟨hx157_0, hx158_0, hx159_0⟩ (fun hHeld => ?_); refine with_tabW hypercubelaw9_MatchLeast.tab33 hypercubelaw9_MatchLeast.bits33 (fun HT_ HW_ => ?_)
                                  generalize wr.drew = w73 at HO_11 HO_12 HO_19 HB HL157_0 HR157_0 hx157_0 hx158_0 hx159_0 hHeld ⊢
                                  refine pure_ (i := 0) (N := some 153) (v := ?_) (a' := ?_) #[true, false, false, false, false, false, false, false, false, false, false, false, false] rfl rfl (any_of HT_.out (by kernel_rfl)) (fun _ _ _ h => h) (Or.inl ⟨by rfl, ?_⟩) ?_ ?_
                                  rotate_left
                                  ·intro w'
                                   go_simp
                                   with_reducible rfl
                                  rotate_left
                                  ·simp only [Act.put, List.setIfInBounds_toArray, List.set_cons_zero, List.set_cons_succ, i64_w, i32_w]
                                   rfl
                                  refine pure_ (i := 1) (N := some 154) (v := ?_) (a' := ?_) #[true, true, false, false, false, false, false, false, false, false, false, false, false] rfl rfl (any_of HT_.out (by kernel_rfl)) (fun _ _ _ h => h) (Or.inl ⟨by rfl, ?_⟩) ?_ ?_
                                  rotate_left
                                  ·intro w'
                                   go_simp
                                   with_reducible rfl
                                  rotate_left
                                  ·simp only [Act.put, List.setIfInBounds_toArray, List.set_cons_zero, List.set_cons_succ, i64_w, i32_w]
                                   rfl
                                  refine pure_ (i := 2) (N := some 155) (v := ?_) (a' := ?_) #[true, true, true, false, false, false, false, false, false, false, false, false, false] rfl rfl (any_of HT_.out (by kernel_rfl)) (fun _ _ _ h => h) (Or.inl ⟨by rfl, ?_⟩) ?_ ?_
                                  rotate_left
                                  ·intro w'
                                   go_simp
                                   with_reducible rfl
                                  rotate_left
                                  ·simp only [Act.put, List.setIfInBounds_toArray, List.set_cons_zero, List.set_cons_succ, i64_w, i32_w]
                                   rfl
                                  refine pure_ (i := 3) (N := some 156) (v := ?_) (a' := ?_) #[true, true, true, true, false, false, false, false, false, false, false, false, false] rfl rfl (any_of HT_.out (by kernel_rfl)) (fun _ _ _ h => h) (Or.inl ⟨by rfl, ?_⟩) ?_ ?_
                                  rotate_left
                                  ·intro w'
                                   go_simp
                                   with_reducible rfl
                                  rotate_left
                                  ·simp only [Act.put, List.setIfInBounds_toArray, List.set_cons_zero, List.set_cons_succ, i64_w, i32_w]
                                   rfl
                                  refine pure_ (i := 5) (N := some 158) (v := ?_) (a' := ?_) #[true, true, true, true, false, true, false, false, false, false, false, false, false] rfl rfl (any_of HT_.out (by kernel_rfl)) (fun _ _ _ h => h) (Or.inl ⟨by rfl, ?_⟩) ?_ ?_
                                  rotate_left
                                  ·intro w'
                                   go_simp
                                   with_reducible rfl
                                  rotate_left
                                  ·simp only [Act.put, List.setIfInBounds_toArray, List.set_cons_zero, List.set_cons_succ, i64_w, i32_w]
                                   rfl
                                  refine pure_ (i := 6) (N := some 159) (v := ?_) (a' := ?_) #[true, true, true, true, false, true, true, false, false, false, false, false, false] rfl rfl (any_of HT_.out (by kernel_rfl)) (fun _ _ _ h => h) (Or.inl ⟨by rfl, ?_⟩) ?_ ?_
                                  rotate_left
                                  ·intro w'
                                   go_simp
                                   with_reducible rfl
                                  rotate_left
                                  ·simp only [Act.put, List.setIfInBounds_toArray, List.set_cons_zero, List.set_cons_succ, i64_w, i32_w]
                                   rfl
                                  refine pure_ (i := 7) (N := some 160) (v := ?_) (a' := ?_) #[true, true, true, true, false, true, true, true, false, false, false, false, false] rfl rfl (any_of HT_.out (by kernel_rfl)) (fun _ _ _ h => h) (Or.inl ⟨by rfl, ?_⟩) ?_ ?_
                                  rotate_left
                                  ·intro w'
                                   go_simp
                                   with_reducible rfl
                                  rotate_left
                                  ·simp only [Act.put, List.setIfInBounds_toArray, List.set_cons_zero, List.set_cons_succ, i64_w, i32_w]
                                   rfl
                                  refine take_ (i := 4) (N := some 157) (v := ?_) (a' := ?_) #[true, true, true, true, true, true, true, true, false, false, false, false, false] rfl rfl (take_ofW HT_.out HW_.out (by kernel_rfl)) (fun _ _ _ h => h) (Or.inl ⟨by rfl, ?_⟩) hHeld ?_ ?_
                                  rotate_left
                                  ·rintro w' ⟨s0, s1, s2⟩
                                   go_simp
                                   with_reducible rfl
                                  rotate_left
                                  ·simp only [Act.put, List.setIfInBounds_toArray, List.set_cons_zero, List.set_cons_succ, i64_w, i32_w]
                                   rfl
                                  refine take_ (i := 8) (N := some 161) (v := ?_) (a' := ?_) #[true, true, true, true, true, true, true, true, true, false, false, false, false] rfl rfl (take_ofW HT_.out HW_.out (by kernel_rfl)) (fun _ _ _ h => h) (Or.inl ⟨by rfl, ?_⟩) hHeld ?_ ?_
                                  rotate_left
                                  ·rintro w' ⟨s0, s1, s2⟩
                                   go_simp
                                   with_reducible rfl
                                  rotate_left
                                  ·simp only [Act.put, List.setIfInBounds_toArray, List.set_cons_zero, List.set_cons_succ, i64_w, i32_w]
                                   rfl
                                  refine pure_ (i := 9) (N := some 162) (v := ?_) (a' := ?_) #[true, true, true, true, true, true, true, true, true, true, false, false, false] rfl rfl (any_of HT_.out (by kernel_rfl)) (fun _ _ _ h => h) (Or.inl ⟨by rfl, ?_⟩) ?_ ?_
                                  rotate_left
                                  ·intro w'
                                   go_simp
                                   with_reducible rfl
                                  rotate_left
                                  ·simp only [Act.put, List.setIfInBounds_toArray, List.set_cons_zero, List.set_cons_succ, i64_w, i32_w]
                                   rfl
                                  refine take_ (i := 10) (N := some 163) (v := ?_) (a' := ?_) #[true, true, true, true, true, true, true, true, true, true, true, false, false] rfl rfl (take_ofW HT_.out HW_.out (by kernel_rfl)) (fun _ _ _ h => h) (Or.inl ⟨by rfl, ?_⟩) hHeld ?_ ?_
                                  rotate_left
                                  ·rintro w' ⟨s0, s1, s2⟩
                                   go_simp
                                   with_reducible rfl
                                  rotate_left
                                  ·simp only [Act.put, List.setIfInBounds_toArray, List.set_cons_zero, List.set_cons_succ, i64_w, i32_w]
                                   rfl
                                  refine pure_ (i := 11) (N := some 164) (v := ?_) (a' := ?_) #[true, true, true, true, true, true, true, true, true, true, true, true, false] rfl rfl (any_of HT_.out (by kernel_rfl)) (fun _ _ _ h => h) (Or.inl ⟨by rfl, ?_⟩) ?_ ?_
                                  rotate_left
                                  ·intro w'
                                   go_simp
                                   with_reducible rfl
                                  rotate_left
                                  ·simp only [Act.put, List.setIfInBounds_toArray, List.set_cons_zero, List.set_cons_succ, i64_w, i32_w]
                                   rfl
                                  refine pure_ (i := 12) (N := some 24) (v := ?_) (a' := ?_) #[true, true, true, true, true, true, true, true, true, true, true, true, true] rfl rfl (any_of HT_.out (by kernel_rfl)) (fun _ _ _ h => h) (Or.inl ⟨by rfl, ?_⟩) ?_ ?_
                                  rotate_left
                                  ·intro w'
                                   go_simp
                                   with_reducible rfl
                                  rotate_left
                                  ·simp only [Act.put, List.setIfInBounds_toArray, List.set_cons_zero, List.set_cons_succ, i64_w, i32_w]
                                   rfl
                                  refine done_ (done_of HT_.out (by kernel_rfl)) ?_
                                  try go_wp2
                                  (try simp only [← hl19_6])
                                  go_roundg k6
                                  case measure => have := HJ9.out; have := HK2.out; have := HK3.out; have := HK4.out; have := HJ47.out; have := HK6.out; omega
                                  case rel => exact ⟨(wrap64 (x24_6 + (rd (rd_L1 t127 x25_6) (rd y156 x25_6)))), (wrap64 (x25_6 + 1)), (by first | rfl | (simp; done) | (simp [*]; done)), (by first | rfl | (simp; done) | (simp [*]; done)), H', ⟨by have := HJ9.out; have := HK2.out; have := HK3.out; have := HK4.out; have := HJ47.out; have := HK6.out; omega⟩, ⟨by (try simp only [hl19_6]); (with_reducible repeat (first | apply Kd.S_alloc | apply Kd.S_drewN | apply Kd.S_drew)); exact HO_11.out⟩, ⟨by (try simp only [hl19_6]); (with_reducible repeat (first | apply Kd.R_alloc | apply Kd.R_drewN | apply Kd.R_drew)); exact HO_12.out⟩, ⟨by (try simp only [hl19_6]); (with_reducible repeat (first | apply Kd.R_alloc | apply Kd.R_drewN | apply Kd.R_drew)); exact HO_19.out⟩, ⟨by repeat (first | (with_reducible first | exact HB.out | apply below_alloc | apply pw_below_drewN | apply below_drew1) | exact HB.out)⟩⟩
                                 ·rw [if_neg c72] at H
                                  exact absurd H (by simp)
                                ·rw [if_neg c71] at H
                                 exact absurd H (by simp)
                               ·rw [if_neg c70] at H
                                exact absurd H (by simp)
                              ·rw [if_neg c69] at H
                               exact absurd H (by simp)
                             ·rw [if_neg c68] at H
                              have c68b0 : decide (x25_6 < (t127.length : Int)) = false := decide_eq_false c68
                              clear c68
                              by_cases c74 : x24_6 < t131
                              ·rw [if_pos c74] at H
                               have c74b0 : decide (x24_6 < t131) = true := decide_eq_true c74
                               clear c74
                               obtain rfl := Option.some.inj H
                               go_wp2
                               go_ret
                               exact ⟨by first | rfl | (simp [errW_none, errW_some] <;> rfl) | (simp only [← hji57]; first | rfl | (simp [errW_none, errW_some] <;> rfl)) | (simp [*, errW_none, errW_some] <;> rfl), by repeat (first | (with_reducible first | exact HB.out | apply below_alloc | apply pw_below_drewN | apply below_drew1) | exact HB.out)⟩
                              ·rw [if_neg c74] at H
                               have c74b0 : decide (x24_6 < t131) = false := decide_eq_false c74
                               clear c74
                               by_cases c75 : x24_6 = t131
                               ·rw [if_pos c75] at H
                                have c75b0 : (x24_6 == t131) = true := beq_iff_eq.mpr c75
                                have c75b1 : (x24_6 != t131) = false := bne_eq_false_iff_eq.mpr c75
                                clear c75
                                by_cases c76 : 0 ≤ (t127.length : Int)
                                ·rw [if_pos c76] at H
                                 have c76b0 := eq_true c76
                                 have c76b1 : decide (0 ≤ (t127.length : Int)) = true := decide_eq_true c76
                                 clear c76
                                 by_cases c77 : (t127.length : Int) ≤ (y156.length : Int)
                                 ·rw [if_pos c77] at H
                                  have c77b0 := eq_true c77
                                  have c77b1 : decide ((t127.length : Int) ≤ (y156.length : Int)) = true := decide_eq_true c77
                                  clear c77
                                  obtain ⟨y160, hy160⟩ : ∃ y_ : List Int, y_ = (y156.take ((t127.length : Int) : Int).toNat) := ⟨_, rfl⟩
                                  replace H : ((hypercubelaw9_ahead.f k6 y160 t130).bind fun t164 => (if t164 = true then (some false) else (hypercubelaw9_MatchLeast.l2 k6 l4 t127 t130 t131 ((rd_L1 t127 0).length : Int) x16_2 y156 (wrap64 (x21_4 + 1))))) = some r := by first | (rw [hy160]; with_reducible exact H) | (have H2_ := (Option.bind_some _ _).symm.trans H; rw [hy160]; with_reducible exact H2_) | (have H2_ := (Option.bind_some _ _).symm.trans H; with_reducible exact H2_) | with_reducible exact H | (rw [hy160]; exact H) | exact H
                                  have Ny160 := Aside0.mk hy160
                                  clear hy160
                                  replace H := Option.bind_eq_some_iff.mp H
                                  obtain ⟨t164, A780, H⟩ := H
                                  replace H : (if t164 = true then (some false) else (hypercubelaw9_MatchLeast.l2 k6 l4 t127 t130 t131 ((rd_L1 t127 0).length : Int) x16_2 y156 (wrap64 (x21_4 + 1)))) = some r := H
                                  have A78 := Aside0.mk A780
                                  clear A780
                                  by_cases c79 : t164 = true
                                  ·subst c79
                                   have H1 : (some false) = some r := by rw [if_pos rfl] at H; exact H
                                   clear H
                                   have H := H1
                                   clear H1
                                   obtain rfl := Option.some.inj H
                                   have q80 : ((t127.length : Int) : Int) ≤ ((y156.length : Int) : Int) := of_decide_eq_true (by first | (with_reducible assumption) | assumption)
                                   obtain ⟨i080, hi080, _, hsz80, _⟩ := info_parts info3
                                   have hroom80 : y156.length ≤ co65 := (Kd.R_reads' HO_19.out).2.1
                                   have hC80 : Kd.C (Kd.int .i64) _ (some ⟨go60, 0, none⟩) y156.length y156 := (Kd.R_reads' HO_19.out).2.2
                                   have hcut80 := cut_to (P := Try.prog) 22 3 .i64 Try.underlying22 hi080 (some ⟨go60, 0, none⟩) y156.length co65 (t127.length : Int) (of_decide_eq_true (by first | (with_reducible assumption) | assumption)) q80 hroom80
                                   have hr80 := Kd.C_take (m := ((t127.length : Int) : Int).toNat) hC80 (by omega)
                                   have hy80 : y160.length = ((t127.length : Int) : Int).toNat := (by rw [Ny160.out, List.length_take]; omega)
                                   rw [← Ny160.out] at hr80
                                   rw [← hy80] at hcut80
                                   have HR163 := Aside0.mk hr80
                                   have HC163 := Aside0.mk (show y160.length ≤ co65 from by omega)
                                   clear hr80 hC80 hroom80 hi080 hsz80
                                   have KY80 := Aside0.mk hy80
                                   clear hy80
                                   have KL80 := Aside0.mk (show ((t127.length : Int) : Int).toNat ≤ y156.length from by omega)
                                   replace q80 := eq_true q80
                                   go_wp2_with (first | (go_at_call 19; (with_reducible refine (hypercubelaw9_ahead.calls k6 _ _ y160 _ _ t130 true _ ?side1 ?side2 ?side3 ?side4 A78.out).mono ?_); (case side1 => repeat (first | exact (by repeat (first | (with_reducible exact HR163.out) | (with_reducible refine Kd.C_alloc ?_ _) | (with_reducible refine Kd.C_drewN ?_ _) | (with_reducible refine Kd.C_drew ?_) | exact HR163.out)) | (with_reducible refine Kd.C_alloc ?_ _) | (with_reducible refine Kd.C_drewN ?_ _) | (with_reducible refine Kd.C_drew ?_))); (case side2 => exact HC163.out); (case side3 => repeat (first | exact (Kd.R_reads' HO_12.out).2.2 | (with_reducible refine Kd.C_alloc ?_ _) | (with_reducible refine Kd.C_drewN ?_ _) | (with_reducible refine Kd.C_drew ?_))); (case side4 => exact (Kd.R_reads' HO_12.out).2.1); rintro e w' ⟨rfl, ⟨nd, rfl⟩⟩))
                                   go_ret
                                   exact ⟨by first | rfl | (simp [errW_none, errW_some] <;> rfl) | (simp only [← hji57]; first | rfl | (simp [errW_none, errW_some] <;> rfl)) | (simp [*, errW_none, errW_some] <;> rfl), by repeat (first | (with_reducible first | exact HB.out | apply below_alloc | apply pw_below_drewN | apply below_drew1) | exact HB.out)⟩
                                  ·replace c79 := Bool.eq_false_iff.mpr c79
                                   subst c79
                                   have H1 : (hypercubelaw9_MatchLeast.l2 k6 l4 t127 t130 t131 ((rd_L1 t127 0).length : Int) x16_2 y156 (wrap64 (x21_4 + 1))) = some r := by rw [if_neg (show ¬ (false = true) by decide)] at H; exact H
                                   clear H
                                   have H := H1
                                   clear H1
                                   have H' := Aside0.mk H
                                   clear H
                                   have q81 : ((t127.length : Int) : Int) ≤ ((y156.length : Int) : Int) := of_decide_eq_true (by first | (with_reducible assumption) | assumption)
                                   obtain ⟨i081, hi081, _, hsz81, _⟩ := info_parts info3
                                   have hroom81 : y156.length ≤ co65 := (Kd.R_reads' HO_19.out).2.1
                                   have hC81 : Kd.C (Kd.int .i64) _ (some ⟨go60, 0, none⟩) y156.length y156 := (Kd.R_reads' HO_19.out).2.2
                                   have hcut81 := cut_to (P := Try.prog) 22 3 .i64 Try.underlying22 hi081 (some ⟨go60, 0, none⟩) y156.length co65 (t127.length : Int) (of_decide_eq_true (by first | (with_reducible assumption) | assumption)) q81 hroom81
                                   have hr81 := Kd.C_take (m := ((t127.length : Int) : Int).toNat) hC81 (by omega)
                                   have hy81 : y160.length = ((t127.length : Int) : Int).toNat := (by rw [Ny160.out, List.length_take]; omega)
                                   rw [← Ny160.out] at hr81
                                   rw [← hy81] at hcut81
                                   have HR163 := Aside0.mk hr81
                                   have HC163 := Aside0.mk (show y160.length ≤ co65 from by omega)
                                   clear hr81 hC81 hroom81 hi081 hsz81
                                   have KY81 := Aside0.mk hy81
                                   clear hy81
                                   have KL81 := Aside0.mk (show ((t127.length : Int) : Int).toNat ≤ y156.length from by omega)
                                   replace q81 := eq_true q81
                                   go_wp2_with (first | (go_at_call 19; (with_reducible refine (hypercubelaw9_ahead.calls k6 _ _ y160 _ _ t130 false _ ?side1 ?side2 ?side3 ?side4 A78.out).mono ?_); (case side1 => repeat (first | exact (by repeat (first | (with_reducible exact HR163.out) | (with_reducible refine Kd.C_alloc ?_ _) | (with_reducible refine Kd.C_drewN ?_ _) | (with_reducible refine Kd.C_drew ?_) | exact HR163.out)) | (with_reducible refine Kd.C_alloc ?_ _) | (with_reducible refine Kd.C_drewN ?_ _) | (with_reducible refine Kd.C_drew ?_))); (case side2 => exact HC163.out); (case side3 => repeat (first | exact (Kd.R_reads' HO_12.out).2.2 | (with_reducible refine Kd.C_alloc ?_ _) | (with_reducible refine Kd.C_drewN ?_ _) | (with_reducible refine Kd.C_drew ?_))); (case side4 => exact (Kd.R_reads' HO_12.out).2.1); rintro e w' ⟨rfl, ⟨nd, rfl⟩⟩))
                                   (try simp only [← hl19_6])
                                   go_roundg k6
                                   case measure => have := HJ9.out; have := HK2.out; have := HK3.out; have := HK4.out; have := HJ47.out; have := HK6.out; omega
                                   case rel => exact ⟨(y156), (wrap64 (x21_4 + 1)), (by first | rfl | (simp; done) | (simp [*]; done)), H', ⟨by have := HJ9.out; have := HK2.out; have := HK3.out; have := HK4.out; have := HJ47.out; have := HK6.out; omega⟩, ⟨by (try simp only [hl19_6]); (with_reducible repeat (first | apply Kd.S_alloc | apply Kd.S_drewN | apply Kd.S_drew)); exact HO_11.out⟩, ⟨by (try simp only [hl19_6]); (with_reducible repeat (first | apply Kd.R_alloc | apply Kd.R_drewN | apply Kd.R_drew)); exact HO_12.out⟩, ⟨by (try simp only [hl19_6]); (with_reducible repeat (first | apply Kd.R_alloc | apply Kd.R_drewN | apply Kd.R_drew)); exact HO_19.out⟩, ⟨by repeat (first | (with_reducible first | exact HB.out | apply below_alloc | apply pw_below_drewN | apply below_drew1) | exact HB.out)⟩⟩
                                 ·rw [if_neg c77] at H
                                  exact absurd H (by simp)
                                ·rw [if_neg c76] at H
                                 exact absurd H (by simp)
                               ·rw [if_neg c75] at H
                                have c75b0 : (x24_6 == t131) = false := beq_eq_false_iff_ne.mpr c75
                                have c75b1 : (x24_6 != t131) = true := bne_iff_ne.mpr c75
                                have H' := Aside0.mk H
                                clear H
                                go_wp2
                                (try simp only [← hl19_6])
                                go_roundg k6
                                case measure => have := HJ9.out; have := HK2.out; have := HK3.out; have := HK4.out; have := HJ47.out; have := HK6.out; omega
                                case rel => exact ⟨(y156), (wrap64 (x21_4 + 1)), (by first | rfl | (simp; done) | (simp [*]; done)), H', ⟨by have := HJ9.out; have := HK2.out; have := HK3.out; have := HK4.out; have := HJ47.out; have := HK6.out; omega⟩, ⟨by (try simp only [hl19_6]); (with_reducible repeat (first | apply Kd.S_alloc | apply Kd.S_drewN | apply Kd.S_drew)); exact HO_11.out⟩, ⟨by (try simp only [hl19_6]); (with_reducible repeat (first | apply Kd.R_alloc | apply Kd.R_drewN | apply Kd.R_drew)); exact HO_12.out⟩, ⟨by (try simp only [hl19_6]); (with_reducible repeat (first | apply Kd.R_alloc | apply Kd.R_drewN | apply Kd.R_drew)); exact HO_19.out⟩, ⟨by repeat (first | (with_reducible first | exact HB.out | apply below_alloc | apply pw_below_drewN | apply below_drew1) | exact HB.out)⟩⟩
                          ·rw [if_neg c59] at H
                           exact absurd H (by simp)
                         ·rw [if_neg c58] at H
                          exact absurd H (by simp)
                        ·rw [if_neg c56] at H
                         exact absurd H (by simp)
                       ·rw [if_neg c55] at H
                        exact absurd H (by simp)
                      ·rw [if_neg c53] at H
                       exact absurd H (by simp)
                     ·rw [if_neg c52] at H
                      exact absurd H (by simp)
                   ·replace c50 := Bool.eq_false_iff.mpr c50
                    subst c50
                    have H1 : (some (x16_2 == t131)) = some r := by rw [if_neg (show ¬ (false = true) by decide)] at H; exact H
                    clear H
                    have H := H1
                    clear H1
                    obtain rfl := Option.some.inj H
                    go_wp2
                    go_ret
                    exact ⟨by first | rfl | (simp [errW_none, errW_some] <;> rfl) | (simp [*, errW_none, errW_some] <;> rfl), by repeat (first | (with_reducible first | exact HB.out | apply below_alloc | apply pw_below_drewN | apply below_drew1) | exact HB.out)⟩
        ·rw [if_neg c21] at H
         exact absurd H (by simp)
       ·rw [if_neg c20] at H
        exact absurd H (by simp)
      ·rw [if_neg c19] at H
       exact absurd H (by simp)
 ·replace c7 := Bool.eq_false_iff.mpr c7
  subst c7
  have H1 : (some false) = some r := by rw [if_neg (show ¬ (false = true) by decide)] at H; exact H
  clear H
  have H := H1
  clear H1
  obtain rfl := Option.some.inj H
  go_enter Try.func4, Try.ntmps4
  go_wp2_with (first | ((with_reducible refine gate_callee (f := 13) rfl ?_); refine goesL_ (some 26) rfl rfl Try.func13 (by kernel_rfl) rfl #[] rfl (by (try simp only [List.map_toArray, List.map_cons, List.map_nil]); first | done | rfl | (simp only [List.length_drop, List.length_take]; rfl)) ?_; (with_reducible refine (hypercubelaw9_known.calls  false _ A6.out).mono ?_); rintro e w82 ⟨rfl, hb⟩; refine ⟨_, rfl, ?_⟩; have n0_ := Aside0.mk (below_step (by repeat (first | (with_reducible first | exact HB.out | apply below_alloc | apply pw_below_drewN | apply below_drew1) | exact HB.out)) hb); clear HB; have HB := n0_; clear n0_; (try clear hb); (try clear hb2); (try clear hk); (try clear hi)))
  go_ret
  exact ⟨by first | rfl | (simp [errW_none, errW_some] <;> rfl) | (simp [*, errW_none, errW_some] <;> rfl), by repeat (first | (with_reducible first | exact HB.out | apply below_alloc | apply pw_below_drewN | apply below_drew1) | exact HB.out)⟩

/-- THE ONE PURE STATEMENT of hypercubelaw9_MatchLeast: yours. -/
def hypercubelaw9_MatchLeast.Pure : Prop := ∀ (a0 : Int) (a1 : Int) (l2 : List Int) (a3 : Int) (l4 : List Int), (Lit.int .i64 a0).wf = true → (Lit.int .i64 a1).wf = true → l2.length ≤ maxLen → l2.length * 8 ≤ 140737488351232 → (∀ x ∈ l2, (Lit.int .i64 x).wf = true) → (Lit.int .i64 a3).wf = true → l4.length ≤ maxLen → l4.length * 8 ≤ 140737488351232 → (∀ x ∈ l4, (Lit.int .i64 x).wf = true) → ∃ k, hypercubelaw9_MatchLeast.f k a0 a1 l2 a3 l4 = some true
theorem hypercubelaw9_MatchLeast.walk (P : hypercubelaw9_MatchLeast.Pure) (a0 : Int) (a1 : Int) (a2 : Option Addr) (len2 cap2 : Nat) (z2 : List Int) (a3 : Int) (a4 : Option Addr) (len4 cap4 : Nat) (z4 : List Int) (w : World) (w0 : (Lit.int .i64 a0).wf = true) (w1 : (Lit.int .i64 a1).wf = true) (w2 : (a2 = none ∧ len2 = 0 ∧ cap2 = 0 ∧ z2 = []) ∨ ∃ x, a2 = some x ∧ len2 ≤ cap2 ∧ cap2 ≤ maxLen ∧ z2.length = cap2 ∧ (∀ i, i < z2.length → w.cell? (x.add i) = some (.int .i64 (z2.getD i 0))) ∧ ∀ n ∈ z2, (Lit.int .i64 n).wf = true) (y2 : len2 * 8 ≤ 140737488351232) (w3 : (Lit.int .i64 a3).wf = true) (w4 : (a4 = none ∧ len4 = 0 ∧ cap4 = 0 ∧ z4 = []) ∨ ∃ x, a4 = some x ∧ len4 ≤ cap4 ∧ cap4 ≤ maxLen ∧ z4.length = cap4 ∧ (∀ i, i < z4.length → w.cell? (x.add i) = some (.int .i64 (z4.getD i 0))) ∧ ∀ n ∈ z4, (Lit.int .i64 n).wf = true) (y4 : len4 * 8 ≤ 140737488351232) :
  Calls Try.prog 4 #[.int .i64 a0, .int .i64 a1, .slice a2 len2 cap2, .int .i64 a3, .slice a4 len4 cap4] w fun e w' => e = .returned (.bool true) ∧ Below w.heap.size w w' := by
 obtain ⟨l2, rfl, hr2, hm2, hw2, hc2⟩ := ReadsInt.ofRowC w2
 obtain ⟨l4, rfl, hr4, hm4, hw4, hc4⟩ := ReadsInt.ofRowC w4
 obtain ⟨k, h⟩ := P a0 a1 l2 a3 l4 w0 w1 hm2 y2 hw2 w3 hm4 y4 hw4
 refine (hypercubelaw9_MatchLeast.calls k a0 a1 _ _ l2 a3 _ _ l4 true w (Kd.C_of_reads (d := (0 : Int)) (h1 := fun _ => rfl) hr2) hc2 (Kd.C_of_reads (d := (0 : Int)) (h1 := fun _ => rfl) hr4) hc4 h).mono ?_
 rintro e w' ⟨rfl, hd⟩
 exact ⟨rfl, hd⟩

end Go.Proofs.Ytgnkpahnhhmceaa.PMatchLeast
