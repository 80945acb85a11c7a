-- Cut by pack.py, a program of this session; not trusted: Lean checks it.
import Derived.Test.YtlplaidcdocbmaaZPLatticeSetsx0
import Derived.Test.YtlplaidcdocbmaaZPLatticeSetsx1
namespace Go.Proofs.Ytlplaidcdocbmaa.PLatticeSets
open Go.RowKit Go.Proofs.YtlplaidcdocbmaaW.PrintWords Go.Proofs.YtlplaidcdocbmaaW.PrintLast Go.Proofs.YtlplaidcdocbmaaW.PrintMore
private abbrev fl_ (a b : Nat) : Array Bool := (List.replicate a true ++ List.replicate b false).toArray
private abbrev Y : Bool := true
private abbrev Z : Bool := false
open List renaming setIfInBounds_toArray → sl0, set_cons_zero → sl1, set_cons_succ → sl2
private theorem od_ {p : Prop} [Decidable p] (h : decide p = true := by first | (with_reducible assumption) | assumption) : p := of_decide_eq_true h
attribute [local go_sem] max2_int min2_int max_two min_two max_three min_three max_four min_four   -- for this text's walks alone
set_option linter.unusedVariables false
set_option linter.unusedSimpArgs false

/-! ### hypercubelaw8_LatticeSets: function 3 -/
mutual
def hypercubelaw8_LatticeSets.l0 : Nat → Int → List Int → List Bool → Int → Option (Bool)
 | 0, _, _, _, _ => none
 | k + 1, x3, x4, x5, x6 => if x6 < (x4.length : Int) then (if 0 ≤ x6 then (if (rd x4 x6) < 0 then (hypercubelaw8_LatticeSets.j1 k x3 x4 x5 x6 true) else (if (rd x4 x6) ≥ (x4.length : Int) then (hypercubelaw8_LatticeSets.j1 k x3 x4 x5 x6 true) else (if 0 ≤ (rd x4 x6) then (if (rd x4 x6) < (x5.length : Int) then (hypercubelaw8_LatticeSets.j1 k x3 x4 x5 x6 (rdOf false x5 (rd x4 x6))) else (none)) else (none)))) else (none)) else (some true)
def hypercubelaw8_LatticeSets.j1 : Nat → Int → List Int → List Bool → Int → Bool → Option (Bool)
 | 0, _, _, _, _, _ => none
 | k + 1, x3, x4, x5, x6, x53 => if x53 = true then (some false) else (if 0 ≤ x6 then (if x6 < (x4.length : Int) then ((lattice_Parents.f (rd x4 x6) x3).bind fun t138 => ((lattice_Level.f (rd x4 x6)).bind fun t142 => (if (t138.length : Int) = (wrap64 (x3 - t142)) then (hypercubelaw8_LatticeSets.l1 k x3 x4 x5 x6 t138 0) else (some false)))) else (none)) else (none))
def hypercubelaw8_LatticeSets.l1 : Nat → Int → List Int → List Bool → Int → List Int → Int → Option (Bool)
 | 0, _, _, _, _, _, _ => none
 | k + 1, x3, x4, x5, x6, x7, x8 => if x8 < (x7.length : Int) then (if 0 ≤ x8 then (if (rd x7 x8) < 0 then (some false) else (if (rd x7 x8) ≥ (x4.length : Int) then (some false) else (if 0 ≤ (rd x7 x8) then (if (rd x7 x8) < (x5.length : Int) then (if (rdOf false x5 (rd x7 x8) = true) then (if 0 ≤ x6 then (if x6 < (x4.length : Int) then (if (Go.bits .and .i64 (rd x7 x8) (rd x4 x6)) = (rd x4 x6) then (if x8 > 0 then (if 0 ≤ (wrap64 (x8 - 1)) then (if (wrap64 (x8 - 1)) < (x7.length : Int) then (if (rd x7 (wrap64 (x8 - 1))) ≥ (rd x7 x8) then (some false) else (hypercubelaw8_LatticeSets.l1 k x3 x4 x5 x6 x7 (wrap64 (x8 + 1)))) else (none)) else (none)) else (hypercubelaw8_LatticeSets.l1 k x3 x4 x5 x6 x7 (wrap64 (x8 + 1)))) else (some false)) else (none)) else (none)) else (some false)) else (none)) else (none)))) else (none)) else (if 0 ≤ x6 then (if x6 < (x4.length : Int) then (if 0 ≤ (rd x4 x6) then (if (rd x4 x6) < (x5.length : Int) then ((some (x5.set ((rd x4 x6) : Int).toNat true : List Bool)).bind fun y153 => (if x6 > 0 then ((lattice_Level.f (rd x4 x6)).bind fun t155 => (if 0 ≤ (wrap64 (x6 - 1)) then (if (wrap64 (x6 - 1)) < (x4.length : Int) then ((lattice_Level.f (rd x4 (wrap64 (x6 - 1)))).bind fun t157 => (if t155 > t157 then (some false) else ((lattice_Level.f (rd x4 x6)).bind fun t159 => ((lattice_Level.f (rd x4 (wrap64 (x6 - 1)))).bind fun t161 => (if t159 = t161 then (if (rd x4 x6) ≤ (rd x4 (wrap64 (x6 - 1))) then (some false) else (hypercubelaw8_LatticeSets.l0 k x3 x4 y153 (wrap64 (x6 + 1)))) else (hypercubelaw8_LatticeSets.l0 k x3 x4 y153 (wrap64 (x6 + 1)))))))) else (none)) else (none))) else (hypercubelaw8_LatticeSets.l0 k x3 x4 y153 (wrap64 (x6 + 1))))) else (none)) else (none)) else (none)) else (none))
end
def hypercubelaw8_LatticeSets.f (k : Nat) (a0 : Int) : Option (Bool) := (hypercubelaw8_known.f).bind fun t125 => (if t125 = true then ((hypercubelaw8_within.f a0 4).bind fun t126 => ((lattice_Sets.f (wrap64 (1 + t126))).bind fun t127 => (if 0 ≤ (IntKind.u64.wrap (wrap64 (1 + t126))) then (if (t127.length : Int) = (shl .i64 1 (IntKind.u64.wrap (wrap64 (1 + t126)))) then (if 0 ≤ (t127.length : Int) then (if ((t127.length : Int) : Int).toNat ≤ 281474976710656 then (hypercubelaw8_LatticeSets.l0 k (wrap64 (1 + t126)) t127 (List.replicate ((t127.length : Int) : Int).toNat false) 0) else (none)) else (none)) else (some false)) else (none)))) else (some false))
def hypercubelaw8_LatticeSets.T19 : Bool × List (List Nat × List Nat) := (true, [([], []), ([], []), ([0, 1], [0, 1]), ([2], [2]), ([3], [3]), ([4], [4]), ([5], [5]), ([5], [5]), ([6, 7, 5], [5, 6, 7]), ([8, 5], [5, 8]), ([5], [5]), ([10, 5], [5, 10]), ([9, 11, 5], [5, 9, 11]), ([5, 12], [5, 12]), ([13, 5], [13]), ([14], [14]), ([14], [14]), ([14], [14]), ([16, 17, 14], [14, 16, 17]), ([18, 14], [14, 18]), ([15, 19, 14], [14, 15, 19]), ([20, 14], [14, 20]), ([21, 14], [14, 21]), ([14, 22], [14, 22]), ([23, 14], [23]), ([24], [24]), ([24], [24]), ([25, 26, 24], [24, 25, 26]), ([27, 24], [24, 27]), ([24], [24]), ([24], [24]), ([29, 30, 24], [24, 29, 30]), ([31, 24], [24, 31]), ([28, 32, 24], [24, 28, 32]), ([24], [24]), ([24], [24]), ([34, 35, 24], [24, 34, 35]), ([36, 24], [24, 36]), ([33, 37, 24], [24, 33, 37]), ([24, 38], [24, 38]), ([39, 24], [39]), ([40], [40]), ([41, 40], [40, 41]), ([42, 40, 40], [40, 42]), ([43], [43]), ([43], [43]), ([45, 43], [43, 45]), ([44, 46, 43], [43, 44, 46]), ([47, 43], [43, 47]), ([43], [43]), ([43], [43]), ([49, 50, 43], [43, 49, 50]), ([51, 43], [43, 51]), ([48, 52, 43], [43, 48, 52]), ([43, 53, 40], [40, 43, 53]), ([40, 54], [40, 54])])
def hypercubelaw8_LatticeSets.B19 : List Nat := [0, 0, 3, 7, 15, 31, 63, 63, 255, 511, 63, 1087, 4095, 8191, 16383, 32767, 32767, 32767, 229375, 491519, 1048575, 2097151, 4194303, 8388607, 16777215, 33554431, 33554431, 134217727, 268435455, 33554431, 33554431, 1644167167, 3791650815, 8589934591, 33554431, 33554431, 51573161983, 120292638719, 274877906943, 549755813887, 1099511627775, 2199023255551, 4398046511103, 8796093022207, 17592186044415, 17592186044415, 52776558133247, 140737488355327, 281474976710655, 17592186044415, 17592186044415, 1706442046308351, 3958241859993599, 9007199254740991, 18014398509481983, 36028797018963967]
theorem hypercubelaw8_LatticeSets.tab19 : rtab .any (opsOf Try.f3 19) = hypercubelaw8_LatticeSets.T19 := by kernel_rfl
theorem hypercubelaw8_LatticeSets.bits19 : waitsOk hypercubelaw8_LatticeSets.T19.2 hypercubelaw8_LatticeSets.B19 = true := by kernel_rfl
def hypercubelaw8_LatticeSets.T22 : Bool × List (List Nat × List Nat) := (true, [([], []), ([0], [0]), ([1], [1]), ([2], [2]), ([2], [2]), ([3, 4, 2], [2, 3, 4]), ([5, 2], [2, 5]), ([6, 2, 2], [2, 6]), ([2], [2]), ([2], [2]), ([9, 2], [2, 9]), ([8, 10, 2], [2, 8, 10]), ([11, 2], [2, 11]), ([12, 7, 2], [2, 12]), ([7, 13, 2], [2, 7, 13]), ([14, 13, 2], [2, 14]), ([15], [15]), ([15], [15]), ([16, 17, 15], [15, 16, 17]), ([18, 15], [15, 18]), ([19, 15, 15], [15, 19]), ([15], [15]), ([15], [15]), ([22, 15], [15, 22]), ([21, 23, 15], [15, 21, 23]), ([24, 15], [15, 24]), ([25, 20, 15], [15, 25]), ([20, 26, 15], [15, 20, 26]), ([27, 26, 15], [15, 27]), ([28], [28]), ([28], [28]), ([29, 30, 28], [28, 29, 30]), ([31, 28], [28, 31]), ([28], [28]), ([28], [28]), ([34, 28], [28, 34]), ([33, 35, 28], [28, 33, 35]), ([36, 28], [28, 36]), ([32, 37, 28], [28, 32, 37]), ([28, 38, 15], [15, 28, 38]), ([15, 39, 2], [2, 15, 39]), ([2, 40], [2, 40])])
def hypercubelaw8_LatticeSets.B22 : List Nat := [0, 1, 3, 7, 7, 31, 63, 127, 7, 7, 519, 1799, 3847, 8191, 16383, 32767, 65535, 65535, 262143, 524287, 1048575, 65535, 65535, 4259839, 14745599, 31522815, 67108863, 134217727, 268435455, 536870911, 536870911, 2147483647, 4294967295, 536870911, 536870911, 17716740095, 60666413055, 129385889791, 274877906943, 549755813887, 1099511627775, 2199023255551]
theorem hypercubelaw8_LatticeSets.tab22 : rtab .any (opsOf Try.f3 22) = hypercubelaw8_LatticeSets.T22 := by kernel_rfl
theorem hypercubelaw8_LatticeSets.bits22 : waitsOk hypercubelaw8_LatticeSets.T22.2 hypercubelaw8_LatticeSets.B22 = true := by kernel_rfl
set_option maxHeartbeats 8000000 in
set_option maxRecDepth 100000 in
theorem hypercubelaw8_LatticeSets.calls (k : Nat) (a0 : Int) (r : Bool) (w : World) (h : hypercubelaw8_LatticeSets.f k a0 = some r) (hrt_ : r = true) :
 Calls Try.prog 3 #[.int .i64 a0] w fun e w' => e = .returned (.bool r) ∧ Below w.heap.size w w' := by
 have HB := Aside0.mk (Below.refl w.heap.size w)
 have H : ((hypercubelaw8_known.f).bind fun t125 => (if t125 = true then ((hypercubelaw8_within.f a0 4).bind fun t126 => ((lattice_Sets.f (wrap64 (1 + t126))).bind fun t127 => (if 0 ≤ (IntKind.u64.wrap (wrap64 (1 + t126))) then (if (t127.length : Int) = (shl .i64 1 (IntKind.u64.wrap (wrap64 (1 + t126)))) then (if 0 ≤ (t127.length : Int) then (if ((t127.length : Int) : Int).toNat ≤ 281474976710656 then (hypercubelaw8_LatticeSets.l0 k (wrap64 (1 + t126)) t127 (List.replicate ((t127.length : Int) : Int).toNat false) 0) else (none)) else (none)) else (some false)) else (none)))) else (some false))) = some r := h
 clear h
 have HRT_ := Aside0.mk hrt_
 clear hrt_
 replace H := Option.bind_eq_some_iff.mp H
 obtain ⟨t125, A20, H⟩ := H
 replace H : (if t125 = true then ((hypercubelaw8_within.f a0 4).bind fun t126 => ((lattice_Sets.f (wrap64 (1 + t126))).bind fun t127 => (if 0 ≤ (IntKind.u64.wrap (wrap64 (1 + t126))) then (if (t127.length : Int) = (shl .i64 1 (IntKind.u64.wrap (wrap64 (1 + t126)))) then (if 0 ≤ (t127.length : Int) then (if ((t127.length : Int) : Int).toNat ≤ 281474976710656 then (hypercubelaw8_LatticeSets.l0 k (wrap64 (1 + t126)) t127 (List.replicate ((t127.length : Int) : Int).toNat false) 0) else (none)) else (none)) else (some false)) else (none)))) else (some false)) = some r := H
 have A2 := Aside0.mk A20
 clear A20
 by_cases c3 : t125 = true
 rotate_left
 ·replace c3 := Bool.eq_false_iff.mpr c3
  subst c3
  have H1 : (some false) = some r := by rw [if_neg (show ¬ (false = true) by decide)] at H; exact H
  clear H
  have H := H1
  clear H1
  obtain rfl := Option.some.inj H
  exact absurd HRT_.out (by decide)
 subst c3
 have H1 : ((hypercubelaw8_within.f a0 4).bind fun t126 => ((lattice_Sets.f (wrap64 (1 + t126))).bind fun t127 => (if 0 ≤ (IntKind.u64.wrap (wrap64 (1 + t126))) then (if (t127.length : Int) = (shl .i64 1 (IntKind.u64.wrap (wrap64 (1 + t126)))) then (if 0 ≤ (t127.length : Int) then (if ((t127.length : Int) : Int).toNat ≤ 281474976710656 then (hypercubelaw8_LatticeSets.l0 k (wrap64 (1 + t126)) t127 (List.replicate ((t127.length : Int) : Int).toNat false) 0) else (none)) else (none)) else (some false)) else (none)))) = some r := by rw [if_pos rfl] at H; exact H
 clear H
 have H := H1
 clear H1
 replace H := Option.bind_eq_some_iff.mp H
 obtain ⟨t126, A40, H⟩ := H
 replace H : ((lattice_Sets.f (wrap64 (1 + t126))).bind fun t127 => (if 0 ≤ (IntKind.u64.wrap (wrap64 (1 + t126))) then (if (t127.length : Int) = (shl .i64 1 (IntKind.u64.wrap (wrap64 (1 + t126)))) then (if 0 ≤ (t127.length : Int) then (if ((t127.length : Int) : Int).toNat ≤ 281474976710656 then (hypercubelaw8_LatticeSets.l0 k (wrap64 (1 + t126)) t127 (List.replicate ((t127.length : Int) : Int).toNat false) 0) else (none)) else (none)) else (some false)) else (none))) = some r := H
 have A4 := Aside0.mk A40
 clear A40
 replace H := Option.bind_eq_some_iff.mp H
 obtain ⟨t127, A50, H⟩ := H
 replace H : (if 0 ≤ (IntKind.u64.wrap (wrap64 (1 + t126))) then (if (t127.length : Int) = (shl .i64 1 (IntKind.u64.wrap (wrap64 (1 + t126)))) then (if 0 ≤ (t127.length : Int) then (if ((t127.length : Int) : Int).toNat ≤ 281474976710656 then (hypercubelaw8_LatticeSets.l0 k (wrap64 (1 + t126)) t127 (List.replicate ((t127.length : Int) : Int).toNat false) 0) else (none)) else (none)) else (some false)) else (none)) = some r := H
 have A5 := Aside0.mk A50
 clear A50
 obtain ⟨ji6, hji6⟩ : ∃ j_ : Int, (IntKind.u64.wrap (wrap64 (1 + t126))) = j_ := ⟨_, rfl⟩
 replace H : (if 0 ≤ (ji6) then (if (t127.length : Int) = (shl .i64 1 (ji6)) then (if 0 ≤ (t127.length : Int) then (if ((t127.length : Int) : Int).toNat ≤ 281474976710656 then (hypercubelaw8_LatticeSets.l0 k (wrap64 (1 + t126)) t127 (List.replicate ((t127.length : Int) : Int).toNat false) 0) else (none)) else (none)) else (some false)) else (none)) = some r := by first | (rw [hji6] at H; exact H) | (simp only [hji6] at H ⊢; exact H)
 (try rw [hji6] at A2)
 (try rw [hji6] at A4)
 (try rw [hji6] at A5)
 by_cases c7 : 0 ≤ (ji6)
 rotate_left
 ·rw [if_neg c7] at H
  exact absurd H (by simp)
 rw [if_pos c7] at H
 have c7b0 := eq_true c7
 have c7b1 : decide (0 ≤ (ji6)) = true := decide_eq_true c7
 clear c7
 obtain ⟨ji8, hji8⟩ : ∃ j_ : Int, (shl .i64 1 (ji6)) = j_ := ⟨_, rfl⟩
 replace H : (if (t127.length : Int) = (ji8) then (if 0 ≤ (t127.length : Int) then (if ((t127.length : Int) : Int).toNat ≤ 281474976710656 then (hypercubelaw8_LatticeSets.l0 k (wrap64 (1 + t126)) t127 (List.replicate ((t127.length : Int) : Int).toNat false) 0) else (none)) else (none)) else (some false)) = some r := by first | (rw [hji8] at H; exact H) | (simp only [hji8] at H ⊢; exact H)
 (try rw [hji8] at A2)
 (try rw [hji8] at A4)
 (try rw [hji8] at A5)
 have hji8_ : (IntKind.i64.wrap (1 * 2 ^ min (ji6).toNat 64)) = ji8 := hji8
 have hji8z : (ji6) ≤ 64 → (IntKind.i64.wrap (1 * 2 ^ (ji6).toNat)) = ji8 := shl_small hji8
 have hji8u : (IntKind.i64.wrap (2 ^ min (ji6).toNat 64)) = ji8 := by have h_ := hji8_; rw [Int.one_mul] at h_; exact h_
 have hji8v : (ji6) ≤ 64 → (IntKind.i64.wrap (2 ^ (ji6).toNat)) = ji8 := fun hle_ => by have h_ := hji8z hle_; rw [Int.one_mul] at h_; exact h_
 have hji8y : (wrap64 (1 * 2 ^ min (ji6).toNat 64)) = ji8 := (i64_w _).symm.trans hji8_
 have hji8x : (ji6) ≤ 64 → (wrap64 (1 * 2 ^ (ji6).toNat)) = ji8 := fun h_ => (i64_w _).symm.trans (hji8z h_)
 by_cases c9 : (t127.length : Int) = (ji8)
 rotate_left
 ·rw [if_neg c9] at H
  have c9b0 : ((t127.length : Int) == (ji8)) = false := beq_eq_false_iff_ne.mpr c9
  have c9b1 : ((t127.length : Int) != (ji8)) = true := bne_iff_ne.mpr c9
  obtain rfl := Option.some.inj H
  exact absurd HRT_.out (by decide)
 rw [if_pos c9] at H
 have c9b0 : ((t127.length : Int) == (ji8)) = true := beq_iff_eq.mpr c9
 have c9b1 : ((t127.length : Int) != (ji8)) = false := bne_eq_false_iff_eq.mpr c9
 clear c9
 by_cases c10 : 0 ≤ (t127.length : Int)
 rotate_left
 ·rw [if_neg c10] at H
  exact absurd H (by simp)
 rw [if_pos c10] at H
 have c10b0 := eq_true c10
 have c10b1 : decide (0 ≤ (t127.length : Int)) = true := decide_eq_true c10
 clear c10
 by_cases c11 : ((t127.length : Int) : Int).toNat ≤ 281474976710656
 rotate_left
 ·rw [if_neg c11] at H
  exact absurd H (by simp)
 rw [if_pos c11] at H
 have c11b0 := eq_true c11
 have c11b1 : decide (((t127.length : Int) : Int).toNat ≤ 281474976710656) = true := decide_eq_true c11
 clear c11
 obtain ⟨y130, hy130⟩ : ∃ y_ : List Bool, y_ = (List.replicate ((t127.length : Int) : Int).toNat false) := ⟨_, rfl⟩
 replace H : (hypercubelaw8_LatticeSets.l0 k (wrap64 (1 + t126)) t127 y130 0) = some r := by first | (rw [hy130]; with_reducible exact H) | (have H2_ := (Option.bind_some _ _).symm.trans H; rw [hy130]; with_reducible exact H2_) | (have H2_ := (Option.bind_some _ _).symm.trans H; with_reducible exact H2_) | with_reducible exact H | (rw [hy130]; exact H) | exact H
 have Ny130 := Aside0.mk hy130
 clear hy130
 have H' := Aside0.mk H
 clear H
 go_enter Try.func3, Try.ntmps3
 go_wp2_with (first | ((with_reducible refine gate_callee (f := 27) rfl ?_); refine goesL_ (some 9) rfl rfl Try.func27 (by kernel_rfl) rfl #[] rfl (by (try simp only [List.map_toArray, List.map_cons, List.map_nil]); first | done | rfl | (simp only [List.length_drop, List.length_take]; rfl)) ?_; (with_reducible refine (hypercubelaw8_known.calls  true _ A2.out).mono ?_); rintro e w12 ⟨rfl, hb⟩; refine ⟨_, rfl, ?_⟩; have n0_ := Aside0.mk (below_step (by repeat (first | (with_reducible first | exact HB.out | apply below_alloc | apply pw_below_drewN | apply below_drew1) | exact HB.out)) hb); clear HB; have HB := n0_; clear n0_; (try clear hb); (try clear hb2); (try clear hk); (try clear hi)) | ((with_reducible refine gate_callee (f := 28) rfl ?_); refine goesL_ (some 12) rfl rfl Try.func28 (by kernel_rfl) rfl #[.int .i64 a0, .int .i64 4] rfl (by (try simp only [List.map_toArray, List.map_cons, List.map_nil]); first | done | rfl | (simp only [List.length_drop, List.length_take]; rfl)) ?_; (with_reducible refine (hypercubelaw8_within.calls a0 4 t126 _ A4.out).mono ?_); rintro e w' ⟨rfl, ⟨nd, rfl⟩⟩; refine ⟨_, rfl, ?_⟩) | ((with_reducible refine gate_callee (f := 29) rfl ?_); refine goesL_ (some 15) rfl rfl Try.func29 (by kernel_rfl) rfl #[.int .i64 (wrap64 (1 + t126))] rfl (by (try simp only [List.map_toArray, List.map_cons, List.map_nil]); first | done | rfl | (simp only [List.length_drop, List.length_take]; rfl)) ?_; (with_reducible refine (lattice_Sets.calls (wrap64 (1 + t126)) t127 _ A5.out).mono ?_); rintro e w13 ⟨v128, rfl, ho0, hb⟩; refine ⟨_, rfl, ?_⟩; have n0_ := Aside0.mk (Kd.R_lower ho0 (below_size (by repeat (first | (with_reducible first | exact HB.out | apply below_alloc | apply pw_below_drewN | apply below_drew1) | exact HB.out)))); have n1_ := Aside0.mk (below_step (by repeat (first | (with_reducible first | exact HB.out | apply below_alloc | apply pw_below_drewN | apply below_drew1) | exact HB.out)) hb); clear HB; have HO129 := n0_; have HB := n1_; clear n0_ n1_; (try clear hb); (try clear hb2); (try clear hk); (try clear hi); (try clear ho0); obtain ⟨Ao14, co14, eo14⟩ := Kd.R_slice HO129.out; subst eo14) | ((with_reducible refine gate_dst (N := 24) rfl ?_); (try (refine gate_guard (by rfl) ?_; dsimp only)); refine Kd.R_make Kd.bool _ 4 rfl (N := 24) rfl 27 _ _ rfl (t127.length : Int) rfl rfl Try.underlying27 (.bool false) 1 info4 rfl (by decide) (by omega) false (ok := fun _ => True) (okp := fun _ => True) rfl (fun _ hk => hk) trivial (of_decide_eq_true (by first | (with_reducible assumption) | assumption)) (Nat.le_trans (Nat.mul_le_mul_right _ (of_decide_eq_true (by first | (with_reducible assumption) | assumption) : (t127.length : Int).toNat ≤ 281474976710656)) (by omega)) (Below.refl _ _) (Nat.le_refl _) ?_; intro v131 w15 ho16 hb hg_ hnew_; clear hg_ hnew_; (first | rw [← Ny130.out] at ho16 | (simp only [Int.reduceToNat] at ho16; rw [← Ny130.out] at ho16)); have n0_ := Aside0.mk (Kd.R_below (by (with_reducible repeat (first | apply Kd.R_alloc | apply Kd.R_drewN | apply Kd.R_drew)); exact HO129.out) hb); have n1_ := Aside0.mk (Kd.R_lower ho16 (below_size (by repeat (first | (with_reducible first | exact HB.out | apply below_alloc | apply pw_below_drewN | apply below_drew1) | exact HB.out)))); have n2_ := Aside0.mk (below_step (by repeat (first | (with_reducible first | exact HB.out | apply below_alloc | apply pw_below_drewN | apply below_drew1) | exact HB.out)) hb); clear HO129; clear HB; have HO129 := n0_; have HO132 := n1_; have HB := n2_; clear n0_ n1_ n2_; clear hb ho16))
 go_loopg [6] k (fun kq v6 w' => ∃ (x5_1 : List Bool) (x6_1 : Int), v6 = .int .i64 x6_1 ∧ Aside0 (hypercubelaw8_LatticeSets.l0 kq (wrap64 (1 + t126)) t127 x5_1 x6_1 = some r) ∧ Aside0 (kq ≤ k) ∧ Aside0 (Kd.R (Kd.int .i64) 3 w' w.heap.size (fun _ => True) (.slice Ao14 t127.length co14) t127) ∧ Aside0 (Kd.R Kd.bool 4 w' w.heap.size (fun _ => True) v131 x5_1) ∧ Aside0 (Below w.heap.size w w'))
 case atStart => exact ⟨(y130), (0), (by first | rfl | (simp; done) | (simp [*]; done)), H', ⟨Nat.le_refl _⟩, ⟨by (with_reducible repeat (first | apply Kd.R_alloc | apply Kd.R_drewN | apply Kd.R_drew)); exact HO129.out⟩, ⟨by (with_reducible repeat (first | apply Kd.R_alloc | apply Kd.R_drewN | apply Kd.R_drew)); exact HO132.out⟩, ⟨by repeat (first | (with_reducible first | exact HB.out | apply below_alloc | apply pw_below_drewN | apply below_drew1) | exact HB.out)⟩⟩
 case round =>
  clear H'
  try clear c1
  try clear c2
  try clear p2
  try clear c3
  try clear p6
  try clear c7
  try clear c7b0
  try clear c7b1
  try clear c9
  try clear c9b0
  try clear c9b1
  try clear c10
  try clear c10b0
  try clear c10b1
  try clear c11
  try clear c11b0
  try clear c11b1
  obtain ⟨x5_1, x6_1, rfl, HA, HK1, HO_4, HO_5, HB⟩ := hrel
  cases gk with
  | zero => exact absurd HA.out (by simp [hypercubelaw8_LatticeSets.l0])
  | succ k1 =>
   have H := HA.out
   clear HA
   simp only [hypercubelaw8_LatticeSets.l0] at H
   by_cases c17 : x6_1 < (t127.length : Int)
   rotate_left
   ·rw [if_neg c17] at H
    have c17b0 : decide (x6_1 < (t127.length : Int)) = false := decide_eq_false c17
    clear c17
    obtain rfl := Option.some.inj H
    go_wp2
    go_ret
    exact ⟨by first | rfl | (simp [errW_none, errW_some] <;> rfl) | (simp only [← hji6, ← hji8]; first | rfl | (simp [errW_none, errW_some] <;> rfl)) | (simp [*, errW_none, errW_some] <;> rfl), by repeat (first | (with_reducible first | exact HB.out | apply below_alloc | apply pw_below_drewN | apply below_drew1) | exact HB.out)⟩
   rw [if_pos c17] at H
   have c17b0 : decide (x6_1 < (t127.length : Int)) = true := decide_eq_true c17
   clear c17
   have HC18 := Aside0.mk H
   clear H
   go_upto_region 11 with (fail)
   go_cut [53] (fun v53 wc => ∃ (kq : Nat) (x53_17 : Bool), v53 = .bool x53_17 ∧ Aside0 (hypercubelaw8_LatticeSets.j1 kq (wrap64 (1 + t126)) t127 x5_1 x6_1 x53_17 = some r) ∧ Aside0 (kq ≤ k1) ∧ Aside0 (Kd.R (Kd.int .i64) 3 wc w.heap.size (fun _ => True) (.slice Ao14 t127.length co14) t127) ∧ Aside0 (Kd.R Kd.bool 4 wc w.heap.size (fun _ => True) v131 x5_1) ∧ Aside0 (Below w.heap.size w wc))
   case first =>
    have H := HC18.out
    clear HC18
    by_cases c19 : 0 ≤ x6_1
    rotate_left
    ·rw [if_neg c19] at H
     exact absurd H (by simp)
    rw [if_pos c19] at H
    have c19b0 : decide (0 ≤ x6_1) = true := decide_eq_true c19
    clear c19
    (first | rw [c19b0] | (simp only [i64_w, i32_w]; rw [c19b0]) | skip)
    by_cases c20 : (rd t127 x6_1) < 0
    ·rw [if_pos c20] at H
     have c20b0 : decide ((rd t127 x6_1) < 0) = true := decide_eq_true c20
     clear c20
     have H' := Aside0.mk H
     clear H
     have p133 : 0 ≤ (x6_1 : Int) := od_
     have q133 : x6_1 < (t127.length : Int) := od_
     obtain ⟨ad133, e133, hx133_0⟩ := Kd.at_int (Kd.R_reads' HO_4.out).2.2 x6_1 p133 q133
     cases e133
     replace p133 := eq_true p133
     replace q133 := eq_true q133
     go_wp2
     go_meet
     case rel => exact ⟨_, (true), (by first | rfl | (simp; done) | (simp [*]; done)), H', ⟨by have := HK1.out; first | omega | exact Nat.le_refl _⟩, ⟨by (with_reducible repeat (first | apply Kd.R_alloc | apply Kd.R_drewN | apply Kd.R_drew)); exact HO_4.out⟩, ⟨by (with_reducible repeat (first | apply Kd.R_alloc | apply Kd.R_drewN | apply Kd.R_drew)); exact HO_5.out⟩, ⟨by repeat (first | (with_reducible first | exact HB.out | apply below_alloc | apply pw_below_drewN | apply below_drew1) | exact HB.out)⟩⟩
    rw [if_neg c20] at H
    have c20b0 : decide ((rd t127 x6_1) < 0) = false := decide_eq_false c20
    clear c20
    by_cases c21 : (rd t127 x6_1) ≥ (t127.length : Int)
    ·rw [if_pos c21] at H
     have c21b0 : decide ((t127.length : Int) ≤ (rd t127 x6_1)) = true := decide_eq_true c21
     clear c21
     have H' := Aside0.mk H
     clear H
     have p133 : 0 ≤ (x6_1 : Int) := od_
     have q133 : x6_1 < (t127.length : Int) := od_
     obtain ⟨ad133, e133, hx133_0⟩ := Kd.at_int (Kd.R_reads' HO_4.out).2.2 x6_1 p133 q133
     cases e133
     replace p133 := eq_true p133
     replace q133 := eq_true q133
     have p134 : 0 ≤ (x6_1 : Int) := od_
     have q134 : x6_1 < (t127.length : Int) := od_
     obtain ⟨ad134, e134, hx134_0⟩ := Kd.at_int (Kd.R_reads' HO_4.out).2.2 x6_1 p134 q134
     obtain rfl : ad133 = ad134 := (by injection e134)
     replace p134 := eq_true p134
     replace q134 := eq_true q134
     go_wp2
     go_meet
     case rel => exact ⟨_, (true), (by first | rfl | (simp; done) | (simp [*]; done)), H', ⟨by have := HK1.out; first | omega | exact Nat.le_refl _⟩, ⟨by (with_reducible repeat (first | apply Kd.R_alloc | apply Kd.R_drewN | apply Kd.R_drew)); exact HO_4.out⟩, ⟨by (with_reducible repeat (first | apply Kd.R_alloc | apply Kd.R_drewN | apply Kd.R_drew)); exact HO_5.out⟩, ⟨by repeat (first | (with_reducible first | exact HB.out | apply below_alloc | apply pw_below_drewN | apply below_drew1) | exact HB.out)⟩⟩
    rw [if_neg c21] at H
    have c21b0 : decide ((t127.length : Int) ≤ (rd t127 x6_1)) = false := decide_eq_false c21
    clear c21
    by_cases c22 : 0 ≤ (rd t127 x6_1)
    rotate_left
    ·rw [if_neg c22] at H
     exact absurd H (by simp)
    rw [if_pos c22] at H
    have c22b0 : decide (0 ≤ (rd t127 x6_1)) = true := decide_eq_true c22
    clear c22
    by_cases c23 : (rd t127 x6_1) < (x5_1.length : Int)
    rotate_left
    ·rw [if_neg c23] at H
     exact absurd H (by simp)
    rw [if_pos c23] at H
    have c23b0 : decide ((rd t127 x6_1) < (x5_1.length : Int)) = true := decide_eq_true c23
    clear c23
    have H' := Aside0.mk H
    clear H
    have p133 : 0 ≤ (x6_1 : Int) := od_
    have q133 : x6_1 < (t127.length : Int) := od_
    obtain ⟨ad133, e133, hx133_0⟩ := Kd.at_int (Kd.R_reads' HO_4.out).2.2 x6_1 p133 q133
    cases e133
    replace p133 := eq_true p133
    replace q133 := eq_true q133
    have p134 : 0 ≤ (x6_1 : Int) := od_
    have q134 : x6_1 < (t127.length : Int) := od_
    obtain ⟨ad134, e134, hx134_0⟩ := Kd.at_int (Kd.R_reads' HO_4.out).2.2 x6_1 p134 q134
    obtain rfl : ad133 = ad134 := (by injection e134)
    replace p134 := eq_true p134
    replace q134 := eq_true q134
    have p135 : 0 ≤ (x6_1 : Int) := od_
    have q135 : x6_1 < (t127.length : Int) := od_
    obtain ⟨ad135, e135, hx135_0⟩ := Kd.at_int (Kd.R_reads' HO_4.out).2.2 x6_1 p135 q135
    obtain rfl : ad133 = ad135 := (by injection e135)
    replace p135 := eq_true p135
    replace q135 := eq_true q135
    obtain ⟨Ao24, co24, eo24⟩ := Kd.R_slice HO_5.out
    subst eo24
    have p136 : 0 ≤ ((rd t127 x6_1) : Int) := od_
    have q136 : (rd t127 x6_1) < (x5_1.length : Int) := od_
    obtain ⟨ad136, e136, hx136_0⟩ := Kd.at_bool (Kd.R_reads' HO_5.out).2.2 (rd t127 x6_1) p136 q136
    cases e136
    replace p136 := eq_true p136
    replace q136 := eq_true q136
    go_wp2
    go_meet
    case rel => exact ⟨_, (rdOf false x5_1 (rd t127 x6_1)), (by first | rfl | (simp; done) | (simp [*]; done)), H', ⟨by have := HK1.out; first | omega | exact Nat.le_refl _⟩, ⟨by (with_reducible repeat (first | apply Kd.R_alloc | apply Kd.R_drewN | apply Kd.R_drew)); exact HO_4.out⟩, ⟨by (with_reducible repeat (first | apply Kd.R_alloc | apply Kd.R_drewN | apply Kd.R_drew)); exact HO_5.out⟩, ⟨by repeat (first | (with_reducible first | exact HB.out | apply below_alloc | apply pw_below_drewN | apply below_drew1) | exact HB.out)⟩⟩
   case rest =>
    clear HC18
    try clear c1
    try clear p1
    try clear q1
    try clear hx1
    try clear c2
    try clear p2
    try clear c3
    try clear p6
    try clear c7
    try clear c7b0
    try clear c7b1
    try clear c9
    try clear c9b0
    try clear c9b1
    try clear c10
    try clear c10b0
    try clear c10b1
    try clear c11
    try clear c11b0
    try clear c11b1
    try clear p13
    try clear q13
    try clear hx13
    try clear c17
    try clear c17b0
    try clear c19
    try clear c19b0
    try clear c20
    try clear c20b0
    try clear c21
    try clear c21b0
    try clear c22
    try clear c22b0
    try clear c23
    try clear c23b0
    try clear hx133_0
    try clear hx134_0
    try clear hx135_0
    try clear hx136_0
    try clear p133
    try clear p134
    try clear p135
    try clear p136
    try clear p2
    try clear p6
    try clear q133
    try clear q134
    try clear q135
    try clear q136
    obtain ⟨kq, x53_17, rfl, HA, HJ17, HO_4, HO_5, HB⟩ := hcut
    cases kq with
    | zero => exact absurd HA.out (by simp [hypercubelaw8_LatticeSets.j1])
    | succ kj17 =>
     have H := HA.out
     clear HA
     simp only [hypercubelaw8_LatticeSets.j1] at H
     by_cases c25 : x53_17 = true
     ·subst c25
      have H1 : (some false) = some r := by rw [if_pos rfl] at H; exact H
      clear H
      have H := H1
      clear H1
      obtain rfl := Option.some.inj H
      exact absurd HRT_.out (by decide)
     replace c25 := Bool.eq_false_iff.mpr c25
     subst c25
     have H1 : (if 0 ≤ x6_1 then (if x6_1 < (t127.length : Int) then ((lattice_Parents.f (rd t127 x6_1) (wrap64 (1 + t126))).bind fun t138 => ((lattice_Level.f (rd t127 x6_1)).bind fun t142 => (if (t138.length : Int) = (wrap64 ((wrap64 (1 + t126)) - t142)) then (hypercubelaw8_LatticeSets.l1 kj17 (wrap64 (1 + t126)) t127 x5_1 x6_1 t138 0) else (some false)))) else (none)) else (none)) = some r := by rw [if_neg (show ¬ (false = true) by decide)] at H; exact H
     clear H
     have H := H1
     clear H1
     by_cases c26 : 0 ≤ x6_1
     rotate_left
     ·rw [if_neg c26] at H
      exact absurd H (by simp)
     rw [if_pos c26] at H
     have c26b0 : decide (0 ≤ x6_1) = true := decide_eq_true c26
     clear c26
     by_cases c27 : x6_1 < (t127.length : Int)
     rotate_left
     ·rw [if_neg c27] at H
      exact absurd H (by simp)
     rw [if_pos c27] at H
     have c27b0 : decide (x6_1 < (t127.length : Int)) = true := decide_eq_true c27
     clear c27
     replace H := Option.bind_eq_some_iff.mp H
     obtain ⟨t138, A280, H⟩ := H
     replace H : ((lattice_Level.f (rd t127 x6_1)).bind fun t142 => (if (t138.length : Int) = (wrap64 ((wrap64 (1 + t126)) - t142)) then (hypercubelaw8_LatticeSets.l1 kj17 (wrap64 (1 + t126)) t127 x5_1 x6_1 t138 0) else (some false))) = some r := H
     have A28 := Aside0.mk A280
     clear A280
     replace H := Option.bind_eq_some_iff.mp H
     obtain ⟨t142, A290, H⟩ := H
     replace H : (if (t138.length : Int) = (wrap64 ((wrap64 (1 + t126)) - t142)) then (hypercubelaw8_LatticeSets.l1 kj17 (wrap64 (1 + t126)) t127 x5_1 x6_1 t138 0) else (some false)) = some r := H
     have A29 := Aside0.mk A290
     clear A290
     by_cases c30 : (t138.length : Int) = (wrap64 ((wrap64 (1 + t126)) - t142))
     rotate_left
     ·rw [if_neg c30] at H
      have c30b0 : ((t138.length : Int) == (wrap64 ((wrap64 (1 + t126)) - t142))) = false := beq_eq_false_iff_ne.mpr c30
      have c30b1 : ((t138.length : Int) != (wrap64 ((wrap64 (1 + t126)) - t142))) = true := bne_iff_ne.mpr c30
      obtain rfl := Option.some.inj H
      exact absurd HRT_.out (by decide)
     rw [if_pos c30] at H
     have c30b0 : ((t138.length : Int) == (wrap64 ((wrap64 (1 + t126)) - t142))) = true := beq_iff_eq.mpr c30
     have c30b1 : ((t138.length : Int) != (wrap64 ((wrap64 (1 + t126)) - t142))) = false := bne_eq_false_iff_eq.mpr c30
     clear c30
     have H' := Aside0.mk H
     clear H
     have p137 : 0 ≤ (x6_1 : Int) := od_
     have q137 : x6_1 < (t127.length : Int) := od_
     obtain ⟨ad137, e137, hx137_0⟩ := Kd.at_int (Kd.R_reads' HO_4.out).2.2 x6_1 p137 q137
     cases e137
     replace p137 := eq_true p137
     replace q137 := eq_true q137
     go_wp2_with (first | ((with_reducible refine gate_callee (f := 30) rfl ?_); refine goesL_ (some 59) rfl rfl Try.func30 (by kernel_rfl) rfl #[.int .i64 (rd t127 x6_1), .int .i64 (wrap64 (1 + t126))] rfl (by (try simp only [List.map_toArray, List.map_cons, List.map_nil]); first | done | rfl | (simp only [List.length_drop, List.length_take]; rfl)) ?_; (with_reducible refine (lattice_Parents.calls (rd t127 x6_1) (wrap64 (1 + t126)) t138 _ A28.out).mono ?_); rintro e w31 ⟨v139, rfl, ho0, hb⟩; refine ⟨_, rfl, ?_⟩; have n0_ := Aside0.mk (Kd.R_elder' (by (with_reducible repeat (first | apply Kd.R_alloc | apply Kd.R_drewN | apply Kd.R_drew)); exact HO_4.out) (Kd.R_base ho0) hb); have n1_ := Aside0.mk (Kd.R_below (by (with_reducible repeat (first | apply Kd.R_alloc | apply Kd.R_drewN | apply Kd.R_drew)); exact HO_5.out) hb); have n2_ := Aside0.mk (Kd.R_lower (Kd.R_new' ho0 (Kd.R_lt (by (with_reducible repeat (first | apply Kd.R_alloc | apply Kd.R_drewN | apply Kd.R_drew)); exact HO_4.out))) (below_size (by repeat (first | (with_reducible first | exact HB.out | apply below_alloc | apply pw_below_drewN | apply below_drew1) | exact HB.out)))); have n3_ := Aside0.mk (below_step (by repeat (first | (with_reducible first | exact HB.out | apply below_alloc | apply pw_below_drewN | apply below_drew1) | exact HB.out)) hb); clear HO_4; clear HO_5; clear HB; have HO_4 := n0_; have HO_5 := n1_; have HO140 := n2_; have HB := n3_; clear n0_ n1_ n2_ n3_; (try clear hb); (try clear hb2); (try clear hk); (try clear hi); (try clear ho0); obtain ⟨Ao32, co32, eo32⟩ := Kd.R_slice HO140.out; subst eo32; have p141 : 0 ≤ (x6_1 : Int) := of_decide_eq_true (by first | (with_reducible assumption) | assumption); have q141 : x6_1 < (t127.length : Int) := of_decide_eq_true (by first | (with_reducible assumption) | assumption); obtain ⟨ad141, e141, hx141_0⟩ := Kd.at_int (Kd.R_reads' HO_4.out).2.2 x6_1 p141 q141; obtain rfl : ad137 = ad141 := (by injection e141); replace p141 := eq_true p141; replace q141 := eq_true q141) | ((with_reducible refine gate_callee (f := 31) rfl ?_); refine goesL_ (some 67) rfl rfl Try.func31 (by kernel_rfl) rfl #[.int .i64 (rd t127 x6_1)] rfl (by (try simp only [List.map_toArray, List.map_cons, List.map_nil]); first | done | rfl | (simp only [List.length_drop, List.length_take]; rfl)) ?_; (with_reducible refine (lattice_Level.calls (rd t127 x6_1) t142 _ A29.out).mono ?_); rintro e w' ⟨rfl, ⟨nd, rfl⟩⟩; refine ⟨_, rfl, ?_⟩))
     go_loopg [8] kj17 (fun kq v8 w' => ∃ (x8_3 : Int), v8 = .int .i64 x8_3 ∧ Aside0 (hypercubelaw8_LatticeSets.l1 kq (wrap64 (1 + t126)) t127 x5_1 x6_1 t138 x8_3 = some r) ∧ Aside0 (kq ≤ kj17) ∧ Aside0 (Kd.R (Kd.int .i64) 3 w' w.heap.size (fun k_ => some k_ ≠ ((.slice Ao32 t138.length co32) : Value).ownBlock) (.slice (some ad137) t127.length co14) t127) ∧ Aside0 (Kd.R Kd.bool 4 w' w.heap.size (fun _ => True) v131 x5_1) ∧ Aside0 (Kd.R (Kd.int .i64) 3 w' w.heap.size (fun k_ => some k_ ≠ ((.slice (some ad137) t127.length co14) : Value).ownBlock) (.slice Ao32 t138.length co32) t138) ∧ Aside0 (Below w.heap.size w w'))
     case atStart => exact ⟨(0), (by first | rfl | (simp; done) | (simp [*]; done)), H', ⟨Nat.le_refl _⟩, ⟨by (with_reducible repeat (first | apply Kd.R_alloc | apply Kd.R_drewN | apply Kd.R_drew)); exact Kd.R_mono HO_4.out (fun _ hk => hk.2)⟩, ⟨by (with_reducible repeat (first | apply Kd.R_alloc | apply Kd.R_drewN | apply Kd.R_drew)); exact HO_5.out⟩, ⟨by (with_reducible repeat (first | apply Kd.R_alloc | apply Kd.R_drewN | apply Kd.R_drew)); exact Kd.R_mono HO140.out (fun _ hk => hk.2)⟩, ⟨by repeat (first | (with_reducible first | exact HB.out | apply below_alloc | apply pw_below_drewN | apply below_drew1) | exact HB.out)⟩⟩
     case round =>
      clear H'
      try clear c1
      try clear p1
      try clear q1
      try clear hx1
      try clear c2
      try clear p2
      try clear c3
      try clear p6
      try clear c7
      try clear c7b0
      try clear c7b1
      try clear c9
      try clear c9b0
      try clear c9b1
      try clear c10
      try clear c10b0
      try clear c10b1
      try clear c11
      try clear c11b0
      try clear c11b1
      try clear p13
      try clear q13
      try clear hx13
      try clear p14
      try clear q14
      try clear hx14
      try clear c17
      try clear c17b0
      try clear c19
      try clear c19b0
      try clear c20
      try clear c20b0
      try clear c21
      try clear c21b0
      try clear c22
      try clear c22b0
      try clear c23
      try clear c23b0
      try clear c25
      try clear c26
      try clear c26b0
      try clear c27
      try clear c27b0
      try clear c28
      try clear c29
      try clear c30
      try clear c30b0
      try clear c30b1
      try clear c31
      try clear hx133_0
      try clear hx134_0
      try clear hx135_0
      try clear hx136_0
      try clear hx137_0
      try clear hx141_0
      try clear p1
      try clear p13
      try clear p133
      try clear p134
      try clear p135
      try clear p136
      try clear p137
      try clear p141
      try clear p2
      try clear p6
      try clear q1
      try clear q13
      try clear q133
      try clear q134
      try clear q135
      try clear q136
      try clear q137
      try clear q141
      obtain ⟨x8_3, rfl, HA, HK3, HO_4, HO_5, HO_7, HB⟩ := hrel
      cases gk with
      | zero => exact absurd HA.out (by simp [hypercubelaw8_LatticeSets.l1])
      | succ k3 =>
       have H := HA.out
       clear HA
       simp only [hypercubelaw8_LatticeSets.l1] at H
       by_cases c33 : x8_3 < (t138.length : Int)
       ·rw [if_pos c33] at H
        have c33b0 : decide (x8_3 < (t138.length : Int)) = true := decide_eq_true c33
        clear c33
        by_cases c34 : 0 ≤ x8_3
        rotate_left
        ·rw [if_neg c34] at H
         exact absurd H (by simp)
        rw [if_pos c34] at H
        have c34b0 : decide (0 ≤ x8_3) = true := decide_eq_true c34
        clear c34
        by_cases c35 : (rd t138 x8_3) < 0
        ·rw [if_pos c35] at H
         have c35b0 : decide ((rd t138 x8_3) < 0) = true := decide_eq_true c35
         clear c35
         obtain rfl := Option.some.inj H
         exact absurd HRT_.out (by decide)
        rw [if_neg c35] at H
        have c35b0 : decide ((rd t138 x8_3) < 0) = false := decide_eq_false c35
        clear c35
        by_cases c37 : (rd t138 x8_3) ≥ (t127.length : Int)
        ·rw [if_pos c37] at H
         have c37b0 : decide ((t127.length : Int) ≤ (rd t138 x8_3)) = true := decide_eq_true c37
         clear c37
         obtain rfl := Option.some.inj H
         exact absurd HRT_.out (by decide)
        rw [if_neg c37] at H
        have c37b0 : decide ((t127.length : Int) ≤ (rd t138 x8_3)) = false := decide_eq_false c37
        clear c37
        by_cases c39 : 0 ≤ (rd t138 x8_3)
        rotate_left
        ·rw [if_neg c39] at H
         exact absurd H (by simp)
        rw [if_pos c39] at H
        have c39b0 : decide (0 ≤ (rd t138 x8_3)) = true := decide_eq_true c39
        clear c39
        by_cases c40 : (rd t138 x8_3) < (x5_1.length : Int)
        rotate_left
        ·rw [if_neg c40] at H
         exact absurd H (by simp)
        rw [if_pos c40] at H
        have c40b0 : decide ((rd t138 x8_3) < (x5_1.length : Int)) = true := decide_eq_true c40
        clear c40
        obtain ⟨bq41, hbq41⟩ : ∃ b_ : Bool, b_ = (rdOf false x5_1 (rd t138 x8_3)) := ⟨_, rfl⟩
        replace H : (if (bq41 = true) then (if 0 ≤ x6_1 then (if x6_1 < (t127.length : Int) then (if (Go.bits .and .i64 (rd t138 x8_3) (rd t127 x6_1)) = (rd t127 x6_1) then (if x8_3 > 0 then (if 0 ≤ (wrap64 (x8_3 - 1)) then (if (wrap64 (x8_3 - 1)) < (t138.length : Int) then (if (rd t138 (wrap64 (x8_3 - 1))) ≥ (rd t138 x8_3) then (some false) else (hypercubelaw8_LatticeSets.l1 k3 (wrap64 (1 + t126)) t127 x5_1 x6_1 t138 (wrap64 (x8_3 + 1)))) else (none)) else (none)) else (hypercubelaw8_LatticeSets.l1 k3 (wrap64 (1 + t126)) t127 x5_1 x6_1 t138 (wrap64 (x8_3 + 1)))) else (some false)) else (none)) else (none)) else (some false)) = some r := by rw [← hbq41] at H; exact H
        have Nbq41 := Aside0.mk hbq41
        clear hbq41
        by_cases c42 : (bq41 = true)
        rotate_left
        ·replace c42 := Bool.eq_false_iff.mpr c42
         subst c42
         have H1 : (some false) = some r := by rw [if_neg (show ¬ (false = true) by decide)] at H; exact H
         clear H
         have H := H1
         clear H1
         obtain rfl := Option.some.inj H
         exact absurd HRT_.out (by decide)
        subst c42
        have H1 : (if 0 ≤ x6_1 then (if x6_1 < (t127.length : Int) then (if (Go.bits .and .i64 (rd t138 x8_3) (rd t127 x6_1)) = (rd t127 x6_1) then (if x8_3 > 0 then (if 0 ≤ (wrap64 (x8_3 - 1)) then (if (wrap64 (x8_3 - 1)) < (t138.length : Int) then (if (rd t138 (wrap64 (x8_3 - 1))) ≥ (rd t138 x8_3) then (some false) else (hypercubelaw8_LatticeSets.l1 k3 (wrap64 (1 + t126)) t127 x5_1 x6_1 t138 (wrap64 (x8_3 + 1)))) else (none)) else (none)) else (hypercubelaw8_LatticeSets.l1 k3 (wrap64 (1 + t126)) t127 x5_1 x6_1 t138 (wrap64 (x8_3 + 1)))) else (some false)) else (none)) else (none)) = some r := by rw [if_pos rfl] at H; exact H
        clear H
        have H := H1
        clear H1
        by_cases c43 : 0 ≤ x6_1
        rotate_left
        ·rw [if_neg c43] at H
         exact absurd H (by simp)
        rw [if_pos c43] at H
        have c43b0 : decide (0 ≤ x6_1) = true := decide_eq_true c43
        clear c43
        by_cases c44 : x6_1 < (t127.length : Int)
        rotate_left
        ·rw [if_neg c44] at H
         exact absurd H (by simp)
        rw [if_pos c44] at H
        have c44b0 : decide (x6_1 < (t127.length : Int)) = true := decide_eq_true c44
        clear c44
        by_cases c45 : (Go.bits .and .i64 (rd t138 x8_3) (rd t127 x6_1)) = (rd t127 x6_1)
        rotate_left
        ·rw [if_neg c45] at H
         have c45b0 : ((Go.bits .and .i64 (rd t138 x8_3) (rd t127 x6_1)) == (rd t127 x6_1)) = false := beq_eq_false_iff_ne.mpr c45
         have c45b1 : ((Go.bits .and .i64 (rd t138 x8_3) (rd t127 x6_1)) != (rd t127 x6_1)) = true := bne_iff_ne.mpr c45
         obtain rfl := Option.some.inj H
         exact absurd HRT_.out (by decide)
        rw [if_pos c45] at H
        have c45b0 : ((Go.bits .and .i64 (rd t138 x8_3) (rd t127 x6_1)) == (rd t127 x6_1)) = true := beq_iff_eq.mpr c45
        have c45b1 : ((Go.bits .and .i64 (rd t138 x8_3) (rd t127 x6_1)) != (rd t127 x6_1)) = false := bne_eq_false_iff_eq.mpr c45
        clear c45
        by_cases c46 : x8_3 > 0
        rotate_left
        ·rw [if_neg c46] at H
         have c46b0 : decide (0 < x8_3) = false := decide_eq_false c46
         clear c46
         have H' := Aside0.mk H
         clear H
         try go_wp2
         have n0_ := Aside0.mk (Kd.R_drew HO_4.out)
         have n1_ := Aside0.mk (Kd.R_drew HO_5.out)
         have n2_ := Aside0.mk (Kd.R_drew HO_7.out)
         have n3_ := Aside0.mk (below_drew1 HB.out)
         clear HO_4
         clear HO_5
         clear HO_7
         clear HB
         have HO_4 := n0_
         have HO_5 := n1_
         have HO_7 := n2_
         have HB := n3_
         clear n0_ n1_ n2_ n3_
         have p143 : 0 ≤ (x8_3 : Int) := od_
         have q143 : x8_3 < (t138.length : Int) := od_
         obtain ⟨ad143, e143, hx143_0⟩ := Kd.at_int (Kd.R_reads' HO_7.out).2.2 x8_3 p143 q143
         cases e143
         replace p143 := eq_true p143
         replace q143 := eq_true q143
         have p144 : 0 ≤ (x8_3 : Int) := od_
         have q144 : x8_3 < (t138.length : Int) := od_
         obtain ⟨ad144, e144, hx144_0⟩ := Kd.at_int (Kd.R_reads' HO_7.out).2.2 x8_3 p144 q144
         obtain rfl : ad143 = ad144 := (by injection e144)
         replace p144 := eq_true p144
         replace q144 := eq_true q144
         have p145 : 0 ≤ (x8_3 : Int) := od_
         have q145 : x8_3 < (t138.length : Int) := od_
         obtain ⟨ad145, e145, hx145_0⟩ := Kd.at_int (Kd.R_reads' HO_7.out).2.2 x8_3 p145 q145
         obtain rfl : ad143 = ad145 := (by injection e145)
         replace p145 := eq_true p145
         replace q145 := eq_true q145
         obtain ⟨Ao56, co56, eo56⟩ := Kd.R_slice HO_5.out
         (first | subst eo56 | (injection eo56 with f1_ f2_ f3_; have f4_ := f1_.symm; have f5_ := f3_.symm; clear f1_ f2_ f3_; subst f4_; subst f5_))
         have p146 : 0 ≤ ((rd t138 x8_3) : Int) := od_
         have q146 : (rd t138 x8_3) < (x5_1.length : Int) := od_
         obtain ⟨ad146, e146, hx146_0⟩ := Kd.at_bool (Kd.R_reads' HO_5.out).2.2 (rd t138 x8_3) p146 q146
         (try rw [← Nbq41.out] at hx146_0)
         cases e146
         replace p146 := eq_true p146
         replace q146 := eq_true q146
         have p147 : 0 ≤ (x8_3 : Int) := od_
         have q147 : x8_3 < (t138.length : Int) := od_
         obtain ⟨ad147, e147, hx147_0⟩ := Kd.at_int (Kd.R_reads' HO_7.out).2.2 x8_3 p147 q147
         obtain rfl : ad143 = ad147 := (by injection e147)
         replace p147 := eq_true p147
         replace q147 := eq_true q147
         have p148 : 0 ≤ (x6_1 : Int) := od_
         have q148 : x6_1 < (t127.length : Int) := od_
         obtain ⟨ad148, e148, hx148_0⟩ := Kd.at_int (Kd.R_reads' HO_4.out).2.2 x6_1 p148 q148
         obtain rfl : ad137 = ad148 := (by injection e148)
         replace p148 := eq_true p148
         replace q148 := eq_true q148
         have p149 : 0 ≤ (x6_1 : Int) := od_
         have q149 : x6_1 < (t127.length : Int) := od_
         obtain ⟨ad149, e149, hx149_0⟩ := Kd.at_int (Kd.R_reads' HO_4.out).2.2 x6_1 p149 q149
         obtain rfl : ad137 = ad149 := (by injection e149)
         replace p149 := eq_true p149
         replace q149 := eq_true q149
         refine start_ (n := 56) (S := fun w' => w'.cell? (ad143.add (x8_3).toNat) = some (.int .i64 (rd t138 x8_3)) ∧ w'.cell? (ad143.add (x8_3).toNat) = some (.int .i64 (rd t138 x8_3)) ∧ w'.cell? (ad143.add (x8_3).toNat) = some (.int .i64 (rd t138 x8_3)) ∧ w'.cell? (ad146.add ((rd t138 x8_3)).toNat) = some (.bool true) ∧ w'.cell? (ad143.add (x8_3).toNat) = some (.int .i64 (rd t138 x8_3)) ∧ w'.cell? (ad137.add (x6_1).toNat) = some (.int .i64 (rd t127 x6_1)) ∧ w'.cell? (ad137.add (x6_1).toNat) = some (.int .i64 (rd t127 x6_1))) (ds := []) (fl_ 0 56) (by kernel_rfl) rfl rfl ⟨hx143_0, hx144_0, hx145_0, hx146_0, hx147_0, hx148_0, hx149_0⟩ (fun hHeld => ?_); refine with_tabW hypercubelaw8_LatticeSets.tab19 hypercubelaw8_LatticeSets.bits19 (fun HT_ HW_ => ?_)
         generalize wr.drew = w55 at HO_4 HO_5 HO_7 HB hx143_0 hx144_0 hx145_0 hx146_0 hx147_0 hx148_0 hx149_0 hHeld ⊢
         refine pure_ (i := 0) (N := some 76) (v := ?_) (a' := ?_) (fl_ 1 55) rfl rfl (any_of HT_.out (by kernel_rfl)) (fun _ _ _ h => h) (Or.inl ⟨by rfl, ?_⟩) ?_ ?_
         rotate_left
         ·intro w'
          go_simp
          with_reducible rfl
         rotate_left
         ·simp only [Act.put, sl0, sl1, sl2, i64_w, i32_w]
          rfl
         refine pure_ (i := 1) (N := some 77) (v := ?_) (a' := ?_) (fl_ 2 54) rfl rfl (any_of HT_.out (by kernel_rfl)) (fun _ _ _ h => h) (Or.inl ⟨by rfl, ?_⟩) ?_ ?_
         rotate_left
         ·intro w'
          go_simp
          with_reducible rfl
         rotate_left
         ·simp only [Act.put, sl0, sl1, sl2, i64_w, i32_w]
          rfl
         refine pure_ (i := 2) (N := some 78) (v := ?_) (a' := ?_) (fl_ 3 53) rfl rfl (any_of HT_.out (by kernel_rfl)) (fun _ _ _ h => h) (Or.inl ⟨by rfl, ?_⟩) ?_ ?_
         rotate_left
         ·intro w'
          go_simp
          with_reducible rfl
         rotate_left
         ·simp only [Act.put, sl0, sl1, sl2, i64_w, i32_w]
          rfl
         refine take_ (i := 3) (N := some 79) (v := ?_) (a' := ?_) (fl_ 4 52) rfl rfl (take_ofW HT_.out HW_.out (by kernel_rfl)) (fun _ _ _ h => h) (Or.inl ⟨by rfl, ?_⟩) hHeld ?_ ?_
         rotate_left
         ·rintro w' ⟨s0, s1, s2, s3, s4, s5, s6⟩
          go_simp
          with_reducible rfl
         rotate_left
         ·simp only [Act.put, sl0, sl1, sl2, i64_w, i32_w]
          rfl
         refine pure_ (i := 4) (N := some 80) (v := ?_) (a' := ?_) (fl_ 5 51) rfl rfl (any_of HT_.out (by kernel_rfl)) (fun _ _ _ h => h) (Or.inl ⟨by rfl, ?_⟩) ?_ ?_
         rotate_left
         ·intro w'
          go_simp
          with_reducible rfl
         rotate_left
         ·simp only [Act.put, sl0, sl1, sl2, i64_w, i32_w]
          rfl
         refine pure_ (i := 5) (N := some 81) (v := ?_) (a' := ?_) (fl_ 6 50) rfl rfl (any_of HT_.out (by kernel_rfl)) (fun _ _ _ h => h) (Or.inl ⟨by rfl, ?_⟩) ?_ ?_
         rotate_left
         ·intro w'
          go_simp
          with_reducible rfl
         rotate_left
         ·simp only [Act.put, sl0, sl1, sl2, i64_w, i32_w]
          rfl
         refine pure_ (i := 6) (N := some 82) (v := ?_) (a' := ?_) (fl_ 7 49) rfl rfl (any_of HT_.out (by kernel_rfl)) (fun _ _ _ h => h) (Or.inl ⟨by rfl, ?_⟩) ?_ ?_
         rotate_left
         ·intro w'
          go_simp
          with_reducible rfl
         rotate_left
         ·simp only [Act.put, sl0, sl1, sl2, i64_w, i32_w]
          rfl
         refine pure_ (i := 7) (N := some 83) (v := ?_) (a' := ?_) (fl_ 8 48) rfl rfl (any_of HT_.out (by kernel_rfl)) (fun _ _ _ h => h) (Or.inl ⟨by rfl, ?_⟩) ?_ ?_
         rotate_left
         ·intro w'
          go_simp
          with_reducible rfl
         rotate_left
         ·simp only [Act.put, sl0, sl1, sl2, i64_w, i32_w]
          rfl
         refine pure_ (i := 8) (N := some 84) (v := ?_) (a' := ?_) (fl_ 9 47) rfl rfl (any_of HT_.out (by kernel_rfl)) (fun _ _ _ h => h) (Or.inl ⟨by rfl, ?_⟩) ?_ ?_
         rotate_left
         ·intro w'
          go_simp
          with_reducible rfl
         rotate_left
         ·simp only [Act.put, sl0, sl1, sl2, i64_w, i32_w]
          rfl
         refine pure_ (i := 10) (N := some 86) (v := ?_) (a' := ?_) #[Y,Y,Y,Y,Y,Y,Y,Y,Y,Z,Y,Z,Z,Z,Z,Z,Z,Z,Z,Z,Z,Z,Z,Z,Z,Z,Z,Z,Z,Z,Z,Z,Z,Z,Z,Z,Z,Z,Z,Z,Z,Z,Z,Z,Z,Z,Z,Z,Z,Z,Z,Z,Z,Z,Z,Z] rfl rfl (any_of HT_.out (by kernel_rfl)) (fun _ _ _ h => h) (Or.inl ⟨by rfl, ?_⟩) ?_ ?_
         rotate_left
         ·intro w'
          go_simp
          with_reducible rfl
         rotate_left
         ·simp only [Act.put, sl0, sl1, sl2, i64_w, i32_w]
          rfl
         refine pure_ (i := 11) (N := some 87) (v := ?_) (a' := ?_) #[Y,Y,Y,Y,Y,Y,Y,Y,Y,Z,Y,Y,Z,Z,Z,Z,Z,Z,Z,Z,Z,Z,Z,Z,Z,Z,Z,Z,Z,Z,Z,Z,Z,Z,Z,Z,Z,Z,Z,Z,Z,Z,Z,Z,Z,Z,Z,Z,Z,Z,Z,Z,Z,Z,Z,Z] rfl rfl (any_of HT_.out (by kernel_rfl)) (fun _ _ _ h => h) (Or.inl ⟨by rfl, ?_⟩) ?_ ?_
         rotate_left
         ·intro w'
          go_simp
          with_reducible rfl
         rotate_left
         ·simp only [Act.put, sl0, sl1, sl2, i64_w, i32_w]
          rfl
         refine take_ (i := 9) (N := some 85) (v := ?_) (a' := ?_) (fl_ 12 44) rfl rfl (take_ofW HT_.out HW_.out (by kernel_rfl)) (fun _ _ _ h => h) (Or.inl ⟨by rfl, ?_⟩) hHeld ?_ ?_
         rotate_left
         ·rintro w' ⟨s0, s1, s2, s3, s4, s5, s6⟩
          go_simp
          with_reducible rfl
         rotate_left
         ·simp only [Act.put, sl0, sl1, sl2, i64_w, i32_w]
          rfl
         refine pure_ (i := 12) (N := some 88) (v := ?_) (a' := ?_) (fl_ 13 43) rfl rfl (any_of HT_.out (by kernel_rfl)) (fun _ _ _ h => h) (Or.inl ⟨by rfl, ?_⟩) ?_ ?_
         rotate_left
         ·intro w'
          go_simp
          with_reducible rfl
         rotate_left
         ·simp only [Act.put, sl0, sl1, sl2, i64_w, i32_w]
          rfl
         refine pure_ (i := 13) (N := some 89) (v := ?_) (a' := ?_) (fl_ 14 42) rfl rfl (any_of HT_.out (by kernel_rfl)) (fun _ _ _ h => h) (Or.inl ⟨by rfl, ?_⟩) ?_ ?_
         rotate_left
         ·intro w'
          go_simp
          with_reducible rfl
         rotate_left
         ·simp only [Act.put, sl0, sl1, sl2, i64_w, i32_w]
          rfl
         refine pure_ (i := 14) (N := some 90) (v := ?_) (a' := ?_) (fl_ 15 41) rfl rfl (any_of HT_.out (by kernel_rfl)) (fun _ _ _ h => h) (Or.inl ⟨by rfl, ?_⟩) ?_ ?_
         rotate_left
         ·intro w'
          go_simp
          with_reducible rfl
         rotate_left
         ·simp only [Act.put, sl0, sl1, sl2, i64_w, i32_w]
          rfl
         refine pure_ (i := 15) (N := some 91) (v := ?_) (a' := ?_) (fl_ 16 40) rfl rfl (any_of HT_.out (by kernel_rfl)) (fun _ _ _ h => h) (Or.inl ⟨by rfl, ?_⟩) ?_ ?_
         rotate_left
         ·intro w'
          go_simp
          with_reducible rfl
         rotate_left
         ·simp only [Act.put, sl0, sl1, sl2, i64_w, i32_w]
          rfl
         refine pure_ (i := 16) (N := some 92) (v := ?_) (a' := ?_) (fl_ 17 39) rfl rfl (any_of HT_.out (by kernel_rfl)) (fun _ _ _ h => h) (Or.inl ⟨by rfl, ?_⟩) ?_ ?_
         rotate_left
         ·intro w'
          go_simp
          with_reducible rfl
         rotate_left
         ·simp only [Act.put, sl0, sl1, sl2, i64_w, i32_w]
          rfl
         refine pure_ (i := 17) (N := some 93) (v := ?_) (a' := ?_) (fl_ 18 38) rfl rfl (any_of HT_.out (by kernel_rfl)) (fun _ _ _ h => h) (Or.inl ⟨by rfl, ?_⟩) ?_ ?_
         rotate_left
         ·intro w'
          go_simp
          with_reducible rfl
         rotate_left
         ·simp only [Act.put, sl0, sl1, sl2, i64_w, i32_w]
          rfl
         refine pure_ (i := 18) (N := some 94) (v := ?_) (a' := ?_) (fl_ 19 37) rfl rfl (any_of HT_.out (by kernel_rfl)) (fun _ _ _ h => h) (Or.inl ⟨by rfl, ?_⟩) ?_ ?_
         rotate_left
         ·intro w'
          go_simp
          with_reducible rfl
         rotate_left
         ·simp only [Act.put, sl0, sl1, sl2, i64_w, i32_w]
          rfl
         refine take_ (i := 19) (N := some 95) (v := ?_) (a' := ?_) (fl_ 20 36) rfl rfl (take_ofW HT_.out HW_.out (by kernel_rfl)) (fun _ _ _ h => h) (Or.inl ⟨by rfl, ?_⟩) hHeld ?_ ?_
         rotate_left
         ·rintro w' ⟨s0, s1, s2, s3, s4, s5, s6⟩
          go_simp
          with_reducible rfl
         rotate_left
         ·simp only [Act.put, sl0, sl1, sl2, i64_w, i32_w]
          rfl
         refine pure_ (i := 20) (N := some 96) (v := ?_) (a' := ?_) (fl_ 21 35) rfl rfl (any_of HT_.out (by kernel_rfl)) (fun _ _ _ h => h) (Or.inl ⟨by rfl, ?_⟩) ?_ ?_
         rotate_left
         ·intro w'
          go_simp
          with_reducible rfl
         rotate_left
         ·simp only [Act.put, sl0, sl1, sl2, i64_w, i32_w]
          rfl
         refine take_ (i := 21) (N := some 97) (v := ?_) (a' := ?_) (fl_ 22 34) rfl rfl (take_ofW HT_.out HW_.out (by kernel_rfl)) (fun _ _ _ h => h) (Or.inl ⟨by rfl, ?_⟩) hHeld ?_ ?_
         rotate_left
         ·rintro w' ⟨s0, s1, s2, s3, s4, s5, s6⟩
          go_simp
          with_reducible rfl
         rotate_left
         ·simp only [Act.put, sl0, sl1, sl2, i64_w, i32_w]
          rfl
         refine pure_ (i := 22) (N := some 98) (v := ?_) (a' := ?_) (fl_ 23 33) rfl rfl (any_of HT_.out (by kernel_rfl)) (fun _ _ _ h => h) (Or.inl ⟨by rfl, ?_⟩) ?_ ?_
         rotate_left
         ·intro w'
          go_simp
          with_reducible rfl
         rotate_left
         ·simp only [Act.put, sl0, sl1, sl2, i64_w, i32_w]
          rfl
         refine pure_ (i := 23) (N := some 99) (v := ?_) (a' := ?_) (fl_ 24 32) rfl rfl (any_of HT_.out (by kernel_rfl)) (fun _ _ _ h => h) (Or.inl ⟨by rfl, ?_⟩) ?_ ?_
         rotate_left
         ·intro w'
          go_simp
          with_reducible rfl
         rotate_left
         ·simp only [Act.put, sl0, sl1, sl2, i64_w, i32_w]
          rfl
         refine pure_ (i := 24) (N := some 100) (v := ?_) (a' := ?_) (fl_ 25 31) rfl rfl (any_of HT_.out (by kernel_rfl)) (fun _ _ _ h => h) (Or.inl ⟨by rfl, ?_⟩) ?_ ?_
         rotate_left
         ·intro w'
          go_simp
          with_reducible rfl
         rotate_left
         ·simp only [Act.put, sl0, sl1, sl2, i64_w, i32_w]
          rfl
         refine pure_ (i := 25) (N := some 101) (v := ?_) (a' := ?_) (fl_ 26 30) rfl rfl (any_of HT_.out (by kernel_rfl)) (fun _ _ _ h => h) (Or.inl ⟨by rfl, ?_⟩) ?_ ?_
         rotate_left
         ·intro w'
          go_simp
          with_reducible rfl
         rotate_left
         ·simp only [Act.put, sl0, sl1, sl2, i64_w, i32_w]
          rfl
         refine pure_ (i := 26) (N := some 102) (v := ?_) (a' := ?_) (fl_ 27 29) rfl rfl (any_of HT_.out (by kernel_rfl)) (fun _ _ _ h => h) (Or.inl ⟨by rfl, ?_⟩) ?_ ?_
         rotate_left
         ·intro w'
          go_simp
          with_reducible rfl
         rotate_left
         ·simp only [Act.put, sl0, sl1, sl2, i64_w, i32_w]
          rfl
         refine pure_ (i := 27) (N := some 103) (v := ?_) (a' := ?_) (fl_ 28 28) rfl rfl (any_of HT_.out (by kernel_rfl)) (fun _ _ _ h => h) (Or.inl ⟨by rfl, ?_⟩) ?_ ?_
         rotate_left
         ·intro w'
          go_simp
          with_reducible rfl
         rotate_left
         ·simp only [Act.put, sl0, sl1, sl2, i64_w, i32_w]
          rfl
         refine pure_ (i := 29) (N := some 105) (v := ?_) (a' := ?_) #[Y,Y,Y,Y,Y,Y,Y,Y,Y,Y,Y,Y,Y,Y,Y,Y,Y,Y,Y,Y,Y,Y,Y,Y,Y,Y,Y,Y,Z,Y,Z,Z,Z,Z,Z,Z,Z,Z,Z,Z,Z,Z,Z,Z,Z,Z,Z,Z,Z,Z,Z,Z,Z,Z,Z,Z] rfl rfl (any_of HT_.out (by kernel_rfl)) (fun _ _ _ h => h) (Or.inl ⟨by rfl, ?_⟩) ?_ ?_
         rotate_left
         ·intro w'
          go_simp
          with_reducible rfl
         rotate_left
         ·simp only [Act.put, sl0, sl1, sl2, i64_w, i32_w]
          rfl
         refine pure_ (i := 30) (N := some 106) (v := ?_) (a' := ?_) #[Y,Y,Y,Y,Y,Y,Y,Y,Y,Y,Y,Y,Y,Y,Y,Y,Y,Y,Y,Y,Y,Y,Y,Y,Y,Y,Y,Y,Z,Y,Y,Z,Z,Z,Z,Z,Z,Z,Z,Z,Z,Z,Z,Z,Z,Z,Z,Z,Z,Z,Z,Z,Z,Z,Z,Z] rfl rfl (any_of HT_.out (by kernel_rfl)) (fun _ _ _ h => h) (Or.inl ⟨by rfl, ?_⟩) ?_ ?_
         rotate_left
         ·intro w'
          go_simp
          with_reducible rfl
         rotate_left
         ·simp only [Act.put, sl0, sl1, sl2, i64_w, i32_w]
          rfl
         refine pure_ (i := 31) (N := some 107) (v := ?_) (a' := ?_) #[Y,Y,Y,Y,Y,Y,Y,Y,Y,Y,Y,Y,Y,Y,Y,Y,Y,Y,Y,Y,Y,Y,Y,Y,Y,Y,Y,Y,Z,Y,Y,Y,Z,Z,Z,Z,Z,Z,Z,Z,Z,Z,Z,Z,Z,Z,Z,Z,Z,Z,Z,Z,Z,Z,Z,Z] rfl rfl (any_of HT_.out (by kernel_rfl)) (fun _ _ _ h => h) (Or.inl ⟨by rfl, ?_⟩) ?_ ?_
         rotate_left
         ·intro w'
          go_simp
          with_reducible rfl
         rotate_left
         ·simp only [Act.put, sl0, sl1, sl2, i64_w, i32_w]
          rfl
         refine pure_ (i := 34) (N := some 110) (v := ?_) (a' := ?_) #[Y,Y,Y,Y,Y,Y,Y,Y,Y,Y,Y,Y,Y,Y,Y,Y,Y,Y,Y,Y,Y,Y,Y,Y,Y,Y,Y,Y,Z,Y,Y,Y,Z,Z,Y,Z,Z,Z,Z,Z,Z,Z,Z,Z,Z,Z,Z,Z,Z,Z,Z,Z,Z,Z,Z,Z] rfl rfl (any_of HT_.out (by kernel_rfl)) (fun _ _ _ h => h) (Or.inl ⟨by rfl, ?_⟩) ?_ ?_
         rotate_left
         ·intro w'
          go_simp
          with_reducible rfl
         rotate_left
         ·simp only [Act.put, sl0, sl1, sl2, i64_w, i32_w]
          rfl
         refine pure_ (i := 35) (N := some 111) (v := ?_) (a' := ?_) #[Y,Y,Y,Y,Y,Y,Y,Y,Y,Y,Y,Y,Y,Y,Y,Y,Y,Y,Y,Y,Y,Y,Y,Y,Y,Y,Y,Y,Z,Y,Y,Y,Z,Z,Y,Y,Z,Z,Z,Z,Z,Z,Z,Z,Z,Z,Z,Z,Z,Z,Z,Z,Z,Z,Z,Z] rfl rfl (any_of HT_.out (by kernel_rfl)) (fun _ _ _ h => h) (Or.inl ⟨by rfl, ?_⟩) ?_ ?_
         rotate_left
         ·intro w'
          go_simp
          with_reducible rfl
         rotate_left
         ·simp only [Act.put, sl0, sl1, sl2, i64_w, i32_w]
          rfl
         refine pure_ (i := 36) (N := some 112) (v := ?_) (a' := ?_) #[Y,Y,Y,Y,Y,Y,Y,Y,Y,Y,Y,Y,Y,Y,Y,Y,Y,Y,Y,Y,Y,Y,Y,Y,Y,Y,Y,Y,Z,Y,Y,Y,Z,Z,Y,Y,Y,Z,Z,Z,Z,Z,Z,Z,Z,Z,Z,Z,Z,Z,Z,Z,Z,Z,Z,Z] rfl rfl (any_of HT_.out (by kernel_rfl)) (fun _ _ _ h => h) (Or.inl ⟨by rfl, ?_⟩) ?_ ?_
         rotate_left
         ·intro w'
          go_simp
          with_reducible rfl
         rotate_left
         ·simp only [Act.put, sl0, sl1, sl2, i64_w, i32_w]
          rfl
         refine take_ (i := 28) (N := some 104) (v := ?_) (a' := ?_) #[Y,Y,Y,Y,Y,Y,Y,Y,Y,Y,Y,Y,Y,Y,Y,Y,Y,Y,Y,Y,Y,Y,Y,Y,Y,Y,Y,Y,Y,Y,Y,Y,Z,Z,Y,Y,Y,Z,Z,Z,Z,Z,Z,Z,Z,Z,Z,Z,Z,Z,Z,Z,Z,Z,Z,Z] rfl rfl (take_ofW HT_.out HW_.out (by kernel_rfl)) (fun _ _ _ h => h) (Or.inl ⟨by rfl, ?_⟩) hHeld ?_ ?_
         rotate_left
         ·rintro w' ⟨s0, s1, s2, s3, s4, s5, s6⟩
          go_simp
          with_reducible rfl
         rotate_left
         ·simp only [Act.put, sl0, sl1, sl2, i64_w, i32_w]
          rfl
         refine take_ (i := 32) (N := some 108) (v := ?_) (a' := ?_) #[Y,Y,Y,Y,Y,Y,Y,Y,Y,Y,Y,Y,Y,Y,Y,Y,Y,Y,Y,Y,Y,Y,Y,Y,Y,Y,Y,Y,Y,Y,Y,Y,Y,Z,Y,Y,Y,Z,Z,Z,Z,Z,Z,Z,Z,Z,Z,Z,Z,Z,Z,Z,Z,Z,Z,Z] rfl rfl (take_ofW HT_.out HW_.out (by kernel_rfl)) (fun _ _ _ h => h) (Or.inl ⟨by rfl, ?_⟩) hHeld ?_ ?_
         rotate_left
         ·rintro w' ⟨s0, s1, s2, s3, s4, s5, s6⟩
          go_simp
          with_reducible rfl
         rotate_left
         ·simp only [Act.put, sl0, sl1, sl2, i64_w, i32_w]
          rfl
         refine pure_ (i := 33) (N := some 109) (v := ?_) (a' := ?_) (fl_ 37 19) rfl rfl (any_of HT_.out (by kernel_rfl)) (fun _ _ _ h => h) (Or.inl ⟨by rfl, ?_⟩) ?_ ?_
         rotate_left
         ·intro w'
          go_simp
          with_reducible rfl
         rotate_left
         ·simp only [Act.put, sl0, sl1, sl2, i64_w, i32_w]
          rfl
         refine take_ (i := 37) (N := some 113) (v := ?_) (a' := ?_) (fl_ 38 18) rfl rfl (take_ofW HT_.out HW_.out (by kernel_rfl)) (fun _ _ _ h => h) (Or.inl ⟨by rfl, ?_⟩) hHeld ?_ ?_
         rotate_left
         ·rintro w' ⟨s0, s1, s2, s3, s4, s5, s6⟩
          go_simp
          with_reducible rfl
         rotate_left
         ·simp only [Act.put, sl0, sl1, sl2, i64_w, i32_w]
          rfl
         refine pure_ (i := 38) (N := some 114) (v := ?_) (a' := ?_) (fl_ 39 17) rfl rfl (any_of HT_.out (by kernel_rfl)) (fun _ _ _ h => h) (Or.inl ⟨by rfl, ?_⟩) ?_ ?_
         rotate_left
         ·intro w'
          go_simp
          with_reducible rfl
         rotate_left
         ·simp only [Act.put, sl0, sl1, sl2, i64_w, i32_w]
          rfl
         refine pure_ (i := 39) (N := some 115) (v := ?_) (a' := ?_) (fl_ 40 16) rfl rfl (any_of HT_.out (by kernel_rfl)) (fun _ _ _ h => h) (Or.inl ⟨by rfl, ?_⟩) ?_ ?_
         rotate_left
         ·intro w'
          go_simp
          with_reducible rfl
         rotate_left
         ·simp only [Act.put, sl0, sl1, sl2, i64_w, i32_w]
          rfl
         refine pure_ (i := 40) (N := some 116) (v := ?_) (a' := ?_) (fl_ 41 15) rfl rfl (any_of HT_.out (by kernel_rfl)) (fun _ _ _ h => h) (Or.inl ⟨by rfl, ?_⟩) ?_ ?_
         rotate_left
         ·intro w'
          go_simp
          with_reducible rfl
         rotate_left
         ·simp only [Act.put, sl0, sl1, sl2, i64_w, i32_w]
          rfl
         refine pure_ (i := 41) (N := some 117) (v := ?_) (a' := ?_) (fl_ 42 14) rfl rfl (any_of HT_.out (by kernel_rfl)) (fun _ _ _ h => h) (Or.inl ⟨by rfl, ?_⟩) ?_ ?_
         rotate_left
         ·intro w'
          go_simp
          with_reducible rfl
         rotate_left
         ·simp only [Act.put, sl0, sl1, sl2, i64_w, i32_w]
          rfl
         refine pure_ (i := 42) (N := some 118) (v := ?_) (a' := ?_) (fl_ 43 13) rfl rfl (any_of HT_.out (by kernel_rfl)) (fun _ _ _ h => h) (Or.inl ⟨by rfl, ?_⟩) ?_ ?_
         rotate_left
         ·intro w'
          go_simp
          with_reducible rfl
         rotate_left
         ·simp only [Act.put, sl0, sl1, sl2, i64_w, i32_w]
          rfl
         refine pure_ (i := 43) (N := some 119) (v := ?_) (a' := ?_) (fl_ 44 12) rfl rfl (any_of HT_.out (by kernel_rfl)) (fun _ _ _ h => h) (Or.inl ⟨by rfl, ?_⟩) ?_ ?_
         rotate_left
         ·intro w'
          go_simp
          with_reducible rfl
         rotate_left
         ·simp only [Act.put, sl0, sl1, sl2, i64_w, i32_w]
          rfl
         refine pure_ (i := 44) (N := some 120) (v := undef) (a' := ?_) (fl_ 45 11) rfl rfl (any_of HT_.out (by kernel_rfl)) (fun _ _ _ h => h) (Or.inr ⟨by rfl, rfl⟩) ?_ ?_
         rotate_left
         ·simp only [Act.put, sl0, sl1, sl2, i64_w, i32_w]
          rfl
         refine pure_ (i := 45) (N := some 121) (v := undef) (a' := ?_) (fl_ 46 10) rfl rfl (any_of HT_.out (by kernel_rfl)) (fun _ _ _ h => h) (Or.inr ⟨by rfl, rfl⟩) ?_ ?_
         rotate_left
         ·simp only [Act.put, sl0, sl1, sl2, i64_w, i32_w]
          rfl
         refine pure_ (i := 46) (N := some 122) (v := undef) (a' := ?_) (fl_ 47 9) rfl rfl (any_of HT_.out (by kernel_rfl)) (fun _ _ _ h => h) (Or.inr ⟨by rfl, rfl⟩) ?_ ?_
         rotate_left
         ·simp only [Act.put, sl0, sl1, sl2, i64_w, i32_w]
          rfl
         refine pure_ (i := 47) (N := some 123) (v := undef) (a' := ?_) (fl_ 48 8) rfl rfl (any_of HT_.out (by kernel_rfl)) (fun _ _ _ h => h) (Or.inr ⟨by rfl, rfl⟩) ?_ ?_
         rotate_left
         ·simp only [Act.put, sl0, sl1, sl2, i64_w, i32_w]
          rfl
         refine pure_ (i := 48) (N := some 124) (v := undef) (a' := ?_) (fl_ 49 7) rfl rfl (any_of HT_.out (by kernel_rfl)) (fun _ _ _ h => h) (Or.inr ⟨by rfl, rfl⟩) ?_ ?_
         rotate_left
         ·simp only [Act.put, sl0, sl1, sl2, i64_w, i32_w]
          rfl
         refine pure_ (i := 49) (N := some 125) (v := undef) (a' := ?_) (fl_ 50 6) rfl rfl (any_of HT_.out (by kernel_rfl)) (fun _ _ _ h => h) (Or.inr ⟨by rfl, rfl⟩) ?_ ?_
         rotate_left
         ·simp only [Act.put, sl0, sl1, sl2, i64_w, i32_w]
          rfl
         refine pure_ (i := 50) (N := some 126) (v := undef) (a' := ?_) (fl_ 51 5) rfl rfl (any_of HT_.out (by kernel_rfl)) (fun _ _ _ h => h) (Or.inr ⟨by rfl, rfl⟩) ?_ ?_
         rotate_left
         ·simp only [Act.put, sl0, sl1, sl2, i64_w, i32_w]
          rfl
         refine pure_ (i := 51) (N := some 127) (v := undef) (a' := ?_) (fl_ 52 4) rfl rfl (any_of HT_.out (by kernel_rfl)) (fun _ _ _ h => h) (Or.inr ⟨by rfl, rfl⟩) ?_ ?_
         rotate_left
         ·simp only [Act.put, sl0, sl1, sl2, i64_w, i32_w]
          rfl
         refine pure_ (i := 52) (N := some 128) (v := undef) (a' := ?_) (fl_ 53 3) rfl rfl (any_of HT_.out (by kernel_rfl)) (fun _ _ _ h => h) (Or.inr ⟨by rfl, rfl⟩) ?_ ?_
         rotate_left
         ·simp only [Act.put, sl0, sl1, sl2, i64_w, i32_w]
          rfl
         refine pure_ (i := 53) (N := some 129) (v := undef) (a' := ?_) (fl_ 54 2) rfl rfl (any_of HT_.out (by kernel_rfl)) (fun _ _ _ h => h) (Or.inr ⟨by rfl, rfl⟩) ?_ ?_
         rotate_left
         ·simp only [Act.put, sl0, sl1, sl2, i64_w, i32_w]
          rfl
         refine pure_ (i := 54) (N := some 130) (v := ?_) (a' := ?_) (fl_ 55 1) rfl rfl (any_of HT_.out (by kernel_rfl)) (fun _ _ _ h => h) (Or.inl ⟨by rfl, ?_⟩) ?_ ?_
         rotate_left
         ·intro w'
          go_simp
          with_reducible rfl
         rotate_left
         ·simp only [Act.put, sl0, sl1, sl2, i64_w, i32_w]
          rfl
         refine pure_ (i := 55) (N := some 131) (v := ?_) (a' := ?_) (fl_ 56 0) rfl rfl (any_of HT_.out (by kernel_rfl)) (fun _ _ _ h => h) (Or.inl ⟨by rfl, ?_⟩) ?_ ?_
         rotate_left
         ·intro w'
          go_simp
          with_reducible rfl
         rotate_left
         ·simp only [Act.put, sl0, sl1, sl2, i64_w, i32_w]
          rfl
         refine done_ (done_of HT_.out (by kernel_rfl)) ?_
         try go_wp2
         go_roundg k3
         case measure => have := HK1.out; have := HJ17.out; have := HK3.out; omega
         case rel => exact ⟨(wrap64 (x8_3 + 1)), (by first | rfl | (simp; done) | (simp [*]; done)), H', ⟨by have := HK1.out; have := HJ17.out; have := HK3.out; omega⟩, ⟨by (with_reducible repeat (first | apply Kd.R_alloc | apply Kd.R_drewN | apply Kd.R_drew)); exact HO_4.out⟩, ⟨by (with_reducible repeat (first | apply Kd.R_alloc | apply Kd.R_drewN | apply Kd.R_drew)); exact HO_5.out⟩, ⟨by (with_reducible repeat (first | apply Kd.R_alloc | apply Kd.R_drewN | apply Kd.R_drew)); exact HO_7.out⟩, ⟨by repeat (first | (with_reducible first | exact HB.out | apply below_alloc | apply pw_below_drewN | apply below_drew1) | exact HB.out)⟩⟩
        rw [if_pos c46] at H
        have c46b0 : decide (0 < x8_3) = true := decide_eq_true c46
        clear c46
        obtain ⟨ji47, hji47⟩ : ∃ j_ : Int, (wrap64 (x8_3 - 1)) = j_ := ⟨_, rfl⟩
        replace H : (if 0 ≤ (ji47) then (if (ji47) < (t138.length : Int) then (if (rd t138 (ji47)) ≥ (rd t138 x8_3) then (some false) else (hypercubelaw8_LatticeSets.l1 k3 (wrap64 (1 + t126)) t127 x5_1 x6_1 t138 (wrap64 (x8_3 + 1)))) else (none)) else (none)) = some r := by first | (rw [hji47] at H; exact H) | (simp only [hji47] at H ⊢; exact H)
        have hji47w : (IntKind.i64.wrap (x8_3 - 1)) = ji47 := (i64_w _).trans hji47
        by_cases c48 : 0 ≤ (ji47)
        rotate_left
        ·rw [if_neg c48] at H
         exact absurd H (by simp)
        rw [if_pos c48] at H
        have c48b0 : decide (0 ≤ (ji47)) = true := decide_eq_true c48
        clear c48
        by_cases c49 : (ji47) < (t138.length : Int)
        rotate_left
        ·rw [if_neg c49] at H
         exact absurd H (by simp)
        rw [if_pos c49] at H
        have c49b0 : decide ((ji47) < (t138.length : Int)) = true := decide_eq_true c49
        clear c49
        by_cases c50 : (rd t138 (ji47)) ≥ (rd t138 x8_3)
        ·rw [if_pos c50] at H
         have c50b0 : decide ((rd t138 x8_3) ≤ (rd t138 (ji47))) = true := decide_eq_true c50
         clear c50
         obtain rfl := Option.some.inj H
         exact absurd HRT_.out (by decide)
        rw [if_neg c50] at H
        have c50b0 : decide ((rd t138 x8_3) ≤ (rd t138 (ji47))) = false := decide_eq_false c50
        clear c50
        have H' := Aside0.mk H
        clear H
        try go_wp2
        have n0_ := Aside0.mk (Kd.R_drew HO_4.out)
        have n1_ := Aside0.mk (Kd.R_drew HO_5.out)
        have n2_ := Aside0.mk (Kd.R_drew HO_7.out)
        have n3_ := Aside0.mk (below_drew1 HB.out)
        clear HO_4
        clear HO_5
        clear HO_7
        clear HB
        have HO_4 := n0_
        have HO_5 := n1_
        have HO_7 := n2_
        have HB := n3_
        clear n0_ n1_ n2_ n3_
        have p143 : 0 ≤ (x8_3 : Int) := od_
        have q143 : x8_3 < (t138.length : Int) := od_
        obtain ⟨ad143, e143, hx143_0⟩ := Kd.at_int (Kd.R_reads' HO_7.out).2.2 x8_3 p143 q143
        cases e143
        replace p143 := eq_true p143
        replace q143 := eq_true q143
        have p144 : 0 ≤ (x8_3 : Int) := od_
        have q144 : x8_3 < (t138.length : Int) := od_
        obtain ⟨ad144, e144, hx144_0⟩ := Kd.at_int (Kd.R_reads' HO_7.out).2.2 x8_3 p144 q144
        obtain rfl : ad143 = ad144 := (by injection e144)
        replace p144 := eq_true p144
        replace q144 := eq_true q144
        have p145 : 0 ≤ (x8_3 : Int) := od_
        have q145 : x8_3 < (t138.length : Int) := od_
        obtain ⟨ad145, e145, hx145_0⟩ := Kd.at_int (Kd.R_reads' HO_7.out).2.2 x8_3 p145 q145
        obtain rfl : ad143 = ad145 := (by injection e145)
        replace p145 := eq_true p145
        replace q145 := eq_true q145
        obtain ⟨Ao54, co54, eo54⟩ := Kd.R_slice HO_5.out
        (first | subst eo54 | (injection eo54 with f1_ f2_ f3_; have f4_ := f1_.symm; have f5_ := f3_.symm; clear f1_ f2_ f3_; subst f4_; subst f5_))
        have p146 : 0 ≤ ((rd t138 x8_3) : Int) := od_
        have q146 : (rd t138 x8_3) < (x5_1.length : Int) := od_
        obtain ⟨ad146, e146, hx146_0⟩ := Kd.at_bool (Kd.R_reads' HO_5.out).2.2 (rd t138 x8_3) p146 q146
        (try rw [← Nbq41.out] at hx146_0)
        cases e146
        replace p146 := eq_true p146
        replace q146 := eq_true q146
        have p147 : 0 ≤ (x8_3 : Int) := od_
        have q147 : x8_3 < (t138.length : Int) := od_
        obtain ⟨ad147, e147, hx147_0⟩ := Kd.at_int (Kd.R_reads' HO_7.out).2.2 x8_3 p147 q147
        obtain rfl : ad143 = ad147 := (by injection e147)
        replace p147 := eq_true p147
        replace q147 := eq_true q147
        have p148 : 0 ≤ (x6_1 : Int) := od_
        have q148 : x6_1 < (t127.length : Int) := od_
        obtain ⟨ad148, e148, hx148_0⟩ := Kd.at_int (Kd.R_reads' HO_4.out).2.2 x6_1 p148 q148
        obtain rfl : ad137 = ad148 := (by injection e148)
        replace p148 := eq_true p148
        replace q148 := eq_true q148
        have p149 : 0 ≤ (x6_1 : Int) := od_
        have q149 : x6_1 < (t127.length : Int) := od_
        obtain ⟨ad149, e149, hx149_0⟩ := Kd.at_int (Kd.R_reads' HO_4.out).2.2 x6_1 p149 q149
        obtain rfl : ad137 = ad149 := (by injection e149)
        replace p149 := eq_true p149
        replace q149 := eq_true q149
        have p150 : 0 ≤ ((ji47) : Int) := od_
        have q150 : (ji47) < (t138.length : Int) := od_
        obtain ⟨ad150, e150, hx150_0⟩ := Kd.at_int (Kd.R_reads' HO_7.out).2.2 (ji47) p150 q150
        obtain rfl : ad143 = ad150 := (by injection e150)
        replace p150 := eq_true p150
        replace q150 := eq_true q150
        have p151 : 0 ≤ (x8_3 : Int) := od_
        have q151 : x8_3 < (t138.length : Int) := od_
        obtain ⟨ad151, e151, hx151_0⟩ := Kd.at_int (Kd.R_reads' HO_7.out).2.2 x8_3 p151 q151
        obtain rfl : ad143 = ad151 := (by injection e151)
        replace p151 := eq_true p151
        replace q151 := eq_true q151
        refine start_ (n := 56) (S := fun w' => w'.cell? (ad143.add (x8_3).toNat) = some (.int .i64 (rd t138 x8_3)) ∧ w'.cell? (ad143.add (x8_3).toNat) = some (.int .i64 (rd t138 x8_3)) ∧ w'.cell? (ad143.add (x8_3).toNat) = some (.int .i64 (rd t138 x8_3)) ∧ w'.cell? (ad146.add ((rd t138 x8_3)).toNat) = some (.bool true) ∧ w'.cell? (ad143.add (x8_3).toNat) = some (.int .i64 (rd t138 x8_3)) ∧ w'.cell? (ad137.add (x6_1).toNat) = some (.int .i64 (rd t127 x6_1)) ∧ w'.cell? (ad137.add (x6_1).toNat) = some (.int .i64 (rd t127 x6_1)) ∧ w'.cell? (ad143.add ((ji47)).toNat) = some (.int .i64 (rd t138 (ji47))) ∧ w'.cell? (ad143.add (x8_3).toNat) = some (.int .i64 (rd t138 x8_3))) (ds := []) (fl_ 0 56) (by kernel_rfl) rfl rfl ⟨hx143_0, hx144_0, hx145_0, hx146_0, hx147_0, hx148_0, hx149_0, hx150_0, hx151_0⟩ (fun hHeld => ?_); refine with_tabW hypercubelaw8_LatticeSets.tab19 hypercubelaw8_LatticeSets.bits19 (fun HT_ HW_ => ?_)
        generalize wr.drew = w53 at HO_4 HO_5 HO_7 HB hx143_0 hx144_0 hx145_0 hx146_0 hx147_0 hx148_0 hx149_0 hx150_0 hx151_0 hHeld ⊢
        refine pure_ (i := 0) (N := some 76) (v := ?_) (a' := ?_) (fl_ 1 55) rfl rfl (any_of HT_.out (by kernel_rfl)) (fun _ _ _ h => h) (Or.inl ⟨by rfl, ?_⟩) ?_ ?_
        rotate_left
        ·intro w'
         go_simp
         with_reducible rfl
        rotate_left
        ·simp only [Act.put, sl0, sl1, sl2, i64_w, i32_w]
         rfl
        refine pure_ (i := 1) (N := some 77) (v := ?_) (a' := ?_) (fl_ 2 54) rfl rfl (any_of HT_.out (by kernel_rfl)) (fun _ _ _ h => h) (Or.inl ⟨by rfl, ?_⟩) ?_ ?_
        rotate_left
        ·intro w'
         go_simp
         with_reducible rfl
        rotate_left
        ·simp only [Act.put, sl0, sl1, sl2, i64_w, i32_w]
         rfl
        refine pure_ (i := 2) (N := some 78) (v := ?_) (a' := ?_) (fl_ 3 53) rfl rfl (any_of HT_.out (by kernel_rfl)) (fun _ _ _ h => h) (Or.inl ⟨by rfl, ?_⟩) ?_ ?_
        rotate_left
        ·intro w'
         go_simp
         with_reducible rfl
        rotate_left
        ·simp only [Act.put, sl0, sl1, sl2, i64_w, i32_w]
         rfl
        refine take_ (i := 3) (N := some 79) (v := ?_) (a' := ?_) (fl_ 4 52) rfl rfl (take_ofW HT_.out HW_.out (by kernel_rfl)) (fun _ _ _ h => h) (Or.inl ⟨by rfl, ?_⟩) hHeld ?_ ?_
        rotate_left
        ·rintro w' ⟨s0, s1, s2, s3, s4, s5, s6, s7, s8⟩
         go_simp
         with_reducible rfl
        rotate_left
        ·simp only [Act.put, sl0, sl1, sl2, i64_w, i32_w]
         rfl
        refine pure_ (i := 4) (N := some 80) (v := ?_) (a' := ?_) (fl_ 5 51) rfl rfl (any_of HT_.out (by kernel_rfl)) (fun _ _ _ h => h) (Or.inl ⟨by rfl, ?_⟩) ?_ ?_
        rotate_left
        ·intro w'
         go_simp
         with_reducible rfl
        rotate_left
        ·simp only [Act.put, sl0, sl1, sl2, i64_w, i32_w]
         rfl
        refine pure_ (i := 5) (N := some 81) (v := ?_) (a' := ?_) (fl_ 6 50) rfl rfl (any_of HT_.out (by kernel_rfl)) (fun _ _ _ h => h) (Or.inl ⟨by rfl, ?_⟩) ?_ ?_
        rotate_left
        ·intro w'
         go_simp
         with_reducible rfl
        rotate_left
        ·simp only [Act.put, sl0, sl1, sl2, i64_w, i32_w]
         rfl
        refine pure_ (i := 6) (N := some 82) (v := ?_) (a' := ?_) (fl_ 7 49) rfl rfl (any_of HT_.out (by kernel_rfl)) (fun _ _ _ h => h) (Or.inl ⟨by rfl, ?_⟩) ?_ ?_
        rotate_left
        ·intro w'
         go_simp
         with_reducible rfl
        rotate_left
        ·simp only [Act.put, sl0, sl1, sl2, i64_w, i32_w]
         rfl
        refine pure_ (i := 7) (N := some 83) (v := ?_) (a' := ?_) (fl_ 8 48) rfl rfl (any_of HT_.out (by kernel_rfl)) (fun _ _ _ h => h) (Or.inl ⟨by rfl, ?_⟩) ?_ ?_
        rotate_left
        ·intro w'
         go_simp
         with_reducible rfl
        rotate_left
        ·simp only [Act.put, sl0, sl1, sl2, i64_w, i32_w]
         rfl
        refine pure_ (i := 8) (N := some 84) (v := ?_) (a' := ?_) (fl_ 9 47) rfl rfl (any_of HT_.out (by kernel_rfl)) (fun _ _ _ h => h) (Or.inl ⟨by rfl, ?_⟩) ?_ ?_
        rotate_left
        ·intro w'
         go_simp
         with_reducible rfl
        rotate_left
        ·simp only [Act.put, sl0, sl1, sl2, i64_w, i32_w]
         rfl
        refine pure_ (i := 10) (N := some 86) (v := ?_) (a' := ?_) #[Y,Y,Y,Y,Y,Y,Y,Y,Y,Z,Y,Z,Z,Z,Z,Z,Z,Z,Z,Z,Z,Z,Z,Z,Z,Z,Z,Z,Z,Z,Z,Z,Z,Z,Z,Z,Z,Z,Z,Z,Z,Z,Z,Z,Z,Z,Z,Z,Z,Z,Z,Z,Z,Z,Z,Z] rfl rfl (any_of HT_.out (by kernel_rfl)) (fun _ _ _ h => h) (Or.inl ⟨by rfl, ?_⟩) ?_ ?_
        rotate_left
        ·intro w'
         go_simp
         with_reducible rfl
        rotate_left
        ·simp only [Act.put, sl0, sl1, sl2, i64_w, i32_w]
         rfl
        refine pure_ (i := 11) (N := some 87) (v := ?_) (a' := ?_) #[Y,Y,Y,Y,Y,Y,Y,Y,Y,Z,Y,Y,Z,Z,Z,Z,Z,Z,Z,Z,Z,Z,Z,Z,Z,Z,Z,Z,Z,Z,Z,Z,Z,Z,Z,Z,Z,Z,Z,Z,Z,Z,Z,Z,Z,Z,Z,Z,Z,Z,Z,Z,Z,Z,Z,Z] rfl rfl (any_of HT_.out (by kernel_rfl)) (fun _ _ _ h => h) (Or.inl ⟨by rfl, ?_⟩) ?_ ?_
        rotate_left
        ·intro w'
         go_simp
         with_reducible rfl
        rotate_left
        ·simp only [Act.put, sl0, sl1, sl2, i64_w, i32_w]
         rfl
        refine take_ (i := 9) (N := some 85) (v := ?_) (a' := ?_) (fl_ 12 44) rfl rfl (take_ofW HT_.out HW_.out (by kernel_rfl)) (fun _ _ _ h => h) (Or.inl ⟨by rfl, ?_⟩) hHeld ?_ ?_
        rotate_left
        ·rintro w' ⟨s0, s1, s2, s3, s4, s5, s6, s7, s8⟩
         go_simp
         with_reducible rfl
        rotate_left
        ·simp only [Act.put, sl0, sl1, sl2, i64_w, i32_w]
         rfl
        refine pure_ (i := 12) (N := some 88) (v := ?_) (a' := ?_) (fl_ 13 43) rfl rfl (any_of HT_.out (by kernel_rfl)) (fun _ _ _ h => h) (Or.inl ⟨by rfl, ?_⟩) ?_ ?_
        rotate_left
        ·intro w'
         go_simp
         with_reducible rfl
        rotate_left
        ·simp only [Act.put, sl0, sl1, sl2, i64_w, i32_w]
         rfl
        refine pure_ (i := 13) (N := some 89) (v := ?_) (a' := ?_) (fl_ 14 42) rfl rfl (any_of HT_.out (by kernel_rfl)) (fun _ _ _ h => h) (Or.inl ⟨by rfl, ?_⟩) ?_ ?_
        rotate_left
        ·intro w'
         go_simp
         with_reducible rfl
        rotate_left
        ·simp only [Act.put, sl0, sl1, sl2, i64_w, i32_w]
         rfl
        refine pure_ (i := 14) (N := some 90) (v := ?_) (a' := ?_) (fl_ 15 41) rfl rfl (any_of HT_.out (by kernel_rfl)) (fun _ _ _ h => h) (Or.inl ⟨by rfl, ?_⟩) ?_ ?_
        rotate_left
        ·intro w'
         go_simp
         with_reducible rfl
        rotate_left
        ·simp only [Act.put, sl0, sl1, sl2, i64_w, i32_w]
         rfl
        refine pure_ (i := 15) (N := some 91) (v := ?_) (a' := ?_) (fl_ 16 40) rfl rfl (any_of HT_.out (by kernel_rfl)) (fun _ _ _ h => h) (Or.inl ⟨by rfl, ?_⟩) ?_ ?_
        rotate_left
        ·intro w'
         go_simp
         with_reducible rfl
        rotate_left
        ·simp only [Act.put, sl0, sl1, sl2, i64_w, i32_w]
         rfl
        refine pure_ (i := 16) (N := some 92) (v := ?_) (a' := ?_) (fl_ 17 39) rfl rfl (any_of HT_.out (by kernel_rfl)) (fun _ _ _ h => h) (Or.inl ⟨by rfl, ?_⟩) ?_ ?_
        rotate_left
        ·intro w'
         go_simp
         with_reducible rfl
        rotate_left
        ·simp only [Act.put, sl0, sl1, sl2, i64_w, i32_w]
         rfl
        refine pure_ (i := 17) (N := some 93) (v := ?_) (a' := ?_) (fl_ 18 38) rfl rfl (any_of HT_.out (by kernel_rfl)) (fun _ _ _ h => h) (Or.inl ⟨by rfl, ?_⟩) ?_ ?_
        rotate_left
        ·intro w'
         go_simp
         with_reducible rfl
        rotate_left
        ·simp only [Act.put, sl0, sl1, sl2, i64_w, i32_w]
         rfl
        refine pure_ (i := 18) (N := some 94) (v := ?_) (a' := ?_) (fl_ 19 37) rfl rfl (any_of HT_.out (by kernel_rfl)) (fun _ _ _ h => h) (Or.inl ⟨by rfl, ?_⟩) ?_ ?_
        rotate_left
        ·intro w'
         go_simp
         with_reducible rfl
        rotate_left
        ·simp only [Act.put, sl0, sl1, sl2, i64_w, i32_w]
         rfl
        refine take_ (i := 19) (N := some 95) (v := ?_) (a' := ?_) (fl_ 20 36) rfl rfl (take_ofW HT_.out HW_.out (by kernel_rfl)) (fun _ _ _ h => h) (Or.inl ⟨by rfl, ?_⟩) hHeld ?_ ?_
        rotate_left
        ·rintro w' ⟨s0, s1, s2, s3, s4, s5, s6, s7, s8⟩
         go_simp
         with_reducible rfl
        rotate_left
        ·simp only [Act.put, sl0, sl1, sl2, i64_w, i32_w]
         rfl
        refine pure_ (i := 20) (N := some 96) (v := ?_) (a' := ?_) (fl_ 21 35) rfl rfl (any_of HT_.out (by kernel_rfl)) (fun _ _ _ h => h) (Or.inl ⟨by rfl, ?_⟩) ?_ ?_
        rotate_left
        ·intro w'
         go_simp
         with_reducible rfl
        rotate_left
        ·simp only [Act.put, sl0, sl1, sl2, i64_w, i32_w]
         rfl
        refine take_ (i := 21) (N := some 97) (v := ?_) (a' := ?_) (fl_ 22 34) rfl rfl (take_ofW HT_.out HW_.out (by kernel_rfl)) (fun _ _ _ h => h) (Or.inl ⟨by rfl, ?_⟩) hHeld ?_ ?_
        rotate_left
        ·rintro w' ⟨s0, s1, s2, s3, s4, s5, s6, s7, s8⟩
         go_simp
         with_reducible rfl
        rotate_left
        ·simp only [Act.put, sl0, sl1, sl2, i64_w, i32_w]
         rfl
        refine pure_ (i := 22) (N := some 98) (v := ?_) (a' := ?_) (fl_ 23 33) rfl rfl (any_of HT_.out (by kernel_rfl)) (fun _ _ _ h => h) (Or.inl ⟨by rfl, ?_⟩) ?_ ?_
        rotate_left
        ·intro w'
         go_simp
         with_reducible rfl
        rotate_left
        ·simp only [Act.put, sl0, sl1, sl2, i64_w, i32_w]
         rfl
        refine pure_ (i := 23) (N := some 99) (v := ?_) (a' := ?_) (fl_ 24 32) rfl rfl (any_of HT_.out (by kernel_rfl)) (fun _ _ _ h => h) (Or.inl ⟨by rfl, ?_⟩) ?_ ?_
        rotate_left
        ·intro w'
         go_simp
         with_reducible rfl
        rotate_left
        ·simp only [Act.put, sl0, sl1, sl2, i64_w, i32_w]
         rfl
        refine pure_ (i := 24) (N := some 100) (v := ?_) (a' := ?_) (fl_ 25 31) rfl rfl (any_of HT_.out (by kernel_rfl)) (fun _ _ _ h => h) (Or.inl ⟨by rfl, ?_⟩) ?_ ?_
        rotate_left
        ·intro w'
         go_simp
         with_reducible rfl
        rotate_left
        ·simp only [Act.put, sl0, sl1, sl2, i64_w, i32_w]
         rfl
        refine pure_ (i := 25) (N := some 101) (v := ?_) (a' := ?_) (fl_ 26 30) rfl rfl (any_of HT_.out (by kernel_rfl)) (fun _ _ _ h => h) (Or.inl ⟨by rfl, ?_⟩) ?_ ?_
        rotate_left
        ·intro w'
         go_simp
         with_reducible rfl
        rotate_left
        ·simp only [Act.put, sl0, sl1, sl2, i64_w, i32_w]
         rfl
        refine pure_ (i := 26) (N := some 102) (v := ?_) (a' := ?_) (fl_ 27 29) rfl rfl (any_of HT_.out (by kernel_rfl)) (fun _ _ _ h => h) (Or.inl ⟨by rfl, ?_⟩) ?_ ?_
        rotate_left
        ·intro w'
         go_simp
         with_reducible rfl
        rotate_left
        ·simp only [Act.put, sl0, sl1, sl2, i64_w, i32_w]
         rfl
        refine pure_ (i := 27) (N := some 103) (v := ?_) (a' := ?_) (fl_ 28 28) rfl rfl (any_of HT_.out (by kernel_rfl)) (fun _ _ _ h => h) (Or.inl ⟨by rfl, ?_⟩) ?_ ?_
        rotate_left
        ·intro w'
         go_simp
         with_reducible rfl
        rotate_left
        ·simp only [Act.put, sl0, sl1, sl2, i64_w, i32_w]
         rfl
        refine pure_ (i := 29) (N := some 105) (v := ?_) (a' := ?_) #[Y,Y,Y,Y,Y,Y,Y,Y,Y,Y,Y,Y,Y,Y,Y,Y,Y,Y,Y,Y,Y,Y,Y,Y,Y,Y,Y,Y,Z,Y,Z,Z,Z,Z,Z,Z,Z,Z,Z,Z,Z,Z,Z,Z,Z,Z,Z,Z,Z,Z,Z,Z,Z,Z,Z,Z] rfl rfl (any_of HT_.out (by kernel_rfl)) (fun _ _ _ h => h) (Or.inl ⟨by rfl, ?_⟩) ?_ ?_
        rotate_left
        ·intro w'
         go_simp
         with_reducible rfl
        rotate_left
        ·simp only [Act.put, sl0, sl1, sl2, i64_w, i32_w]
         rfl
        refine pure_ (i := 30) (N := some 106) (v := ?_) (a' := ?_) #[Y,Y,Y,Y,Y,Y,Y,Y,Y,Y,Y,Y,Y,Y,Y,Y,Y,Y,Y,Y,Y,Y,Y,Y,Y,Y,Y,Y,Z,Y,Y,Z,Z,Z,Z,Z,Z,Z,Z,Z,Z,Z,Z,Z,Z,Z,Z,Z,Z,Z,Z,Z,Z,Z,Z,Z] rfl rfl (any_of HT_.out (by kernel_rfl)) (fun _ _ _ h => h) (Or.inl ⟨by rfl, ?_⟩) ?_ ?_
        rotate_left
        ·intro w'
         go_simp
         with_reducible rfl
        rotate_left
        ·simp only [Act.put, sl0, sl1, sl2, i64_w, i32_w]
         rfl
        refine pure_ (i := 31) (N := some 107) (v := ?_) (a' := ?_) #[Y,Y,Y,Y,Y,Y,Y,Y,Y,Y,Y,Y,Y,Y,Y,Y,Y,Y,Y,Y,Y,Y,Y,Y,Y,Y,Y,Y,Z,Y,Y,Y,Z,Z,Z,Z,Z,Z,Z,Z,Z,Z,Z,Z,Z,Z,Z,Z,Z,Z,Z,Z,Z,Z,Z,Z] rfl rfl (any_of HT_.out (by kernel_rfl)) (fun _ _ _ h => h) (Or.inl ⟨by rfl, ?_⟩) ?_ ?_
        rotate_left
        ·intro w'
         go_simp
         with_reducible rfl
        rotate_left
        ·simp only [Act.put, sl0, sl1, sl2, i64_w, i32_w]
         rfl
        refine pure_ (i := 34) (N := some 110) (v := ?_) (a' := ?_) #[Y,Y,Y,Y,Y,Y,Y,Y,Y,Y,Y,Y,Y,Y,Y,Y,Y,Y,Y,Y,Y,Y,Y,Y,Y,Y,Y,Y,Z,Y,Y,Y,Z,Z,Y,Z,Z,Z,Z,Z,Z,Z,Z,Z,Z,Z,Z,Z,Z,Z,Z,Z,Z,Z,Z,Z] rfl rfl (any_of HT_.out (by kernel_rfl)) (fun _ _ _ h => h) (Or.inl ⟨by rfl, ?_⟩) ?_ ?_
        rotate_left
        ·intro w'
         go_simp
         with_reducible rfl
        rotate_left
        ·simp only [Act.put, sl0, sl1, sl2, i64_w, i32_w]
         rfl
        refine pure_ (i := 35) (N := some 111) (v := ?_) (a' := ?_) #[Y,Y,Y,Y,Y,Y,Y,Y,Y,Y,Y,Y,Y,Y,Y,Y,Y,Y,Y,Y,Y,Y,Y,Y,Y,Y,Y,Y,Z,Y,Y,Y,Z,Z,Y,Y,Z,Z,Z,Z,Z,Z,Z,Z,Z,Z,Z,Z,Z,Z,Z,Z,Z,Z,Z,Z] rfl rfl (any_of HT_.out (by kernel_rfl)) (fun _ _ _ h => h) (Or.inl ⟨by rfl, ?_⟩) ?_ ?_
        rotate_left
        ·intro w'
         go_simp
         with_reducible rfl
        rotate_left
        ·simp only [Act.put, sl0, sl1, sl2, i64_w, i32_w]
         rfl
        refine pure_ (i := 36) (N := some 112) (v := ?_) (a' := ?_) #[Y,Y,Y,Y,Y,Y,Y,Y,Y,Y,Y,Y,Y,Y,Y,Y,Y,Y,Y,Y,Y,Y,Y,Y,Y,Y,Y,Y,Z,Y,Y,Y,Z,Z,Y,Y,Y,Z,Z,Z,Z,Z,Z,Z,Z,Z,Z,Z,Z,Z,Z,Z,Z,Z,Z,Z] rfl rfl (any_of HT_.out (by kernel_rfl)) (fun _ _ _ h => h) (Or.inl ⟨by rfl, ?_⟩) ?_ ?_
        rotate_left
        ·intro w'
         go_simp
         with_reducible rfl
        rotate_left
        ·simp only [Act.put, sl0, sl1, sl2, i64_w, i32_w]
         rfl
        refine take_ (i := 28) (N := some 104) (v := ?_) (a' := ?_) #[Y,Y,Y,Y,Y,Y,Y,Y,Y,Y,Y,Y,Y,Y,Y,Y,Y,Y,Y,Y,Y,Y,Y,Y,Y,Y,Y,Y,Y,Y,Y,Y,Z,Z,Y,Y,Y,Z,Z,Z,Z,Z,Z,Z,Z,Z,Z,Z,Z,Z,Z,Z,Z,Z,Z,Z] rfl rfl (take_ofW HT_.out HW_.out (by kernel_rfl)) (fun _ _ _ h => h) (Or.inl ⟨by rfl, ?_⟩) hHeld ?_ ?_
        rotate_left
        ·rintro w' ⟨s0, s1, s2, s3, s4, s5, s6, s7, s8⟩
         go_simp
         with_reducible rfl
        rotate_left
        ·simp only [Act.put, sl0, sl1, sl2, i64_w, i32_w]
         rfl
        refine take_ (i := 32) (N := some 108) (v := ?_) (a' := ?_) #[Y,Y,Y,Y,Y,Y,Y,Y,Y,Y,Y,Y,Y,Y,Y,Y,Y,Y,Y,Y,Y,Y,Y,Y,Y,Y,Y,Y,Y,Y,Y,Y,Y,Z,Y,Y,Y,Z,Z,Z,Z,Z,Z,Z,Z,Z,Z,Z,Z,Z,Z,Z,Z,Z,Z,Z] rfl rfl (take_ofW HT_.out HW_.out (by kernel_rfl)) (fun _ _ _ h => h) (Or.inl ⟨by rfl, ?_⟩) hHeld ?_ ?_
        rotate_left
        ·rintro w' ⟨s0, s1, s2, s3, s4, s5, s6, s7, s8⟩
         go_simp
         with_reducible rfl
        rotate_left
        ·simp only [Act.put, sl0, sl1, sl2, i64_w, i32_w]
         rfl
        refine pure_ (i := 33) (N := some 109) (v := ?_) (a' := ?_) (fl_ 37 19) rfl rfl (any_of HT_.out (by kernel_rfl)) (fun _ _ _ h => h) (Or.inl ⟨by rfl, ?_⟩) ?_ ?_
        rotate_left
        ·intro w'
         go_simp
         with_reducible rfl
        rotate_left
        ·simp only [Act.put, sl0, sl1, sl2, i64_w, i32_w]
         rfl
        refine take_ (i := 37) (N := some 113) (v := ?_) (a' := ?_) (fl_ 38 18) rfl rfl (take_ofW HT_.out HW_.out (by kernel_rfl)) (fun _ _ _ h => h) (Or.inl ⟨by rfl, ?_⟩) hHeld ?_ ?_
        rotate_left
        ·rintro w' ⟨s0, s1, s2, s3, s4, s5, s6, s7, s8⟩
         go_simp
         with_reducible rfl
        rotate_left
        ·simp only [Act.put, sl0, sl1, sl2, i64_w, i32_w]
         rfl
        refine pure_ (i := 38) (N := some 114) (v := ?_) (a' := ?_) (fl_ 39 17) rfl rfl (any_of HT_.out (by kernel_rfl)) (fun _ _ _ h => h) (Or.inl ⟨by rfl, ?_⟩) ?_ ?_
        rotate_left
        ·intro w'
         go_simp
         with_reducible rfl
        rotate_left
        ·simp only [Act.put, sl0, sl1, sl2, i64_w, i32_w]
         rfl
        refine pure_ (i := 39) (N := some 115) (v := ?_) (a' := ?_) (fl_ 40 16) rfl rfl (any_of HT_.out (by kernel_rfl)) (fun _ _ _ h => h) (Or.inl ⟨by rfl, ?_⟩) ?_ ?_
        rotate_left
        ·intro w'
         go_simp
         with_reducible rfl
        rotate_left
        ·simp only [Act.put, sl0, sl1, sl2, i64_w, i32_w]
         rfl
        refine pure_ (i := 40) (N := some 116) (v := ?_) (a' := ?_) (fl_ 41 15) rfl rfl (any_of HT_.out (by kernel_rfl)) (fun _ _ _ h => h) (Or.inl ⟨by rfl, ?_⟩) ?_ ?_
        rotate_left
        ·intro w'
         go_simp
         with_reducible rfl
        rotate_left
        ·simp only [Act.put, sl0, sl1, sl2, i64_w, i32_w]
         rfl
        refine pure_ (i := 41) (N := some 117) (v := ?_) (a' := ?_) (fl_ 42 14) rfl rfl (any_of HT_.out (by kernel_rfl)) (fun _ _ _ h => h) (Or.inl ⟨by rfl, ?_⟩) ?_ ?_
        rotate_left
        ·intro w'
         go_simp
         with_reducible rfl
        rotate_left
        ·simp only [Act.put, sl0, sl1, sl2, i64_w, i32_w]
         rfl
        refine pure_ (i := 42) (N := some 118) (v := ?_) (a' := ?_) (fl_ 43 13) rfl rfl (any_of HT_.out (by kernel_rfl)) (fun _ _ _ h => h) (Or.inl ⟨by rfl, ?_⟩) ?_ ?_
        rotate_left
        ·intro w'
         go_simp
         with_reducible rfl
        rotate_left
        ·simp only [Act.put, sl0, sl1, sl2, i64_w, i32_w]
         rfl
        refine pure_ (i := 43) (N := some 119) (v := ?_) (a' := ?_) (fl_ 44 12) rfl rfl (any_of HT_.out (by kernel_rfl)) (fun _ _ _ h => h) (Or.inl ⟨by rfl, ?_⟩) ?_ ?_
        rotate_left
        ·intro w'
         go_simp
         with_reducible rfl
        rotate_left
        ·simp only [Act.put, sl0, sl1, sl2, i64_w, i32_w]
         rfl
        refine pure_ (i := 44) (N := some 120) (v := ?_) (a' := ?_) (fl_ 45 11) rfl rfl (any_of HT_.out (by kernel_rfl)) (fun _ _ _ h => h) (Or.inl ⟨by rfl, ?_⟩) ?_ ?_
        rotate_left
        ·intro w'
         go_simp
         with_reducible rfl
        rotate_left
        ·simp only [Act.put, sl0, sl1, sl2, i64_w, i32_w]
         rfl
        refine pure_ (i := 45) (N := some 121) (v := ?_) (a' := ?_) (fl_ 46 10) rfl rfl (any_of HT_.out (by kernel_rfl)) (fun _ _ _ h => h) (Or.inl ⟨by rfl, ?_⟩) ?_ ?_
        rotate_left
        ·intro w'
         go_simp
         with_reducible rfl
        rotate_left
        ·simp only [Act.put, sl0, sl1, sl2, i64_w, i32_w]
         rfl
        refine pure_ (i := 46) (N := some 122) (v := ?_) (a' := ?_) (fl_ 47 9) rfl rfl (any_of HT_.out (by kernel_rfl)) (fun _ _ _ h => h) (Or.inl ⟨by rfl, ?_⟩) ?_ ?_
        rotate_left
        ·intro w'
         go_simp
         with_reducible rfl
        rotate_left
        ·simp only [Act.put, sl0, sl1, sl2, i64_w, i32_w]
         rfl
        refine pure_ (i := 47) (N := some 123) (v := ?_) (a' := ?_) (fl_ 48 8) rfl rfl (any_of HT_.out (by kernel_rfl)) (fun _ _ _ h => h) (Or.inl ⟨by rfl, ?_⟩) ?_ ?_
        rotate_left
        ·intro w'
         go_simp
         with_reducible rfl
        rotate_left
        ·simp only [Act.put, sl0, sl1, sl2, i64_w, i32_w]
         rfl
        refine pure_ (i := 49) (N := some 125) (v := ?_) (a' := ?_) #[Y,Y,Y,Y,Y,Y,Y,Y,Y,Y,Y,Y,Y,Y,Y,Y,Y,Y,Y,Y,Y,Y,Y,Y,Y,Y,Y,Y,Y,Y,Y,Y,Y,Y,Y,Y,Y,Y,Y,Y,Y,Y,Y,Y,Y,Y,Y,Y,Z,Y,Z,Z,Z,Z,Z,Z] rfl rfl (any_of HT_.out (by kernel_rfl)) (fun _ _ _ h => h) (Or.inl ⟨by rfl, ?_⟩) ?_ ?_
        rotate_left
        ·intro w'
         go_simp
         with_reducible rfl
        rotate_left
        ·simp only [Act.put, sl0, sl1, sl2, i64_w, i32_w]
         rfl
        refine pure_ (i := 50) (N := some 126) (v := ?_) (a' := ?_) #[Y,Y,Y,Y,Y,Y,Y,Y,Y,Y,Y,Y,Y,Y,Y,Y,Y,Y,Y,Y,Y,Y,Y,Y,Y,Y,Y,Y,Y,Y,Y,Y,Y,Y,Y,Y,Y,Y,Y,Y,Y,Y,Y,Y,Y,Y,Y,Y,Z,Y,Y,Z,Z,Z,Z,Z] rfl rfl (any_of HT_.out (by kernel_rfl)) (fun _ _ _ h => h) (Or.inl ⟨by rfl, ?_⟩) ?_ ?_
        rotate_left
        ·intro w'
         go_simp
         with_reducible rfl
        rotate_left
        ·simp only [Act.put, sl0, sl1, sl2, i64_w, i32_w]
         rfl
        refine pure_ (i := 51) (N := some 127) (v := ?_) (a' := ?_) #[Y,Y,Y,Y,Y,Y,Y,Y,Y,Y,Y,Y,Y,Y,Y,Y,Y,Y,Y,Y,Y,Y,Y,Y,Y,Y,Y,Y,Y,Y,Y,Y,Y,Y,Y,Y,Y,Y,Y,Y,Y,Y,Y,Y,Y,Y,Y,Y,Z,Y,Y,Y,Z,Z,Z,Z] rfl rfl (any_of HT_.out (by kernel_rfl)) (fun _ _ _ h => h) (Or.inl ⟨by rfl, ?_⟩) ?_ ?_
        rotate_left
        ·intro w'
         go_simp
         with_reducible rfl
        rotate_left
        ·simp only [Act.put, sl0, sl1, sl2, i64_w, i32_w]
         rfl
        refine take_ (i := 48) (N := some 124) (v := ?_) (a' := ?_) (fl_ 52 4) rfl rfl (take_ofW HT_.out HW_.out (by kernel_rfl)) (fun _ _ _ h => h) (Or.inl ⟨by rfl, ?_⟩) hHeld ?_ ?_
        rotate_left
        ·rintro w' ⟨s0, s1, s2, s3, s4, s5, s6, s7, s8⟩
         go_simp
         with_reducible rfl
        rotate_left
        ·simp only [Act.put, sl0, sl1, sl2, i64_w, i32_w]
         rfl
        refine take_ (i := 52) (N := some 128) (v := ?_) (a' := ?_) (fl_ 53 3) rfl rfl (take_ofW HT_.out HW_.out (by kernel_rfl)) (fun _ _ _ h => h) (Or.inl ⟨by rfl, ?_⟩) hHeld ?_ ?_
        rotate_left
        ·rintro w' ⟨s0, s1, s2, s3, s4, s5, s6, s7, s8⟩
         go_simp
         with_reducible rfl
        rotate_left
        ·simp only [Act.put, sl0, sl1, sl2, i64_w, i32_w]
         rfl
        refine pure_ (i := 53) (N := some 129) (v := ?_) (a' := ?_) (fl_ 54 2) rfl rfl (any_of HT_.out (by kernel_rfl)) (fun _ _ _ h => h) (Or.inl ⟨by rfl, ?_⟩) ?_ ?_
        rotate_left
        ·intro w'
         go_simp
         with_reducible rfl
        rotate_left
        ·simp only [Act.put, sl0, sl1, sl2, i64_w, i32_w]
         rfl
        refine pure_ (i := 54) (N := some 130) (v := ?_) (a' := ?_) (fl_ 55 1) rfl rfl (any_of HT_.out (by kernel_rfl)) (fun _ _ _ h => h) (Or.inl ⟨by rfl, ?_⟩) ?_ ?_
        rotate_left
        ·intro w'
         go_simp
         with_reducible rfl
        rotate_left
        ·simp only [Act.put, sl0, sl1, sl2, i64_w, i32_w]
         rfl
        refine pure_ (i := 55) (N := some 131) (v := ?_) (a' := ?_) (fl_ 56 0) rfl rfl (any_of HT_.out (by kernel_rfl)) (fun _ _ _ h => h) (Or.inl ⟨by rfl, ?_⟩) ?_ ?_
        rotate_left
        ·intro w'
         go_simp
         with_reducible rfl
        rotate_left
        ·simp only [Act.put, sl0, sl1, sl2, i64_w, i32_w]
         rfl
        refine done_ (done_of HT_.out (by kernel_rfl)) ?_
        try go_wp2
        go_roundg k3
        case measure => have := HK1.out; have := HJ17.out; have := HK3.out; omega
        case rel => exact ⟨(wrap64 (x8_3 + 1)), (by first | rfl | (simp; done) | (simp [*]; done)), H', ⟨by have := HK1.out; have := HJ17.out; have := HK3.out; omega⟩, ⟨by (with_reducible repeat (first | apply Kd.R_alloc | apply Kd.R_drewN | apply Kd.R_drew)); exact HO_4.out⟩, ⟨by (with_reducible repeat (first | apply Kd.R_alloc | apply Kd.R_drewN | apply Kd.R_drew)); exact HO_5.out⟩, ⟨by (with_reducible repeat (first | apply Kd.R_alloc | apply Kd.R_drewN | apply Kd.R_drew)); exact HO_7.out⟩, ⟨by repeat (first | (with_reducible first | exact HB.out | apply below_alloc | apply pw_below_drewN | apply below_drew1) | exact HB.out)⟩⟩
       rw [if_neg c33] at H
       have c33b0 : decide (x8_3 < (t138.length : Int)) = false := decide_eq_false c33
       clear c33
       by_cases c61 : 0 ≤ x6_1
       rotate_left
       ·rw [if_neg c61] at H
        exact absurd H (by simp)
       rw [if_pos c61] at H
       have c61b0 : decide (0 ≤ x6_1) = true := decide_eq_true c61
       clear c61
       by_cases c62 : x6_1 < (t127.length : Int)
       rotate_left
       ·rw [if_neg c62] at H
        exact absurd H (by simp)
       rw [if_pos c62] at H
       have c62b0 : decide (x6_1 < (t127.length : Int)) = true := decide_eq_true c62
       clear c62
       by_cases c63 : 0 ≤ (rd t127 x6_1)
       rotate_left
       ·rw [if_neg c63] at H
        exact absurd H (by simp)
       rw [if_pos c63] at H
       have c63b0 : decide (0 ≤ (rd t127 x6_1)) = true := decide_eq_true c63
       clear c63
       by_cases c64 : (rd t127 x6_1) < (x5_1.length : Int)
       rotate_left
       ·rw [if_neg c64] at H
        exact absurd H (by simp)
       rw [if_pos c64] at H
       have c64b0 : decide ((rd t127 x6_1) < (x5_1.length : Int)) = true := decide_eq_true c64
       clear c64
       obtain ⟨y153, hy153⟩ : ∃ y_ : List Bool, y_ = (x5_1.set ((rd t127 x6_1) : Int).toNat true) := ⟨_, rfl⟩
       replace H : (if x6_1 > 0 then ((lattice_Level.f (rd t127 x6_1)).bind fun t155 => (if 0 ≤ (wrap64 (x6_1 - 1)) then (if (wrap64 (x6_1 - 1)) < (t127.length : Int) then ((lattice_Level.f (rd t127 (wrap64 (x6_1 - 1)))).bind fun t157 => (if t155 > t157 then (some false) else ((lattice_Level.f (rd t127 x6_1)).bind fun t159 => ((lattice_Level.f (rd t127 (wrap64 (x6_1 - 1)))).bind fun t161 => (if t159 = t161 then (if (rd t127 x6_1) ≤ (rd t127 (wrap64 (x6_1 - 1))) then (some false) else (hypercubelaw8_LatticeSets.l0 k3 (wrap64 (1 + t126)) t127 y153 (wrap64 (x6_1 + 1)))) else (hypercubelaw8_LatticeSets.l0 k3 (wrap64 (1 + t126)) t127 y153 (wrap64 (x6_1 + 1)))))))) else (none)) else (none))) else (hypercubelaw8_LatticeSets.l0 k3 (wrap64 (1 + t126)) t127 y153 (wrap64 (x6_1 + 1)))) = some r := by first | (rw [hy153]; with_reducible exact H) | (have H2_ := (Option.bind_some _ _).symm.trans H; rw [hy153]; with_reducible exact H2_) | (have H2_ := (Option.bind_some _ _).symm.trans H; with_reducible exact H2_) | with_reducible exact H | (rw [hy153]; exact H) | exact H
       have Ny153 := Aside0.mk hy153
       clear hy153
       by_cases c66 : x6_1 > 0
       rotate_left
       ·rw [if_neg c66] at H
        have c66b0 : decide (0 < x6_1) = false := decide_eq_false c66
        clear c66
        have H' := Aside0.mk H
        clear H
        have p152 : 0 ≤ (x6_1 : Int) := od_
        have q152 : x6_1 < (t127.length : Int) := od_
        obtain ⟨ad152, e152, hx152_0⟩ := Kd.at_int (Kd.R_reads' HO_4.out).2.2 x6_1 p152 q152
        obtain rfl : ad137 = ad152 := (by injection e152)
        replace p152 := eq_true p152
        replace q152 := eq_true q152
        have p65 : 0 ≤ ((rd t127 x6_1) : Int) := od_
        have q65 : ((rd t127 x6_1) : Int) < ((x5_1.length : Int) : Int) := od_
        obtain ⟨go65, co65, eo65, gb65, gl65, cl65, HG65⟩ := Kd.R_form HO_5.out (by omega)
        (first | cases eo65 | (injection eo65 with ea_ en_ ec_; (first | subst ea_ | (injection ea_ with ea_; subst ea_)); subst ec_; clear en_))
        have GB65 := Aside0.mk gb65
        have GG65 := Aside0.mk HG65
        clear gb65 gl65 HG65
        obtain ⟨hx65_0, hf65_0⟩ := Kd.R_celln false HO_5.out ((rd t127 x6_1) : Int) p65 q65
        replace p65 := eq_true p65
        replace q65 := eq_true q65
        have HP89 := Kd.R_putg HO_5.out ((rd t127 x6_1) : Int) true
        try go_wp2_with (first | ((with_reducible refine gate_store (t := 4) (p := 137) rfl ?_); refine store_event (t := 4) (p := 137) (v := ?vo_w90) (w1 := (wr.setCell ⟨go65, ((rd t127 x6_1) : Int).toNat, none⟩ (.bool true))) ?hg ?ho ?hn ?hr ?_; (case ho => rfl); (case hg => rfl); (case hn => rfl); (case hr => first | (go_simp; done) | (go_simp; rfl)); intro w90 hw; have hg : wr.grownBy w90 (some go65) := (by rw [hw]; exact HP89.2); have hp_ : Kd.R Kd.bool 4 w90 w.heap.size (fun _ => True) (.slice (some ⟨go65, 0, none⟩) x5_1.length co65) y153 := (by rw [hw, Ny153.out]; exact HP89.1); clear HP89; have n0_ := Aside0.mk (Kd.R_over' (v := (.slice (some ⟨go65, 0, none⟩) x5_1.length co65)) (by (with_reducible repeat (first | apply Kd.R_alloc | apply Kd.R_drewN | apply Kd.R_drew)); exact HO_4.out) (Kd.R_typed HO_5.out) (by decide) hg); have n1_ := Aside0.mk (hp_); have n2_ := Aside0.mk (Kd.R_over' (v := (.slice (some ⟨go65, 0, none⟩) x5_1.length co65)) (by (with_reducible repeat (first | apply Kd.R_alloc | apply Kd.R_drewN | apply Kd.R_drew)); exact HO_7.out) (Kd.R_typed HO_5.out) (by decide) hg); have n3_ := Aside0.mk ((by rw [hw]; exact below_set (HB.out) GB65.out : Below w.heap.size w w90)); clear HO_4; clear HO_5; clear HO_7; clear HB; have HO_4 := n0_; have HO_5 := n1_; have HO_7 := n2_; have HB := n3_; clear n0_ n1_ n2_ n3_; clear hg hw hp_))
        have n0_ := Aside0.mk (Kd.R_drew HO_4.out)
        have n1_ := Aside0.mk (Kd.R_drew HO_5.out)
        have n2_ := Aside0.mk (Kd.R_drew HO_7.out)
        have n3_ := Aside0.mk (below_drew1 HB.out)
        clear HO_4
        clear HO_5
        clear HO_7
        clear HB
        have HO_4 := n0_
        have HO_5 := n1_
        have HO_7 := n2_
        have HB := n3_
        clear n0_ n1_ n2_ n3_
        refine start_ (n := 42) (S := fun w' => True) (ds := []) (fl_ 0 42) (by kernel_rfl) rfl rfl trivial (fun hHeld => ?_); refine with_tabW hypercubelaw8_LatticeSets.tab22 hypercubelaw8_LatticeSets.bits22 (fun HT_ HW_ => ?_)
        generalize w90.drew = w91 at HO_4 HO_5 HO_7 HB hHeld ⊢
        refine pure_ (i := 0) (N := some 138) (v := ?_) (a' := ?_) (fl_ 1 41) rfl rfl (any_of HT_.out (by kernel_rfl)) (fun _ _ _ h => h) (Or.inl ⟨by rfl, ?_⟩) ?_ ?_
        rotate_left
        ·intro w'
         go_simp
         with_reducible rfl
        rotate_left
        ·simp only [Act.put, sl0, sl1, sl2, i64_w, i32_w]
         rfl
        refine pure_ (i := 1) (N := some 139) (v := ?_) (a' := ?_) (fl_ 2 40) rfl rfl (any_of HT_.out (by kernel_rfl)) (fun _ _ _ h => h) (Or.inl ⟨by rfl, ?_⟩) ?_ ?_
        rotate_left
        ·intro w'
         go_simp
         with_reducible rfl
        rotate_left
        ·simp only [Act.put, sl0, sl1, sl2, i64_w, i32_w]
         rfl
        refine pure_ (i := 2) (N := some 140) (v := ?_) (a' := ?_) (fl_ 3 39) rfl rfl (any_of HT_.out (by kernel_rfl)) (fun _ _ _ h => h) (Or.inl ⟨by rfl, ?_⟩) ?_ ?_
        rotate_left
        ·intro w'
         go_simp
         with_reducible rfl
        rotate_left
        ·simp only [Act.put, sl0, sl1, sl2, i64_w, i32_w]
         rfl
        refine pure_ (i := 3) (N := some 141) (v := undef) (a' := ?_) (fl_ 4 38) rfl rfl (any_of HT_.out (by kernel_rfl)) (fun _ _ _ h => h) (Or.inr ⟨by rfl, rfl⟩) ?_ ?_
        rotate_left
        ·simp only [Act.put, sl0, sl1, sl2, i64_w, i32_w]
         rfl
        refine pure_ (i := 4) (N := some 142) (v := undef) (a' := ?_) (fl_ 5 37) rfl rfl (any_of HT_.out (by kernel_rfl)) (fun _ _ _ h => h) (Or.inr ⟨by rfl, rfl⟩) ?_ ?_
        rotate_left
        ·simp only [Act.put, sl0, sl1, sl2, i64_w, i32_w]
         rfl
        refine pure_ (i := 5) (N := some 143) (v := undef) (a' := ?_) (fl_ 6 36) rfl rfl (any_of HT_.out (by kernel_rfl)) (fun _ _ _ h => h) (Or.inr ⟨by rfl, rfl⟩) ?_ ?_
        rotate_left
        ·simp only [Act.put, sl0, sl1, sl2, i64_w, i32_w]
         rfl
        refine pure_ (i := 6) (N := some 144) (v := undef) (a' := ?_) (fl_ 7 35) rfl rfl (any_of HT_.out (by kernel_rfl)) (fun _ _ _ h => h) (Or.inr ⟨by rfl, rfl⟩) ?_ ?_
        rotate_left
        ·simp only [Act.put, sl0, sl1, sl2, i64_w, i32_w]
         rfl
        refine pure_ (i := 7) (N := some 145) (v := undef) (a' := ?_) (fl_ 8 34) rfl rfl (any_of HT_.out (by kernel_rfl)) (fun _ _ _ h => h) (Or.inr ⟨by rfl, rfl⟩) ?_ ?_
        rotate_left
        ·simp only [Act.put, sl0, sl1, sl2, i64_w, i32_w]
         rfl
        refine pure_ (i := 8) (N := some 146) (v := undef) (a' := ?_) (fl_ 9 33) rfl rfl (any_of HT_.out (by kernel_rfl)) (fun _ _ _ h => h) (Or.inr ⟨by rfl, rfl⟩) ?_ ?_
        rotate_left
        ·simp only [Act.put, sl0, sl1, sl2, i64_w, i32_w]
         rfl
        refine pure_ (i := 9) (N := some 147) (v := undef) (a' := ?_) (fl_ 10 32) rfl rfl (any_of HT_.out (by kernel_rfl)) (fun _ _ _ h => h) (Or.inr ⟨by rfl, rfl⟩) ?_ ?_
        rotate_left
        ·simp only [Act.put, sl0, sl1, sl2, i64_w, i32_w]
         rfl
        refine pure_ (i := 10) (N := some 148) (v := undef) (a' := ?_) (fl_ 11 31) rfl rfl (any_of HT_.out (by kernel_rfl)) (fun _ _ _ h => h) (Or.inr ⟨by rfl, rfl⟩) ?_ ?_
        rotate_left
        ·simp only [Act.put, sl0, sl1, sl2, i64_w, i32_w]
         rfl
        refine pure_ (i := 11) (N := some 149) (v := undef) (a' := ?_) (fl_ 12 30) rfl rfl (any_of HT_.out (by kernel_rfl)) (fun _ _ _ h => h) (Or.inr ⟨by rfl, rfl⟩) ?_ ?_
        rotate_left
        ·simp only [Act.put, sl0, sl1, sl2, i64_w, i32_w]
         rfl
        refine pure_ (i := 12) (N := some 150) (v := undef) (a' := ?_) (fl_ 13 29) rfl rfl (any_of HT_.out (by kernel_rfl)) (fun _ _ _ h => h) (Or.inr ⟨by rfl, rfl⟩) ?_ ?_
        rotate_left
        ·simp only [Act.put, sl0, sl1, sl2, i64_w, i32_w]
         rfl
        refine pure_ (i := 13) (N := some 151) (v := undef) (a' := ?_) (fl_ 14 28) rfl rfl (any_of HT_.out (by kernel_rfl)) (fun _ _ _ h => h) (Or.inr ⟨by rfl, rfl⟩) ?_ ?_
        rotate_left
        ·simp only [Act.put, sl0, sl1, sl2, i64_w, i32_w]
         rfl
        refine pure_ (i := 14) (N := some 152) (v := undef) (a' := ?_) (fl_ 15 27) rfl rfl (any_of HT_.out (by kernel_rfl)) (fun _ _ _ h => h) (Or.inr ⟨by rfl, rfl⟩) ?_ ?_
        rotate_left
        ·simp only [Act.put, sl0, sl1, sl2, i64_w, i32_w]
         rfl
        refine pure_ (i := 15) (N := some 153) (v := undef) (a' := ?_) (fl_ 16 26) rfl rfl (any_of HT_.out (by kernel_rfl)) (fun _ _ _ h => h) (Or.inr ⟨by rfl, rfl⟩) ?_ ?_
        rotate_left
        ·simp only [Act.put, sl0, sl1, sl2, i64_w, i32_w]
         rfl
        refine pure_ (i := 16) (N := some 154) (v := undef) (a' := ?_) (fl_ 17 25) rfl rfl (any_of HT_.out (by kernel_rfl)) (fun _ _ _ h => h) (Or.inr ⟨by rfl, rfl⟩) ?_ ?_
        rotate_left
        ·simp only [Act.put, sl0, sl1, sl2, i64_w, i32_w]
         rfl
        refine pure_ (i := 17) (N := some 155) (v := undef) (a' := ?_) (fl_ 18 24) rfl rfl (any_of HT_.out (by kernel_rfl)) (fun _ _ _ h => h) (Or.inr ⟨by rfl, rfl⟩) ?_ ?_
        rotate_left
        ·simp only [Act.put, sl0, sl1, sl2, i64_w, i32_w]
         rfl
        refine pure_ (i := 18) (N := some 156) (v := undef) (a' := ?_) (fl_ 19 23) rfl rfl (any_of HT_.out (by kernel_rfl)) (fun _ _ _ h => h) (Or.inr ⟨by rfl, rfl⟩) ?_ ?_
        rotate_left
        ·simp only [Act.put, sl0, sl1, sl2, i64_w, i32_w]
         rfl
        refine pure_ (i := 19) (N := some 157) (v := undef) (a' := ?_) (fl_ 20 22) rfl rfl (any_of HT_.out (by kernel_rfl)) (fun _ _ _ h => h) (Or.inr ⟨by rfl, rfl⟩) ?_ ?_
        rotate_left
        ·simp only [Act.put, sl0, sl1, sl2, i64_w, i32_w]
         rfl
        refine pure_ (i := 20) (N := some 158) (v := undef) (a' := ?_) (fl_ 21 21) rfl rfl (any_of HT_.out (by kernel_rfl)) (fun _ _ _ h => h) (Or.inr ⟨by rfl, rfl⟩) ?_ ?_
        rotate_left
        ·simp only [Act.put, sl0, sl1, sl2, i64_w, i32_w]
         rfl
        refine pure_ (i := 21) (N := some 159) (v := undef) (a' := ?_) (fl_ 22 20) rfl rfl (any_of HT_.out (by kernel_rfl)) (fun _ _ _ h => h) (Or.inr ⟨by rfl, rfl⟩) ?_ ?_
        rotate_left
        ·simp only [Act.put, sl0, sl1, sl2, i64_w, i32_w]
         rfl
        refine pure_ (i := 22) (N := some 160) (v := undef) (a' := ?_) (fl_ 23 19) rfl rfl (any_of HT_.out (by kernel_rfl)) (fun _ _ _ h => h) (Or.inr ⟨by rfl, rfl⟩) ?_ ?_
        rotate_left
        ·simp only [Act.put, sl0, sl1, sl2, i64_w, i32_w]
         rfl
        refine pure_ (i := 23) (N := some 161) (v := undef) (a' := ?_) (fl_ 24 18) rfl rfl (any_of HT_.out (by kernel_rfl)) (fun _ _ _ h => h) (Or.inr ⟨by rfl, rfl⟩) ?_ ?_
        rotate_left
        ·simp only [Act.put, sl0, sl1, sl2, i64_w, i32_w]
         rfl
        refine pure_ (i := 24) (N := some 162) (v := undef) (a' := ?_) (fl_ 25 17) rfl rfl (any_of HT_.out (by kernel_rfl)) (fun _ _ _ h => h) (Or.inr ⟨by rfl, rfl⟩) ?_ ?_
        rotate_left
        ·simp only [Act.put, sl0, sl1, sl2, i64_w, i32_w]
         rfl
        refine pure_ (i := 25) (N := some 163) (v := undef) (a' := ?_) (fl_ 26 16) rfl rfl (any_of HT_.out (by kernel_rfl)) (fun _ _ _ h => h) (Or.inr ⟨by rfl, rfl⟩) ?_ ?_
        rotate_left
        ·simp only [Act.put, sl0, sl1, sl2, i64_w, i32_w]
         rfl
        refine pure_ (i := 26) (N := some 164) (v := undef) (a' := ?_) (fl_ 27 15) rfl rfl (any_of HT_.out (by kernel_rfl)) (fun _ _ _ h => h) (Or.inr ⟨by rfl, rfl⟩) ?_ ?_
        rotate_left
        ·simp only [Act.put, sl0, sl1, sl2, i64_w, i32_w]
         rfl
        refine pure_ (i := 27) (N := some 165) (v := undef) (a' := ?_) (fl_ 28 14) rfl rfl (any_of HT_.out (by kernel_rfl)) (fun _ _ _ h => h) (Or.inr ⟨by rfl, rfl⟩) ?_ ?_
        rotate_left
        ·simp only [Act.put, sl0, sl1, sl2, i64_w, i32_w]
         rfl
        refine pure_ (i := 28) (N := some 166) (v := undef) (a' := ?_) (fl_ 29 13) rfl rfl (any_of HT_.out (by kernel_rfl)) (fun _ _ _ h => h) (Or.inr ⟨by rfl, rfl⟩) ?_ ?_
        rotate_left
        ·simp only [Act.put, sl0, sl1, sl2, i64_w, i32_w]
         rfl
        refine pure_ (i := 29) (N := some 167) (v := undef) (a' := ?_) (fl_ 30 12) rfl rfl (any_of HT_.out (by kernel_rfl)) (fun _ _ _ h => h) (Or.inr ⟨by rfl, rfl⟩) ?_ ?_
        rotate_left
        ·simp only [Act.put, sl0, sl1, sl2, i64_w, i32_w]
         rfl
        refine pure_ (i := 30) (N := some 168) (v := undef) (a' := ?_) (fl_ 31 11) rfl rfl (any_of HT_.out (by kernel_rfl)) (fun _ _ _ h => h) (Or.inr ⟨by rfl, rfl⟩) ?_ ?_
        rotate_left
        ·simp only [Act.put, sl0, sl1, sl2, i64_w, i32_w]
         rfl
        refine pure_ (i := 31) (N := some 169) (v := undef) (a' := ?_) (fl_ 32 10) rfl rfl (any_of HT_.out (by kernel_rfl)) (fun _ _ _ h => h) (Or.inr ⟨by rfl, rfl⟩) ?_ ?_
        rotate_left
        ·simp only [Act.put, sl0, sl1, sl2, i64_w, i32_w]
         rfl
        refine pure_ (i := 32) (N := some 170) (v := undef) (a' := ?_) (fl_ 33 9) rfl rfl (any_of HT_.out (by kernel_rfl)) (fun _ _ _ h => h) (Or.inr ⟨by rfl, rfl⟩) ?_ ?_
        rotate_left
        ·simp only [Act.put, sl0, sl1, sl2, i64_w, i32_w]
         rfl
        refine pure_ (i := 33) (N := some 171) (v := undef) (a' := ?_) (fl_ 34 8) rfl rfl (any_of HT_.out (by kernel_rfl)) (fun _ _ _ h => h) (Or.inr ⟨by rfl, rfl⟩) ?_ ?_
        rotate_left
        ·simp only [Act.put, sl0, sl1, sl2, i64_w, i32_w]
         rfl
        refine pure_ (i := 34) (N := some 172) (v := undef) (a' := ?_) (fl_ 35 7) rfl rfl (any_of HT_.out (by kernel_rfl)) (fun _ _ _ h => h) (Or.inr ⟨by rfl, rfl⟩) ?_ ?_
        rotate_left
        ·simp only [Act.put, sl0, sl1, sl2, i64_w, i32_w]
         rfl
        refine pure_ (i := 35) (N := some 173) (v := undef) (a' := ?_) (fl_ 36 6) rfl rfl (any_of HT_.out (by kernel_rfl)) (fun _ _ _ h => h) (Or.inr ⟨by rfl, rfl⟩) ?_ ?_
        rotate_left
        ·simp only [Act.put, sl0, sl1, sl2, i64_w, i32_w]
         rfl
        refine pure_ (i := 36) (N := some 174) (v := undef) (a' := ?_) (fl_ 37 5) rfl rfl (any_of HT_.out (by kernel_rfl)) (fun _ _ _ h => h) (Or.inr ⟨by rfl, rfl⟩) ?_ ?_
        rotate_left
        ·simp only [Act.put, sl0, sl1, sl2, i64_w, i32_w]
         rfl
        refine pure_ (i := 37) (N := some 175) (v := undef) (a' := ?_) (fl_ 38 4) rfl rfl (any_of HT_.out (by kernel_rfl)) (fun _ _ _ h => h) (Or.inr ⟨by rfl, rfl⟩) ?_ ?_
        rotate_left
        ·simp only [Act.put, sl0, sl1, sl2, i64_w, i32_w]
         rfl
        refine pure_ (i := 38) (N := some 176) (v := undef) (a' := ?_) (fl_ 39 3) rfl rfl (any_of HT_.out (by kernel_rfl)) (fun _ _ _ h => h) (Or.inr ⟨by rfl, rfl⟩) ?_ ?_
        rotate_left
        ·simp only [Act.put, sl0, sl1, sl2, i64_w, i32_w]
         rfl
        refine pure_ (i := 39) (N := some 177) (v := undef) (a' := ?_) (fl_ 40 2) rfl rfl (any_of HT_.out (by kernel_rfl)) (fun _ _ _ h => h) (Or.inr ⟨by rfl, rfl⟩) ?_ ?_
        rotate_left
        ·simp only [Act.put, sl0, sl1, sl2, i64_w, i32_w]
         rfl
        refine pure_ (i := 40) (N := some 178) (v := undef) (a' := ?_) (fl_ 41 1) rfl rfl (any_of HT_.out (by kernel_rfl)) (fun _ _ _ h => h) (Or.inr ⟨by rfl, rfl⟩) ?_ ?_
        rotate_left
        ·simp only [Act.put, sl0, sl1, sl2, i64_w, i32_w]
         rfl
        refine pure_ (i := 41) (N := some 179) (v := ?_) (a' := ?_) (fl_ 42 0) rfl rfl (any_of HT_.out (by kernel_rfl)) (fun _ _ _ h => h) (Or.inl ⟨by rfl, ?_⟩) ?_ ?_
        rotate_left
        ·intro w'
         go_simp
         with_reducible rfl
        rotate_left
        ·simp only [Act.put, sl0, sl1, sl2, i64_w, i32_w]
         rfl
        refine done_ (done_of HT_.out (by kernel_rfl)) ?_
        try go_wp2
        go_roundg k3
        case measure => have := HK1.out; have := HJ17.out; have := HK3.out; omega
        case rel => exact ⟨(y153), (wrap64 (x6_1 + 1)), (by first | rfl | (simp; done) | (simp [*]; done)), H', ⟨by have := HK1.out; have := HJ17.out; have := HK3.out; omega⟩, ⟨by (with_reducible repeat (first | apply Kd.R_alloc | apply Kd.R_drewN | apply Kd.R_drew)); exact Kd.R_mono HO_4.out (fun _ hk => trivial)⟩, ⟨by (with_reducible repeat (first | apply Kd.R_alloc | apply Kd.R_drewN | apply Kd.R_drew)); exact HO_5.out⟩, ⟨by repeat (first | (with_reducible first | exact HB.out | apply below_alloc | apply pw_below_drewN | apply below_drew1) | exact HB.out)⟩⟩
       rw [if_pos c66] at H
       have c66b0 : decide (0 < x6_1) = true := decide_eq_true c66
       clear c66
       replace H := Option.bind_eq_some_iff.mp H
       obtain ⟨t155, A670, H⟩ := H
       replace H : (if 0 ≤ (wrap64 (x6_1 - 1)) then (if (wrap64 (x6_1 - 1)) < (t127.length : Int) then ((lattice_Level.f (rd t127 (wrap64 (x6_1 - 1)))).bind fun t157 => (if t155 > t157 then (some false) else ((lattice_Level.f (rd t127 x6_1)).bind fun t159 => ((lattice_Level.f (rd t127 (wrap64 (x6_1 - 1)))).bind fun t161 => (if t159 = t161 then (if (rd t127 x6_1) ≤ (rd t127 (wrap64 (x6_1 - 1))) then (some false) else (hypercubelaw8_LatticeSets.l0 k3 (wrap64 (1 + t126)) t127 y153 (wrap64 (x6_1 + 1)))) else (hypercubelaw8_LatticeSets.l0 k3 (wrap64 (1 + t126)) t127 y153 (wrap64 (x6_1 + 1)))))))) else (none)) else (none)) = some r := H
       have A67 := Aside0.mk A670
       clear A670
       obtain ⟨ji68, hji68⟩ : ∃ j_ : Int, (wrap64 (x6_1 - 1)) = j_ := ⟨_, rfl⟩
       replace H : (if 0 ≤ (ji68) then (if (ji68) < (t127.length : Int) then ((lattice_Level.f (rd t127 (ji68))).bind fun t157 => (if t155 > t157 then (some false) else ((lattice_Level.f (rd t127 x6_1)).bind fun t159 => ((lattice_Level.f (rd t127 (ji68))).bind fun t161 => (if t159 = t161 then (if (rd t127 x6_1) ≤ (rd t127 (ji68)) then (some false) else (hypercubelaw8_LatticeSets.l0 k3 (wrap64 (1 + t126)) t127 y153 (wrap64 (x6_1 + 1)))) else (hypercubelaw8_LatticeSets.l0 k3 (wrap64 (1 + t126)) t127 y153 (wrap64 (x6_1 + 1)))))))) else (none)) else (none)) = some r := by first | (rw [hji68] at H; exact H) | (simp only [hji68] at H ⊢; exact H)
       (try rw [hji68] at A67)
       have hji68w : (IntKind.i64.wrap (x6_1 - 1)) = ji68 := (i64_w _).trans hji68
       by_cases c69 : 0 ≤ (ji68)
       rotate_left
       ·rw [if_neg c69] at H
        exact absurd H (by simp)
       rw [if_pos c69] at H
       have c69b0 : decide (0 ≤ (ji68)) = true := decide_eq_true c69
       clear c69
       by_cases c70 : (ji68) < (t127.length : Int)
       rotate_left
       ·rw [if_neg c70] at H
        exact absurd H (by simp)
       rw [if_pos c70] at H
       have c70b0 : decide ((ji68) < (t127.length : Int)) = true := decide_eq_true c70
       clear c70
       replace H := Option.bind_eq_some_iff.mp H
       obtain ⟨t157, A710, H⟩ := H
       replace H : (if t155 > t157 then (some false) else ((lattice_Level.f (rd t127 x6_1)).bind fun t159 => ((lattice_Level.f (rd t127 (ji68))).bind fun t161 => (if t159 = t161 then (if (rd t127 x6_1) ≤ (rd t127 (ji68)) then (some false) else (hypercubelaw8_LatticeSets.l0 k3 (wrap64 (1 + t126)) t127 y153 (wrap64 (x6_1 + 1)))) else (hypercubelaw8_LatticeSets.l0 k3 (wrap64 (1 + t126)) t127 y153 (wrap64 (x6_1 + 1))))))) = some r := H
       have A71 := Aside0.mk A710
       clear A710
       by_cases c72 : t155 > t157
       ·rw [if_pos c72] at H
        have c72b0 : decide (t157 < t155) = true := decide_eq_true c72
        clear c72
        obtain rfl := Option.some.inj H
        exact absurd HRT_.out (by decide)
       rw [if_neg c72] at H
       have c72b0 : decide (t157 < t155) = false := decide_eq_false c72
       clear c72
       replace H := Option.bind_eq_some_iff.mp H
       obtain ⟨t159, A760, H⟩ := H
       replace H : ((lattice_Level.f (rd t127 (ji68))).bind fun t161 => (if t159 = t161 then (if (rd t127 x6_1) ≤ (rd t127 (ji68)) then (some false) else (hypercubelaw8_LatticeSets.l0 k3 (wrap64 (1 + t126)) t127 y153 (wrap64 (x6_1 + 1)))) else (hypercubelaw8_LatticeSets.l0 k3 (wrap64 (1 + t126)) t127 y153 (wrap64 (x6_1 + 1))))) = some r := H
       have A76 := Aside0.mk A760
       clear A760
       replace H := Option.bind_eq_some_iff.mp H
       obtain ⟨t161, A770, H⟩ := H
       replace H : (if t159 = t161 then (if (rd t127 x6_1) ≤ (rd t127 (ji68)) then (some false) else (hypercubelaw8_LatticeSets.l0 k3 (wrap64 (1 + t126)) t127 y153 (wrap64 (x6_1 + 1)))) else (hypercubelaw8_LatticeSets.l0 k3 (wrap64 (1 + t126)) t127 y153 (wrap64 (x6_1 + 1)))) = some r := H
       have A77 := Aside0.mk A770
       clear A770
       by_cases c78 : t159 = t161
       rotate_left
       ·rw [if_neg c78] at H
        have c78b0 : (t159 == t161) = false := beq_eq_false_iff_ne.mpr c78
        have c78b1 : (t159 != t161) = true := bne_iff_ne.mpr c78
        have H' := Aside0.mk H
        clear H
        have p152 : 0 ≤ (x6_1 : Int) := od_
        have q152 : x6_1 < (t127.length : Int) := od_
        obtain ⟨ad152, e152, hx152_0⟩ := Kd.at_int (Kd.R_reads' HO_4.out).2.2 x6_1 p152 q152
        obtain rfl : ad137 = ad152 := (by injection e152)
        replace p152 := eq_true p152
        replace q152 := eq_true q152
        have p65 : 0 ≤ ((rd t127 x6_1) : Int) := od_
        have q65 : ((rd t127 x6_1) : Int) < ((x5_1.length : Int) : Int) := od_
        obtain ⟨go65, co65, eo65, gb65, gl65, cl65, HG65⟩ := Kd.R_form HO_5.out (by omega)
        (first | cases eo65 | (injection eo65 with ea_ en_ ec_; (first | subst ea_ | (injection ea_ with ea_; subst ea_)); subst ec_; clear en_))
        have GB65 := Aside0.mk gb65
        have GG65 := Aside0.mk HG65
        clear gb65 gl65 HG65
        obtain ⟨hx65_0, hf65_0⟩ := Kd.R_celln false HO_5.out ((rd t127 x6_1) : Int) p65 q65
        replace p65 := eq_true p65
        replace q65 := eq_true q65
        have HP86 := Kd.R_putg HO_5.out ((rd t127 x6_1) : Int) true
        try go_wp2_with (first | ((with_reducible refine gate_store (t := 4) (p := 137) rfl ?_); refine store_event (t := 4) (p := 137) (v := ?vo_w87) (w1 := (wr.setCell ⟨go65, ((rd t127 x6_1) : Int).toNat, none⟩ (.bool true))) ?hg ?ho ?hn ?hr ?_; (case ho => rfl); (case hg => rfl); (case hn => rfl); (case hr => first | (go_simp; done) | (go_simp; rfl)); intro w87 hw; have hg : wr.grownBy w87 (some go65) := (by rw [hw]; exact HP86.2); have hp_ : Kd.R Kd.bool 4 w87 w.heap.size (fun _ => True) (.slice (some ⟨go65, 0, none⟩) x5_1.length co65) y153 := (by rw [hw, Ny153.out]; exact HP86.1); clear HP86; have n0_ := Aside0.mk (Kd.R_over' (v := (.slice (some ⟨go65, 0, none⟩) x5_1.length co65)) (by (with_reducible repeat (first | apply Kd.R_alloc | apply Kd.R_drewN | apply Kd.R_drew)); exact HO_4.out) (Kd.R_typed HO_5.out) (by decide) hg); have n1_ := Aside0.mk (hp_); have n2_ := Aside0.mk (Kd.R_over' (v := (.slice (some ⟨go65, 0, none⟩) x5_1.length co65)) (by (with_reducible repeat (first | apply Kd.R_alloc | apply Kd.R_drewN | apply Kd.R_drew)); exact HO_7.out) (Kd.R_typed HO_5.out) (by decide) hg); have n3_ := Aside0.mk ((by rw [hw]; exact below_set (HB.out) GB65.out : Below w.heap.size w w87)); clear HO_4; clear HO_5; clear HO_7; clear HB; have HO_4 := n0_; have HO_5 := n1_; have HO_7 := n2_; have HB := n3_; clear n0_ n1_ n2_ n3_; clear hg hw hp_))
        have n0_ := Aside0.mk (Kd.R_drew HO_4.out)
        have n1_ := Aside0.mk (Kd.R_drew HO_5.out)
        have n2_ := Aside0.mk (Kd.R_drew HO_7.out)
        have n3_ := Aside0.mk (below_drew1 HB.out)
        clear HO_4
        clear HO_5
        clear HO_7
        clear HB
        have HO_4 := n0_
        have HO_5 := n1_
        have HO_7 := n2_
        have HB := n3_
        clear n0_ n1_ n2_ n3_
        have p154 : 0 ≤ (x6_1 : Int) := od_
        have q154 : x6_1 < (t127.length : Int) := od_
        obtain ⟨ad154, e154, hx154_0⟩ := Kd.at_int (Kd.R_reads' HO_4.out).2.2 x6_1 p154 q154
        obtain rfl : ad137 = ad154 := (by injection e154)
        replace p154 := eq_true p154
        replace q154 := eq_true q154
        have p156 : 0 ≤ ((ji68) : Int) := od_
        have q156 : (ji68) < (t127.length : Int) := od_
        obtain ⟨ad156, e156, hx156_0⟩ := Kd.at_int (Kd.R_reads' HO_4.out).2.2 (ji68) p156 q156
        obtain rfl : ad137 = ad156 := (by injection e156)
        replace p156 := eq_true p156
        replace q156 := eq_true q156
        have p158 : 0 ≤ (x6_1 : Int) := od_
        have q158 : x6_1 < (t127.length : Int) := od_
        obtain ⟨ad158, e158, hx158_0⟩ := Kd.at_int (Kd.R_reads' HO_4.out).2.2 x6_1 p158 q158
        obtain rfl : ad137 = ad158 := (by injection e158)
        replace p158 := eq_true p158
        replace q158 := eq_true q158
        have p160 : 0 ≤ ((ji68) : Int) := od_
        have q160 : (ji68) < (t127.length : Int) := od_
        obtain ⟨ad160, e160, hx160_0⟩ := Kd.at_int (Kd.R_reads' HO_4.out).2.2 (ji68) p160 q160
        obtain rfl : ad137 = ad160 := (by injection e160)
        replace p160 := eq_true p160
        replace q160 := eq_true q160
        refine start_ (n := 42) (S := fun w' => w'.cell? (ad137.add (x6_1).toNat) = some (.int .i64 (rd t127 x6_1)) ∧ w'.cell? (ad137.add ((ji68)).toNat) = some (.int .i64 (rd t127 (ji68))) ∧ w'.cell? (ad137.add (x6_1).toNat) = some (.int .i64 (rd t127 x6_1)) ∧ w'.cell? (ad137.add ((ji68)).toNat) = some (.int .i64 (rd t127 (ji68)))) (ds := []) (fl_ 0 42) (by kernel_rfl) rfl rfl ⟨hx154_0, hx156_0, hx158_0, hx160_0⟩ (fun hHeld => ?_); refine with_tabW hypercubelaw8_LatticeSets.tab22 hypercubelaw8_LatticeSets.bits22 (fun HT_ HW_ => ?_)
        generalize w87.drew = w88 at HO_4 HO_5 HO_7 HB hx154_0 hx156_0 hx158_0 hx160_0 hHeld ⊢
        refine pure_ (i := 0) (N := some 138) (v := ?_) (a' := ?_) (fl_ 1 41) rfl rfl (any_of HT_.out (by kernel_rfl)) (fun _ _ _ h => h) (Or.inl ⟨by rfl, ?_⟩) ?_ ?_
        rotate_left
        ·intro w'
         go_simp
         with_reducible rfl
        rotate_left
        ·simp only [Act.put, sl0, sl1, sl2, i64_w, i32_w]
         rfl
        refine pure_ (i := 1) (N := some 139) (v := ?_) (a' := ?_) (fl_ 2 40) rfl rfl (any_of HT_.out (by kernel_rfl)) (fun _ _ _ h => h) (Or.inl ⟨by rfl, ?_⟩) ?_ ?_
        rotate_left
        ·intro w'
         go_simp
         with_reducible rfl
        rotate_left
        ·simp only [Act.put, sl0, sl1, sl2, i64_w, i32_w]
         rfl
        refine pure_ (i := 2) (N := some 140) (v := ?_) (a' := ?_) (fl_ 3 39) rfl rfl (any_of HT_.out (by kernel_rfl)) (fun _ _ _ h => h) (Or.inl ⟨by rfl, ?_⟩) ?_ ?_
        rotate_left
        ·intro w'
         go_simp
         with_reducible rfl
        rotate_left
        ·simp only [Act.put, sl0, sl1, sl2, i64_w, i32_w]
         rfl
        refine pure_ (i := 3) (N := some 141) (v := ?_) (a' := ?_) (fl_ 4 38) rfl rfl (any_of HT_.out (by kernel_rfl)) (fun _ _ _ h => h) (Or.inl ⟨by rfl, ?_⟩) ?_ ?_
        rotate_left
        ·intro w'
         go_simp
         with_reducible rfl
        rotate_left
        ·simp only [Act.put, sl0, sl1, sl2, i64_w, i32_w]
         rfl
        refine pure_ (i := 4) (N := some 142) (v := ?_) (a' := ?_) (fl_ 5 37) rfl rfl (any_of HT_.out (by kernel_rfl)) (fun _ _ _ h => h) (Or.inl ⟨by rfl, ?_⟩) ?_ ?_
        rotate_left
        ·intro w'
         go_simp
         with_reducible rfl
        rotate_left
        ·simp only [Act.put, sl0, sl1, sl2, i64_w, i32_w]
         rfl
        refine pure_ (i := 5) (N := some 143) (v := ?_) (a' := ?_) (fl_ 6 36) rfl rfl (any_of HT_.out (by kernel_rfl)) (fun _ _ _ h => h) (Or.inl ⟨by rfl, ?_⟩) ?_ ?_
        rotate_left
        ·intro w'
         go_simp
         with_reducible rfl
        rotate_left
        ·simp only [Act.put, sl0, sl1, sl2, i64_w, i32_w]
         rfl
        refine pure_ (i := 8) (N := some 146) (v := ?_) (a' := ?_) #[Y,Y,Y,Y,Y,Y,Z,Z,Y,Z,Z,Z,Z,Z,Z,Z,Z,Z,Z,Z,Z,Z,Z,Z,Z,Z,Z,Z,Z,Z,Z,Z,Z,Z,Z,Z,Z,Z,Z,Z,Z,Z] rfl rfl (any_of HT_.out (by kernel_rfl)) (fun _ _ _ h => h) (Or.inl ⟨by rfl, ?_⟩) ?_ ?_
        rotate_left
        ·intro w'
         go_simp
         with_reducible rfl
        rotate_left
        ·simp only [Act.put, sl0, sl1, sl2, i64_w, i32_w]
         rfl
        refine pure_ (i := 9) (N := some 147) (v := ?_) (a' := ?_) #[Y,Y,Y,Y,Y,Y,Z,Z,Y,Y,Z,Z,Z,Z,Z,Z,Z,Z,Z,Z,Z,Z,Z,Z,Z,Z,Z,Z,Z,Z,Z,Z,Z,Z,Z,Z,Z,Z,Z,Z,Z,Z] rfl rfl (any_of HT_.out (by kernel_rfl)) (fun _ _ _ h => h) (Or.inl ⟨by rfl, ?_⟩) ?_ ?_
        rotate_left
        ·intro w'
         go_simp
         with_reducible rfl
        rotate_left
        ·simp only [Act.put, sl0, sl1, sl2, i64_w, i32_w]
         rfl
        refine pure_ (i := 10) (N := some 148) (v := ?_) (a' := ?_) #[Y,Y,Y,Y,Y,Y,Z,Z,Y,Y,Y,Z,Z,Z,Z,Z,Z,Z,Z,Z,Z,Z,Z,Z,Z,Z,Z,Z,Z,Z,Z,Z,Z,Z,Z,Z,Z,Z,Z,Z,Z,Z] rfl rfl (any_of HT_.out (by kernel_rfl)) (fun _ _ _ h => h) (Or.inl ⟨by rfl, ?_⟩) ?_ ?_
        rotate_left
        ·intro w'
         go_simp
         with_reducible rfl
        rotate_left
        ·simp only [Act.put, sl0, sl1, sl2, i64_w, i32_w]
         rfl
        refine pure_ (i := 11) (N := some 149) (v := ?_) (a' := ?_) #[Y,Y,Y,Y,Y,Y,Z,Z,Y,Y,Y,Y,Z,Z,Z,Z,Z,Z,Z,Z,Z,Z,Z,Z,Z,Z,Z,Z,Z,Z,Z,Z,Z,Z,Z,Z,Z,Z,Z,Z,Z,Z] rfl rfl (any_of HT_.out (by kernel_rfl)) (fun _ _ _ h => h) (Or.inl ⟨by rfl, ?_⟩) ?_ ?_
        rotate_left
        ·intro w'
         go_simp
         with_reducible rfl
        rotate_left
        ·simp only [Act.put, sl0, sl1, sl2, i64_w, i32_w]
         rfl
        refine take_ (i := 6) (N := some 144) (v := ?_) (a' := ?_) #[Y,Y,Y,Y,Y,Y,Y,Z,Y,Y,Y,Y,Z,Z,Z,Z,Z,Z,Z,Z,Z,Z,Z,Z,Z,Z,Z,Z,Z,Z,Z,Z,Z,Z,Z,Z,Z,Z,Z,Z,Z,Z] rfl rfl (take_ofW HT_.out HW_.out (by kernel_rfl)) (fun _ _ _ h => h) (Or.inl ⟨by rfl, ?_⟩) hHeld ?_ ?_
        rotate_left
        ·rintro w' ⟨s0, s1, s2, s3⟩
         go_simp
         with_reducible rfl
        rotate_left
        ·simp only [Act.put, sl0, sl1, sl2, i64_w, i32_w]
         rfl
        refine take_ (i := 12) (N := some 150) (v := ?_) (a' := ?_) #[Y,Y,Y,Y,Y,Y,Y,Z,Y,Y,Y,Y,Y,Z,Z,Z,Z,Z,Z,Z,Z,Z,Z,Z,Z,Z,Z,Z,Z,Z,Z,Z,Z,Z,Z,Z,Z,Z,Z,Z,Z,Z] rfl rfl (take_ofW HT_.out HW_.out (by kernel_rfl)) (fun _ _ _ h => h) (Or.inl ⟨by rfl, ?_⟩) hHeld ?_ ?_
        rotate_left
        ·rintro w' ⟨s0, s1, s2, s3⟩
         go_simp
         with_reducible rfl
        rotate_left
        ·simp only [Act.put, sl0, sl1, sl2, i64_w, i32_w]
         rfl
        refine one_ (i := 7) (N := some 145) (fl_ 13 29) rfl rfl (one_of HT_.out (by kernel_rfl)) (by decide) (fun K hK => ?_)
        refine goes_ Try.func31 (by kernel_rfl) rfl #[.int .i64 (rd t127 x6_1)] (by rfl) rfl rfl (by (try simp only [List.map_toArray, List.map_cons, List.map_nil]); first | done | rfl | (simp only [List.length_drop, List.length_take]; rfl)) ?_
        with_reducible refine (lattice_Level.calls (rd t127 x6_1) t155 _ A67.out).mono ?_
        rintro e w' ⟨rfl, ⟨nd, rfl⟩⟩
        refine ⟨_, rfl, ?_⟩
        refine hK.out _ _ ⟨hHeld.1, hHeld.2.1, hHeld.2.2.1, hHeld.2.2.2⟩ (fun hHeld => ?_)
        clear hK K
        refine norm_ (a' := ?_) ?_ ?_
        rotate_left
        ·show Act.put _ (some 145) _ = _
         simp only [Act.put, sl0, sl1, sl2, i64_w, i32_w]
         rfl
        refine one_ (i := 13) (N := some 151) (fl_ 14 28) rfl rfl (one_of HT_.out (by kernel_rfl)) (by decide) (fun K hK => ?_)
        refine goes_ Try.func31 (by kernel_rfl) rfl #[.int .i64 (rd t127 (ji68))] (by rfl) rfl rfl (by (try simp only [List.map_toArray, List.map_cons, List.map_nil]); first | done | (simp only [hji68]; rfl) | rfl | (simp only [List.length_drop, List.length_take]; rfl)) ?_
        with_reducible refine (lattice_Level.calls (rd t127 (ji68)) t157 _ A71.out).mono ?_
        rintro e w' ⟨rfl, ⟨nd, rfl⟩⟩
        refine ⟨_, rfl, ?_⟩
        refine hK.out _ _ ⟨hHeld.1, hHeld.2.1, hHeld.2.2.1, hHeld.2.2.2⟩ (fun hHeld => ?_)
        clear hK K
        refine norm_ (a' := ?_) ?_ ?_
        rotate_left
        ·show Act.put _ (some 151) _ = _
         simp only [Act.put, sl0, sl1, sl2, i64_w, i32_w]
         rfl
        refine pure_ (i := 14) (N := some 152) (v := ?_) (a' := ?_) (fl_ 15 27) rfl rfl (any_of HT_.out (by kernel_rfl)) (fun _ _ _ h => h) (Or.inl ⟨by rfl, ?_⟩) ?_ ?_
        rotate_left
        ·intro w'
         go_simp
         with_reducible rfl
        rotate_left
        ·simp only [Act.put, sl0, sl1, sl2, i64_w, i32_w]
         rfl
        refine pure_ (i := 15) (N := some 153) (v := ?_) (a' := ?_) (fl_ 16 26) rfl rfl (any_of HT_.out (by kernel_rfl)) (fun _ _ _ h => h) (Or.inl ⟨by rfl, ?_⟩) ?_ ?_
        rotate_left
        ·intro w'
         go_simp
         with_reducible rfl
        rotate_left
        ·simp only [Act.put, sl0, sl1, sl2, i64_w, i32_w]
         rfl
        refine pure_ (i := 16) (N := some 154) (v := ?_) (a' := ?_) (fl_ 17 25) rfl rfl (any_of HT_.out (by kernel_rfl)) (fun _ _ _ h => h) (Or.inl ⟨by rfl, ?_⟩) ?_ ?_
        rotate_left
        ·intro w'
         go_simp
         with_reducible rfl
        rotate_left
        ·simp only [Act.put, sl0, sl1, sl2, i64_w, i32_w]
         rfl
        refine pure_ (i := 17) (N := some 155) (v := ?_) (a' := ?_) (fl_ 18 24) rfl rfl (any_of HT_.out (by kernel_rfl)) (fun _ _ _ h => h) (Or.inl ⟨by rfl, ?_⟩) ?_ ?_
        rotate_left
        ·intro w'
         go_simp
         with_reducible rfl
        rotate_left
        ·simp only [Act.put, sl0, sl1, sl2, i64_w, i32_w]
         rfl
        refine pure_ (i := 18) (N := some 156) (v := ?_) (a' := ?_) (fl_ 19 23) rfl rfl (any_of HT_.out (by kernel_rfl)) (fun _ _ _ h => h) (Or.inl ⟨by rfl, ?_⟩) ?_ ?_
        rotate_left
        ·intro w'
         go_simp
         with_reducible rfl
        rotate_left
        ·simp only [Act.put, sl0, sl1, sl2, i64_w, i32_w]
         rfl
        refine pure_ (i := 21) (N := some 159) (v := ?_) (a' := ?_) #[Y,Y,Y,Y,Y,Y,Y,Y,Y,Y,Y,Y,Y,Y,Y,Y,Y,Y,Y,Z,Z,Y,Z,Z,Z,Z,Z,Z,Z,Z,Z,Z,Z,Z,Z,Z,Z,Z,Z,Z,Z,Z] rfl rfl (any_of HT_.out (by kernel_rfl)) (fun _ _ _ h => h) (Or.inl ⟨by rfl, ?_⟩) ?_ ?_
        rotate_left
        ·intro w'
         go_simp
         with_reducible rfl
        rotate_left
        ·simp only [Act.put, sl0, sl1, sl2, i64_w, i32_w]
         rfl
        refine pure_ (i := 22) (N := some 160) (v := ?_) (a' := ?_) #[Y,Y,Y,Y,Y,Y,Y,Y,Y,Y,Y,Y,Y,Y,Y,Y,Y,Y,Y,Z,Z,Y,Y,Z,Z,Z,Z,Z,Z,Z,Z,Z,Z,Z,Z,Z,Z,Z,Z,Z,Z,Z] rfl rfl (any_of HT_.out (by kernel_rfl)) (fun _ _ _ h => h) (Or.inl ⟨by rfl, ?_⟩) ?_ ?_
        rotate_left
        ·intro w'
         go_simp
         with_reducible rfl
        rotate_left
        ·simp only [Act.put, sl0, sl1, sl2, i64_w, i32_w]
         rfl
        refine pure_ (i := 23) (N := some 161) (v := ?_) (a' := ?_) #[Y,Y,Y,Y,Y,Y,Y,Y,Y,Y,Y,Y,Y,Y,Y,Y,Y,Y,Y,Z,Z,Y,Y,Y,Z,Z,Z,Z,Z,Z,Z,Z,Z,Z,Z,Z,Z,Z,Z,Z,Z,Z] rfl rfl (any_of HT_.out (by kernel_rfl)) (fun _ _ _ h => h) (Or.inl ⟨by rfl, ?_⟩) ?_ ?_
        rotate_left
        ·intro w'
         go_simp
         with_reducible rfl
        rotate_left
        ·simp only [Act.put, sl0, sl1, sl2, i64_w, i32_w]
         rfl
        refine pure_ (i := 24) (N := some 162) (v := ?_) (a' := ?_) #[Y,Y,Y,Y,Y,Y,Y,Y,Y,Y,Y,Y,Y,Y,Y,Y,Y,Y,Y,Z,Z,Y,Y,Y,Y,Z,Z,Z,Z,Z,Z,Z,Z,Z,Z,Z,Z,Z,Z,Z,Z,Z] rfl rfl (any_of HT_.out (by kernel_rfl)) (fun _ _ _ h => h) (Or.inl ⟨by rfl, ?_⟩) ?_ ?_
        rotate_left
        ·intro w'
         go_simp
         with_reducible rfl
        rotate_left
        ·simp only [Act.put, sl0, sl1, sl2, i64_w, i32_w]
         rfl
        refine take_ (i := 19) (N := some 157) (v := ?_) (a' := ?_) #[Y,Y,Y,Y,Y,Y,Y,Y,Y,Y,Y,Y,Y,Y,Y,Y,Y,Y,Y,Y,Z,Y,Y,Y,Y,Z,Z,Z,Z,Z,Z,Z,Z,Z,Z,Z,Z,Z,Z,Z,Z,Z] rfl rfl (take_ofW HT_.out HW_.out (by kernel_rfl)) (fun _ _ _ h => h) (Or.inl ⟨by rfl, ?_⟩) hHeld ?_ ?_
        rotate_left
        ·rintro w' ⟨s0, s1, s2, s3⟩
         go_simp
         with_reducible rfl
        rotate_left
        ·simp only [Act.put, sl0, sl1, sl2, i64_w, i32_w]
         rfl
        refine take_ (i := 25) (N := some 163) (v := ?_) (a' := ?_) #[Y,Y,Y,Y,Y,Y,Y,Y,Y,Y,Y,Y,Y,Y,Y,Y,Y,Y,Y,Y,Z,Y,Y,Y,Y,Y,Z,Z,Z,Z,Z,Z,Z,Z,Z,Z,Z,Z,Z,Z,Z,Z] rfl rfl (take_ofW HT_.out HW_.out (by kernel_rfl)) (fun _ _ _ h => h) (Or.inl ⟨by rfl, ?_⟩) hHeld ?_ ?_
        rotate_left
        ·rintro w' ⟨s0, s1, s2, s3⟩
         go_simp
         with_reducible rfl
        rotate_left
        ·simp only [Act.put, sl0, sl1, sl2, i64_w, i32_w]
         rfl
        refine one_ (i := 20) (N := some 158) (fl_ 26 16) rfl rfl (one_of HT_.out (by kernel_rfl)) (by decide) (fun K hK => ?_)
        refine goes_ Try.func31 (by kernel_rfl) rfl #[.int .i64 (rd t127 x6_1)] (by rfl) rfl rfl (by (try simp only [List.map_toArray, List.map_cons, List.map_nil]); first | done | rfl | (simp only [List.length_drop, List.length_take]; rfl)) ?_
        with_reducible refine (lattice_Level.calls (rd t127 x6_1) t159 _ A76.out).mono ?_
        rintro e w' ⟨rfl, ⟨nd, rfl⟩⟩
        refine ⟨_, rfl, ?_⟩
        refine hK.out _ _ ⟨hHeld.1, hHeld.2.1, hHeld.2.2.1, hHeld.2.2.2⟩ (fun hHeld => ?_)
        clear hK K
        refine norm_ (a' := ?_) ?_ ?_
        rotate_left
        ·show Act.put _ (some 158) _ = _
         simp only [Act.put, sl0, sl1, sl2, i64_w, i32_w]
         rfl
        refine one_ (i := 26) (N := some 164) (fl_ 27 15) rfl rfl (one_of HT_.out (by kernel_rfl)) (by decide) (fun K hK => ?_)
        refine goes_ Try.func31 (by kernel_rfl) rfl #[.int .i64 (rd t127 (ji68))] (by rfl) rfl rfl (by (try simp only [List.map_toArray, List.map_cons, List.map_nil]); first | done | (simp only [hji68]; rfl) | rfl | (simp only [List.length_drop, List.length_take]; rfl)) ?_
        with_reducible refine (lattice_Level.calls (rd t127 (ji68)) t161 _ A77.out).mono ?_
        rintro e w' ⟨rfl, ⟨nd, rfl⟩⟩
        refine ⟨_, rfl, ?_⟩
        refine hK.out _ _ ⟨hHeld.1, hHeld.2.1, hHeld.2.2.1, hHeld.2.2.2⟩ (fun hHeld => ?_)
        clear hK K
        refine norm_ (a' := ?_) ?_ ?_
        rotate_left
        ·show Act.put _ (some 164) _ = _
         simp only [Act.put, sl0, sl1, sl2, i64_w, i32_w]
         rfl
        refine pure_ (i := 27) (N := some 165) (v := ?_) (a' := ?_) (fl_ 28 14) rfl rfl (any_of HT_.out (by kernel_rfl)) (fun _ _ _ h => h) (Or.inl ⟨by rfl, ?_⟩) ?_ ?_
        rotate_left
        ·intro w'
         go_simp
         with_reducible rfl
        rotate_left
        ·simp only [Act.put, sl0, sl1, sl2, i64_w, i32_w]
         rfl
        refine pure_ (i := 28) (N := some 166) (v := ?_) (a' := ?_) (fl_ 29 13) rfl rfl (any_of HT_.out (by kernel_rfl)) (fun _ _ _ h => h) (Or.inl ⟨by rfl, ?_⟩) ?_ ?_
        rotate_left
        ·intro w'
         go_simp
         with_reducible rfl
        rotate_left
        ·simp only [Act.put, sl0, sl1, sl2, i64_w, i32_w]
         rfl
        refine pure_ (i := 29) (N := some 167) (v := undef) (a' := ?_) (fl_ 30 12) rfl rfl (any_of HT_.out (by kernel_rfl)) (fun _ _ _ h => h) (Or.inr ⟨by rfl, rfl⟩) ?_ ?_
        rotate_left
        ·simp only [Act.put, sl0, sl1, sl2, i64_w, i32_w]
         rfl
        refine pure_ (i := 30) (N := some 168) (v := undef) (a' := ?_) (fl_ 31 11) rfl rfl (any_of HT_.out (by kernel_rfl)) (fun _ _ _ h => h) (Or.inr ⟨by rfl, rfl⟩) ?_ ?_
        rotate_left
        ·simp only [Act.put, sl0, sl1, sl2, i64_w, i32_w]
         rfl
        refine pure_ (i := 31) (N := some 169) (v := undef) (a' := ?_) (fl_ 32 10) rfl rfl (any_of HT_.out (by kernel_rfl)) (fun _ _ _ h => h) (Or.inr ⟨by rfl, rfl⟩) ?_ ?_
        rotate_left
        ·simp only [Act.put, sl0, sl1, sl2, i64_w, i32_w]
         rfl
        refine pure_ (i := 32) (N := some 170) (v := undef) (a' := ?_) (fl_ 33 9) rfl rfl (any_of HT_.out (by kernel_rfl)) (fun _ _ _ h => h) (Or.inr ⟨by rfl, rfl⟩) ?_ ?_
        rotate_left
        ·simp only [Act.put, sl0, sl1, sl2, i64_w, i32_w]
         rfl
        refine pure_ (i := 33) (N := some 171) (v := undef) (a' := ?_) (fl_ 34 8) rfl rfl (any_of HT_.out (by kernel_rfl)) (fun _ _ _ h => h) (Or.inr ⟨by rfl, rfl⟩) ?_ ?_
        rotate_left
        ·simp only [Act.put, sl0, sl1, sl2, i64_w, i32_w]
         rfl
        refine pure_ (i := 34) (N := some 172) (v := undef) (a' := ?_) (fl_ 35 7) rfl rfl (any_of HT_.out (by kernel_rfl)) (fun _ _ _ h => h) (Or.inr ⟨by rfl, rfl⟩) ?_ ?_
        rotate_left
        ·simp only [Act.put, sl0, sl1, sl2, i64_w, i32_w]
         rfl
        refine pure_ (i := 35) (N := some 173) (v := undef) (a' := ?_) (fl_ 36 6) rfl rfl (any_of HT_.out (by kernel_rfl)) (fun _ _ _ h => h) (Or.inr ⟨by rfl, rfl⟩) ?_ ?_
        rotate_left
        ·simp only [Act.put, sl0, sl1, sl2, i64_w, i32_w]
         rfl
        refine pure_ (i := 36) (N := some 174) (v := undef) (a' := ?_) (fl_ 37 5) rfl rfl (any_of HT_.out (by kernel_rfl)) (fun _ _ _ h => h) (Or.inr ⟨by rfl, rfl⟩) ?_ ?_
        rotate_left
        ·simp only [Act.put, sl0, sl1, sl2, i64_w, i32_w]
         rfl
        refine pure_ (i := 37) (N := some 175) (v := undef) (a' := ?_) (fl_ 38 4) rfl rfl (any_of HT_.out (by kernel_rfl)) (fun _ _ _ h => h) (Or.inr ⟨by rfl, rfl⟩) ?_ ?_
        rotate_left
        ·simp only [Act.put, sl0, sl1, sl2, i64_w, i32_w]
         rfl
        refine pure_ (i := 38) (N := some 176) (v := undef) (a' := ?_) (fl_ 39 3) rfl rfl (any_of HT_.out (by kernel_rfl)) (fun _ _ _ h => h) (Or.inr ⟨by rfl, rfl⟩) ?_ ?_
        rotate_left
        ·simp only [Act.put, sl0, sl1, sl2, i64_w, i32_w]
         rfl
        refine pure_ (i := 39) (N := some 177) (v := ?_) (a' := ?_) (fl_ 40 2) rfl rfl (any_of HT_.out (by kernel_rfl)) (fun _ _ _ h => h) (Or.inl ⟨by rfl, ?_⟩) ?_ ?_
        rotate_left
        ·intro w'
         go_simp
         with_reducible rfl
        rotate_left
        ·simp only [Act.put, sl0, sl1, sl2, i64_w, i32_w]
         rfl
        refine pure_ (i := 40) (N := some 178) (v := ?_) (a' := ?_) (fl_ 41 1) rfl rfl (any_of HT_.out (by kernel_rfl)) (fun _ _ _ h => h) (Or.inl ⟨by rfl, ?_⟩) ?_ ?_
        rotate_left
        ·intro w'
         go_simp
         with_reducible rfl
        rotate_left
        ·simp only [Act.put, sl0, sl1, sl2, i64_w, i32_w]
         rfl
        refine pure_ (i := 41) (N := some 179) (v := ?_) (a' := ?_) (fl_ 42 0) rfl rfl (any_of HT_.out (by kernel_rfl)) (fun _ _ _ h => h) (Or.inl ⟨by rfl, ?_⟩) ?_ ?_
        rotate_left
        ·intro w'
         go_simp
         with_reducible rfl
        rotate_left
        ·simp only [Act.put, sl0, sl1, sl2, i64_w, i32_w]
         rfl
        refine done_ (done_of HT_.out (by kernel_rfl)) ?_
        try go_wp2
        go_roundg k3
        case measure => have := HK1.out; have := HJ17.out; have := HK3.out; omega
        case rel => exact ⟨(y153), (wrap64 (x6_1 + 1)), (by first | rfl | (simp; done) | (simp [*]; done)), H', ⟨by have := HK1.out; have := HJ17.out; have := HK3.out; omega⟩, ⟨by (with_reducible repeat (first | apply Kd.R_alloc | apply Kd.R_drewN | apply Kd.R_drew)); exact Kd.R_mono HO_4.out (fun _ hk => trivial)⟩, ⟨by (with_reducible repeat (first | apply Kd.R_alloc | apply Kd.R_drewN | apply Kd.R_drew)); exact HO_5.out⟩, ⟨by repeat (first | (with_reducible first | exact HB.out | apply below_alloc | apply pw_below_drewN | apply below_drew1) | exact HB.out)⟩⟩
       rw [if_pos c78] at H
       have c78b0 : (t159 == t161) = true := beq_iff_eq.mpr c78
       have c78b1 : (t159 != t161) = false := bne_eq_false_iff_eq.mpr c78
       clear c78
       by_cases c79 : (rd t127 x6_1) ≤ (rd t127 (ji68))
       ·rw [if_pos c79] at H
        have c79b0 : decide ((rd t127 x6_1) ≤ (rd t127 (ji68))) = true := decide_eq_true c79
        clear c79
        obtain rfl := Option.some.inj H
        exact absurd HRT_.out (by decide)
       rw [if_neg c79] at H
       have c79b0 : decide ((rd t127 x6_1) ≤ (rd t127 (ji68))) = false := decide_eq_false c79
       clear c79
       have H' := Aside0.mk H
       clear H
       have p152 : 0 ≤ (x6_1 : Int) := od_
       have q152 : x6_1 < (t127.length : Int) := od_
       obtain ⟨ad152, e152, hx152_0⟩ := Kd.at_int (Kd.R_reads' HO_4.out).2.2 x6_1 p152 q152
       obtain rfl : ad137 = ad152 := (by injection e152)
       replace p152 := eq_true p152
       replace q152 := eq_true q152
       have p65 : 0 ≤ ((rd t127 x6_1) : Int) := od_
       have q65 : ((rd t127 x6_1) : Int) < ((x5_1.length : Int) : Int) := od_
       obtain ⟨go65, co65, eo65, gb65, gl65, cl65, HG65⟩ := Kd.R_form HO_5.out (by omega)
       (first | cases eo65 | (injection eo65 with ea_ en_ ec_; (first | subst ea_ | (injection ea_ with ea_; subst ea_)); subst ec_; clear en_))
       have GB65 := Aside0.mk gb65
       have GG65 := Aside0.mk HG65
       clear gb65 gl65 HG65
       obtain ⟨hx65_0, hf65_0⟩ := Kd.R_celln false HO_5.out ((rd t127 x6_1) : Int) p65 q65
       replace p65 := eq_true p65
       replace q65 := eq_true q65
       have HP83 := Kd.R_putg HO_5.out ((rd t127 x6_1) : Int) true
       try go_wp2_with (first | ((with_reducible refine gate_store (t := 4) (p := 137) rfl ?_); refine store_event (t := 4) (p := 137) (v := ?vo_w84) (w1 := (wr.setCell ⟨go65, ((rd t127 x6_1) : Int).toNat, none⟩ (.bool true))) ?hg ?ho ?hn ?hr ?_; (case ho => rfl); (case hg => rfl); (case hn => rfl); (case hr => first | (go_simp; done) | (go_simp; rfl)); intro w84 hw; have hg : wr.grownBy w84 (some go65) := (by rw [hw]; exact HP83.2); have hp_ : Kd.R Kd.bool 4 w84 w.heap.size (fun _ => True) (.slice (some ⟨go65, 0, none⟩) x5_1.length co65) y153 := (by rw [hw, Ny153.out]; exact HP83.1); clear HP83; have n0_ := Aside0.mk (Kd.R_over' (v := (.slice (some ⟨go65, 0, none⟩) x5_1.length co65)) (by (with_reducible repeat (first | apply Kd.R_alloc | apply Kd.R_drewN | apply Kd.R_drew)); exact HO_4.out) (Kd.R_typed HO_5.out) (by decide) hg); have n1_ := Aside0.mk (hp_); have n2_ := Aside0.mk (Kd.R_over' (v := (.slice (some ⟨go65, 0, none⟩) x5_1.length co65)) (by (with_reducible repeat (first | apply Kd.R_alloc | apply Kd.R_drewN | apply Kd.R_drew)); exact HO_7.out) (Kd.R_typed HO_5.out) (by decide) hg); have n3_ := Aside0.mk ((by rw [hw]; exact below_set (HB.out) GB65.out : Below w.heap.size w w84)); clear HO_4; clear HO_5; clear HO_7; clear HB; have HO_4 := n0_; have HO_5 := n1_; have HO_7 := n2_; have HB := n3_; clear n0_ n1_ n2_ n3_; clear hg hw hp_))
       have n0_ := Aside0.mk (Kd.R_drew HO_4.out)
       have n1_ := Aside0.mk (Kd.R_drew HO_5.out)
       have n2_ := Aside0.mk (Kd.R_drew HO_7.out)
       have n3_ := Aside0.mk (below_drew1 HB.out)
       clear HO_4
       clear HO_5
       clear HO_7
       clear HB
       have HO_4 := n0_
       have HO_5 := n1_
       have HO_7 := n2_
       have HB := n3_
       clear n0_ n1_ n2_ n3_
       have p154 : 0 ≤ (x6_1 : Int) := od_
       have q154 : x6_1 < (t127.length : Int) := od_
       obtain ⟨ad154, e154, hx154_0⟩ := Kd.at_int (Kd.R_reads' HO_4.out).2.2 x6_1 p154 q154
       obtain rfl : ad137 = ad154 := (by injection e154)
       replace p154 := eq_true p154
       replace q154 := eq_true q154
       have p156 : 0 ≤ ((ji68) : Int) := od_
       have q156 : (ji68) < (t127.length : Int) := od_
       obtain ⟨ad156, e156, hx156_0⟩ := Kd.at_int (Kd.R_reads' HO_4.out).2.2 (ji68) p156 q156
       obtain rfl : ad137 = ad156 := (by injection e156)
       replace p156 := eq_true p156
       replace q156 := eq_true q156
       have p158 : 0 ≤ (x6_1 : Int) := od_
       have q158 : x6_1 < (t127.length : Int) := od_
       obtain ⟨ad158, e158, hx158_0⟩ := Kd.at_int (Kd.R_reads' HO_4.out).2.2 x6_1 p158 q158
       obtain rfl : ad137 = ad158 := (by injection e158)
       replace p158 := eq_true p158
       replace q158 := eq_true q158
       have p160 : 0 ≤ ((ji68) : Int) := od_
       have q160 : (ji68) < (t127.length : Int) := od_
       obtain ⟨ad160, e160, hx160_0⟩ := Kd.at_int (Kd.R_reads' HO_4.out).2.2 (ji68) p160 q160
       obtain rfl : ad137 = ad160 := (by injection e160)
       replace p160 := eq_true p160
       replace q160 := eq_true q160
       have p162 : 0 ≤ (x6_1 : Int) := od_
       have q162 : x6_1 < (t127.length : Int) := od_
       obtain ⟨ad162, e162, hx162_0⟩ := Kd.at_int (Kd.R_reads' HO_4.out).2.2 x6_1 p162 q162
       obtain rfl : ad137 = ad162 := (by injection e162)
       replace p162 := eq_true p162
       replace q162 := eq_true q162
       have p163 : 0 ≤ ((ji68) : Int) := od_
       have q163 : (ji68) < (t127.length : Int) := od_
       obtain ⟨ad163, e163, hx163_0⟩ := Kd.at_int (Kd.R_reads' HO_4.out).2.2 (ji68) p163 q163
       obtain rfl : ad137 = ad163 := (by injection e163)
       replace p163 := eq_true p163
       replace q163 := eq_true q163
       refine start_ (n := 42) (S := fun w' => w'.cell? (ad137.add (x6_1).toNat) = some (.int .i64 (rd t127 x6_1)) ∧ w'.cell? (ad137.add ((ji68)).toNat) = some (.int .i64 (rd t127 (ji68))) ∧ w'.cell? (ad137.add (x6_1).toNat) = some (.int .i64 (rd t127 x6_1)) ∧ w'.cell? (ad137.add ((ji68)).toNat) = some (.int .i64 (rd t127 (ji68))) ∧ w'.cell? (ad137.add (x6_1).toNat) = some (.int .i64 (rd t127 x6_1)) ∧ w'.cell? (ad137.add ((ji68)).toNat) = some (.int .i64 (rd t127 (ji68)))) (ds := []) (fl_ 0 42) (by kernel_rfl) rfl rfl ⟨hx154_0, hx156_0, hx158_0, hx160_0, hx162_0, hx163_0⟩ (fun hHeld => ?_); refine with_tabW hypercubelaw8_LatticeSets.tab22 hypercubelaw8_LatticeSets.bits22 (fun HT_ HW_ => ?_)
       generalize w84.drew = w85 at HO_4 HO_5 HO_7 HB hx154_0 hx156_0 hx158_0 hx160_0 hx162_0 hx163_0 hHeld ⊢
       refine pure_ (i := 0) (N := some 138) (v := ?_) (a' := ?_) (fl_ 1 41) rfl rfl (any_of HT_.out (by kernel_rfl)) (fun _ _ _ h => h) (Or.inl ⟨by rfl, ?_⟩) ?_ ?_
       rotate_left
       ·intro w'
        go_simp
        with_reducible rfl
       rotate_left
       ·simp only [Act.put, sl0, sl1, sl2, i64_w, i32_w]
        rfl
       refine pure_ (i := 1) (N := some 139) (v := ?_) (a' := ?_) (fl_ 2 40) rfl rfl (any_of HT_.out (by kernel_rfl)) (fun _ _ _ h => h) (Or.inl ⟨by rfl, ?_⟩) ?_ ?_
       rotate_left
       ·intro w'
        go_simp
        with_reducible rfl
       rotate_left
       ·simp only [Act.put, sl0, sl1, sl2, i64_w, i32_w]
        rfl
       refine pure_ (i := 2) (N := some 140) (v := ?_) (a' := ?_) (fl_ 3 39) rfl rfl (any_of HT_.out (by kernel_rfl)) (fun _ _ _ h => h) (Or.inl ⟨by rfl, ?_⟩) ?_ ?_
       rotate_left
       ·intro w'
        go_simp
        with_reducible rfl
       rotate_left
       ·simp only [Act.put, sl0, sl1, sl2, i64_w, i32_w]
        rfl
       refine pure_ (i := 3) (N := some 141) (v := ?_) (a' := ?_) (fl_ 4 38) rfl rfl (any_of HT_.out (by kernel_rfl)) (fun _ _ _ h => h) (Or.inl ⟨by rfl, ?_⟩) ?_ ?_
       rotate_left
       ·intro w'
        go_simp
        with_reducible rfl
       rotate_left
       ·simp only [Act.put, sl0, sl1, sl2, i64_w, i32_w]
        rfl
       refine pure_ (i := 4) (N := some 142) (v := ?_) (a' := ?_) (fl_ 5 37) rfl rfl (any_of HT_.out (by kernel_rfl)) (fun _ _ _ h => h) (Or.inl ⟨by rfl, ?_⟩) ?_ ?_
       rotate_left
       ·intro w'
        go_simp
        with_reducible rfl
       rotate_left
       ·simp only [Act.put, sl0, sl1, sl2, i64_w, i32_w]
        rfl
       refine pure_ (i := 5) (N := some 143) (v := ?_) (a' := ?_) (fl_ 6 36) rfl rfl (any_of HT_.out (by kernel_rfl)) (fun _ _ _ h => h) (Or.inl ⟨by rfl, ?_⟩) ?_ ?_
       rotate_left
       ·intro w'
        go_simp
        with_reducible rfl
       rotate_left
       ·simp only [Act.put, sl0, sl1, sl2, i64_w, i32_w]
        rfl
       refine pure_ (i := 8) (N := some 146) (v := ?_) (a' := ?_) #[Y,Y,Y,Y,Y,Y,Z,Z,Y,Z,Z,Z,Z,Z,Z,Z,Z,Z,Z,Z,Z,Z,Z,Z,Z,Z,Z,Z,Z,Z,Z,Z,Z,Z,Z,Z,Z,Z,Z,Z,Z,Z] rfl rfl (any_of HT_.out (by kernel_rfl)) (fun _ _ _ h => h) (Or.inl ⟨by rfl, ?_⟩) ?_ ?_
       rotate_left
       ·intro w'
        go_simp
        with_reducible rfl
       rotate_left
       ·simp only [Act.put, sl0, sl1, sl2, i64_w, i32_w]
        rfl
       refine pure_ (i := 9) (N := some 147) (v := ?_) (a' := ?_) #[Y,Y,Y,Y,Y,Y,Z,Z,Y,Y,Z,Z,Z,Z,Z,Z,Z,Z,Z,Z,Z,Z,Z,Z,Z,Z,Z,Z,Z,Z,Z,Z,Z,Z,Z,Z,Z,Z,Z,Z,Z,Z] rfl rfl (any_of HT_.out (by kernel_rfl)) (fun _ _ _ h => h) (Or.inl ⟨by rfl, ?_⟩) ?_ ?_
       rotate_left
       ·intro w'
        go_simp
        with_reducible rfl
       rotate_left
       ·simp only [Act.put, sl0, sl1, sl2, i64_w, i32_w]
        rfl
       refine pure_ (i := 10) (N := some 148) (v := ?_) (a' := ?_) #[Y,Y,Y,Y,Y,Y,Z,Z,Y,Y,Y,Z,Z,Z,Z,Z,Z,Z,Z,Z,Z,Z,Z,Z,Z,Z,Z,Z,Z,Z,Z,Z,Z,Z,Z,Z,Z,Z,Z,Z,Z,Z] rfl rfl (any_of HT_.out (by kernel_rfl)) (fun _ _ _ h => h) (Or.inl ⟨by rfl, ?_⟩) ?_ ?_
       rotate_left
       ·intro w'
        go_simp
        with_reducible rfl
       rotate_left
       ·simp only [Act.put, sl0, sl1, sl2, i64_w, i32_w]
        rfl
       refine pure_ (i := 11) (N := some 149) (v := ?_) (a' := ?_) #[Y,Y,Y,Y,Y,Y,Z,Z,Y,Y,Y,Y,Z,Z,Z,Z,Z,Z,Z,Z,Z,Z,Z,Z,Z,Z,Z,Z,Z,Z,Z,Z,Z,Z,Z,Z,Z,Z,Z,Z,Z,Z] rfl rfl (any_of HT_.out (by kernel_rfl)) (fun _ _ _ h => h) (Or.inl ⟨by rfl, ?_⟩) ?_ ?_
       rotate_left
       ·intro w'
        go_simp
        with_reducible rfl
       rotate_left
       ·simp only [Act.put, sl0, sl1, sl2, i64_w, i32_w]
        rfl
       refine take_ (i := 6) (N := some 144) (v := ?_) (a' := ?_) #[Y,Y,Y,Y,Y,Y,Y,Z,Y,Y,Y,Y,Z,Z,Z,Z,Z,Z,Z,Z,Z,Z,Z,Z,Z,Z,Z,Z,Z,Z,Z,Z,Z,Z,Z,Z,Z,Z,Z,Z,Z,Z] rfl rfl (take_ofW HT_.out HW_.out (by kernel_rfl)) (fun _ _ _ h => h) (Or.inl ⟨by rfl, ?_⟩) hHeld ?_ ?_
       rotate_left
       ·rintro w' ⟨s0, s1, s2, s3, s4, s5⟩
        go_simp
        with_reducible rfl
       rotate_left
       ·simp only [Act.put, sl0, sl1, sl2, i64_w, i32_w]
        rfl
       refine take_ (i := 12) (N := some 150) (v := ?_) (a' := ?_) #[Y,Y,Y,Y,Y,Y,Y,Z,Y,Y,Y,Y,Y,Z,Z,Z,Z,Z,Z,Z,Z,Z,Z,Z,Z,Z,Z,Z,Z,Z,Z,Z,Z,Z,Z,Z,Z,Z,Z,Z,Z,Z] rfl rfl (take_ofW HT_.out HW_.out (by kernel_rfl)) (fun _ _ _ h => h) (Or.inl ⟨by rfl, ?_⟩) hHeld ?_ ?_
       rotate_left
       ·rintro w' ⟨s0, s1, s2, s3, s4, s5⟩
        go_simp
        with_reducible rfl
       rotate_left
       ·simp only [Act.put, sl0, sl1, sl2, i64_w, i32_w]
        rfl
       refine one_ (i := 7) (N := some 145) (fl_ 13 29) rfl rfl (one_of HT_.out (by kernel_rfl)) (by decide) (fun K hK => ?_)
       refine goes_ Try.func31 (by kernel_rfl) rfl #[.int .i64 (rd t127 x6_1)] (by rfl) rfl rfl (by (try simp only [List.map_toArray, List.map_cons, List.map_nil]); first | done | rfl | (simp only [List.length_drop, List.length_take]; rfl)) ?_
       with_reducible refine (lattice_Level.calls (rd t127 x6_1) t155 _ A67.out).mono ?_
       rintro e w' ⟨rfl, ⟨nd, rfl⟩⟩
       refine ⟨_, rfl, ?_⟩
       refine hK.out _ _ ⟨hHeld.1, hHeld.2.1, hHeld.2.2.1, hHeld.2.2.2.1, hHeld.2.2.2.2.1, hHeld.2.2.2.2.2⟩ (fun hHeld => ?_)
       clear hK K
       refine norm_ (a' := ?_) ?_ ?_
       rotate_left
       ·show Act.put _ (some 145) _ = _
        simp only [Act.put, sl0, sl1, sl2, i64_w, i32_w]
        rfl
       refine one_ (i := 13) (N := some 151) (fl_ 14 28) rfl rfl (one_of HT_.out (by kernel_rfl)) (by decide) (fun K hK => ?_)
       refine goes_ Try.func31 (by kernel_rfl) rfl #[.int .i64 (rd t127 (ji68))] (by rfl) rfl rfl (by (try simp only [List.map_toArray, List.map_cons, List.map_nil]); first | done | (simp only [hji68]; rfl) | rfl | (simp only [List.length_drop, List.length_take]; rfl)) ?_
       with_reducible refine (lattice_Level.calls (rd t127 (ji68)) t157 _ A71.out).mono ?_
       rintro e w' ⟨rfl, ⟨nd, rfl⟩⟩
       refine ⟨_, rfl, ?_⟩
       refine hK.out _ _ ⟨hHeld.1, hHeld.2.1, hHeld.2.2.1, hHeld.2.2.2.1, hHeld.2.2.2.2.1, hHeld.2.2.2.2.2⟩ (fun hHeld => ?_)
       clear hK K
       refine norm_ (a' := ?_) ?_ ?_
       rotate_left
       ·show Act.put _ (some 151) _ = _
        simp only [Act.put, sl0, sl1, sl2, i64_w, i32_w]
        rfl
       refine pure_ (i := 14) (N := some 152) (v := ?_) (a' := ?_) (fl_ 15 27) rfl rfl (any_of HT_.out (by kernel_rfl)) (fun _ _ _ h => h) (Or.inl ⟨by rfl, ?_⟩) ?_ ?_
       rotate_left
       ·intro w'
        go_simp
        with_reducible rfl
       rotate_left
       ·simp only [Act.put, sl0, sl1, sl2, i64_w, i32_w]
        rfl
       refine pure_ (i := 15) (N := some 153) (v := ?_) (a' := ?_) (fl_ 16 26) rfl rfl (any_of HT_.out (by kernel_rfl)) (fun _ _ _ h => h) (Or.inl ⟨by rfl, ?_⟩) ?_ ?_
       rotate_left
       ·intro w'
        go_simp
        with_reducible rfl
       rotate_left
       ·simp only [Act.put, sl0, sl1, sl2, i64_w, i32_w]
        rfl
       refine pure_ (i := 16) (N := some 154) (v := ?_) (a' := ?_) (fl_ 17 25) rfl rfl (any_of HT_.out (by kernel_rfl)) (fun _ _ _ h => h) (Or.inl ⟨by rfl, ?_⟩) ?_ ?_
       rotate_left
       ·intro w'
        go_simp
        with_reducible rfl
       rotate_left
       ·simp only [Act.put, sl0, sl1, sl2, i64_w, i32_w]
        rfl
       refine pure_ (i := 17) (N := some 155) (v := ?_) (a' := ?_) (fl_ 18 24) rfl rfl (any_of HT_.out (by kernel_rfl)) (fun _ _ _ h => h) (Or.inl ⟨by rfl, ?_⟩) ?_ ?_
       rotate_left
       ·intro w'
        go_simp
        with_reducible rfl
       rotate_left
       ·simp only [Act.put, sl0, sl1, sl2, i64_w, i32_w]
        rfl
       refine pure_ (i := 18) (N := some 156) (v := ?_) (a' := ?_) (fl_ 19 23) rfl rfl (any_of HT_.out (by kernel_rfl)) (fun _ _ _ h => h) (Or.inl ⟨by rfl, ?_⟩) ?_ ?_
       rotate_left
       ·intro w'
        go_simp
        with_reducible rfl
       rotate_left
       ·simp only [Act.put, sl0, sl1, sl2, i64_w, i32_w]
        rfl
       refine pure_ (i := 21) (N := some 159) (v := ?_) (a' := ?_) #[Y,Y,Y,Y,Y,Y,Y,Y,Y,Y,Y,Y,Y,Y,Y,Y,Y,Y,Y,Z,Z,Y,Z,Z,Z,Z,Z,Z,Z,Z,Z,Z,Z,Z,Z,Z,Z,Z,Z,Z,Z,Z] rfl rfl (any_of HT_.out (by kernel_rfl)) (fun _ _ _ h => h) (Or.inl ⟨by rfl, ?_⟩) ?_ ?_
       rotate_left
       ·intro w'
        go_simp
        with_reducible rfl
       rotate_left
       ·simp only [Act.put, sl0, sl1, sl2, i64_w, i32_w]
        rfl
       refine pure_ (i := 22) (N := some 160) (v := ?_) (a' := ?_) #[Y,Y,Y,Y,Y,Y,Y,Y,Y,Y,Y,Y,Y,Y,Y,Y,Y,Y,Y,Z,Z,Y,Y,Z,Z,Z,Z,Z,Z,Z,Z,Z,Z,Z,Z,Z,Z,Z,Z,Z,Z,Z] rfl rfl (any_of HT_.out (by kernel_rfl)) (fun _ _ _ h => h) (Or.inl ⟨by rfl, ?_⟩) ?_ ?_
       rotate_left
       ·intro w'
        go_simp
        with_reducible rfl
       rotate_left
       ·simp only [Act.put, sl0, sl1, sl2, i64_w, i32_w]
        rfl
       refine pure_ (i := 23) (N := some 161) (v := ?_) (a' := ?_) #[Y,Y,Y,Y,Y,Y,Y,Y,Y,Y,Y,Y,Y,Y,Y,Y,Y,Y,Y,Z,Z,Y,Y,Y,Z,Z,Z,Z,Z,Z,Z,Z,Z,Z,Z,Z,Z,Z,Z,Z,Z,Z] rfl rfl (any_of HT_.out (by kernel_rfl)) (fun _ _ _ h => h) (Or.inl ⟨by rfl, ?_⟩) ?_ ?_
       rotate_left
       ·intro w'
        go_simp
        with_reducible rfl
       rotate_left
       ·simp only [Act.put, sl0, sl1, sl2, i64_w, i32_w]
        rfl
       refine pure_ (i := 24) (N := some 162) (v := ?_) (a' := ?_) #[Y,Y,Y,Y,Y,Y,Y,Y,Y,Y,Y,Y,Y,Y,Y,Y,Y,Y,Y,Z,Z,Y,Y,Y,Y,Z,Z,Z,Z,Z,Z,Z,Z,Z,Z,Z,Z,Z,Z,Z,Z,Z] rfl rfl (any_of HT_.out (by kernel_rfl)) (fun _ _ _ h => h) (Or.inl ⟨by rfl, ?_⟩) ?_ ?_
       rotate_left
       ·intro w'
        go_simp
        with_reducible rfl
       rotate_left
       ·simp only [Act.put, sl0, sl1, sl2, i64_w, i32_w]
        rfl
       refine take_ (i := 19) (N := some 157) (v := ?_) (a' := ?_) #[Y,Y,Y,Y,Y,Y,Y,Y,Y,Y,Y,Y,Y,Y,Y,Y,Y,Y,Y,Y,Z,Y,Y,Y,Y,Z,Z,Z,Z,Z,Z,Z,Z,Z,Z,Z,Z,Z,Z,Z,Z,Z] rfl rfl (take_ofW HT_.out HW_.out (by kernel_rfl)) (fun _ _ _ h => h) (Or.inl ⟨by rfl, ?_⟩) hHeld ?_ ?_
       rotate_left
       ·rintro w' ⟨s0, s1, s2, s3, s4, s5⟩
        go_simp
        with_reducible rfl
       rotate_left
       ·simp only [Act.put, sl0, sl1, sl2, i64_w, i32_w]
        rfl
       refine take_ (i := 25) (N := some 163) (v := ?_) (a' := ?_) #[Y,Y,Y,Y,Y,Y,Y,Y,Y,Y,Y,Y,Y,Y,Y,Y,Y,Y,Y,Y,Z,Y,Y,Y,Y,Y,Z,Z,Z,Z,Z,Z,Z,Z,Z,Z,Z,Z,Z,Z,Z,Z] rfl rfl (take_ofW HT_.out HW_.out (by kernel_rfl)) (fun _ _ _ h => h) (Or.inl ⟨by rfl, ?_⟩) hHeld ?_ ?_
       rotate_left
       ·rintro w' ⟨s0, s1, s2, s3, s4, s5⟩
        go_simp
        with_reducible rfl
       rotate_left
       ·simp only [Act.put, sl0, sl1, sl2, i64_w, i32_w]
        rfl
       refine one_ (i := 20) (N := some 158) (fl_ 26 16) rfl rfl (one_of HT_.out (by kernel_rfl)) (by decide) (fun K hK => ?_)
       refine goes_ Try.func31 (by kernel_rfl) rfl #[.int .i64 (rd t127 x6_1)] (by rfl) rfl rfl (by (try simp only [List.map_toArray, List.map_cons, List.map_nil]); first | done | rfl | (simp only [List.length_drop, List.length_take]; rfl)) ?_
       with_reducible refine (lattice_Level.calls (rd t127 x6_1) t159 _ A76.out).mono ?_
       rintro e w' ⟨rfl, ⟨nd, rfl⟩⟩
       refine ⟨_, rfl, ?_⟩
       refine hK.out _ _ ⟨hHeld.1, hHeld.2.1, hHeld.2.2.1, hHeld.2.2.2.1, hHeld.2.2.2.2.1, hHeld.2.2.2.2.2⟩ (fun hHeld => ?_)
       clear hK K
       refine norm_ (a' := ?_) ?_ ?_
       rotate_left
       ·show Act.put _ (some 158) _ = _
        simp only [Act.put, sl0, sl1, sl2, i64_w, i32_w]
        rfl
       refine one_ (i := 26) (N := some 164) (fl_ 27 15) rfl rfl (one_of HT_.out (by kernel_rfl)) (by decide) (fun K hK => ?_)
       refine goes_ Try.func31 (by kernel_rfl) rfl #[.int .i64 (rd t127 (ji68))] (by rfl) rfl rfl (by (try simp only [List.map_toArray, List.map_cons, List.map_nil]); first | done | (simp only [hji68]; rfl) | rfl | (simp only [List.length_drop, List.length_take]; rfl)) ?_
       with_reducible refine (lattice_Level.calls (rd t127 (ji68)) t161 _ A77.out).mono ?_
       rintro e w' ⟨rfl, ⟨nd, rfl⟩⟩
       refine ⟨_, rfl, ?_⟩
       refine hK.out _ _ ⟨hHeld.1, hHeld.2.1, hHeld.2.2.1, hHeld.2.2.2.1, hHeld.2.2.2.2.1, hHeld.2.2.2.2.2⟩ (fun hHeld => ?_)
       clear hK K
       refine norm_ (a' := ?_) ?_ ?_
       rotate_left
       ·show Act.put _ (some 164) _ = _
        simp only [Act.put, sl0, sl1, sl2, i64_w, i32_w]
        rfl
       refine pure_ (i := 27) (N := some 165) (v := ?_) (a' := ?_) (fl_ 28 14) rfl rfl (any_of HT_.out (by kernel_rfl)) (fun _ _ _ h => h) (Or.inl ⟨by rfl, ?_⟩) ?_ ?_
       rotate_left
       ·intro w'
        go_simp
        with_reducible rfl
       rotate_left
       ·simp only [Act.put, sl0, sl1, sl2, i64_w, i32_w]
        rfl
       refine pure_ (i := 28) (N := some 166) (v := ?_) (a' := ?_) (fl_ 29 13) rfl rfl (any_of HT_.out (by kernel_rfl)) (fun _ _ _ h => h) (Or.inl ⟨by rfl, ?_⟩) ?_ ?_
       rotate_left
       ·intro w'
        go_simp
        with_reducible rfl
       rotate_left
       ·simp only [Act.put, sl0, sl1, sl2, i64_w, i32_w]
        rfl
       refine pure_ (i := 29) (N := some 167) (v := ?_) (a' := ?_) (fl_ 30 12) rfl rfl (any_of HT_.out (by kernel_rfl)) (fun _ _ _ h => h) (Or.inl ⟨by rfl, ?_⟩) ?_ ?_
       rotate_left
       ·intro w'
        go_simp
        with_reducible rfl
       rotate_left
       ·simp only [Act.put, sl0, sl1, sl2, i64_w, i32_w]
        rfl
       refine pure_ (i := 30) (N := some 168) (v := ?_) (a' := ?_) (fl_ 31 11) rfl rfl (any_of HT_.out (by kernel_rfl)) (fun _ _ _ h => h) (Or.inl ⟨by rfl, ?_⟩) ?_ ?_
       rotate_left
       ·intro w'
        go_simp
        with_reducible rfl
       rotate_left
       ·simp only [Act.put, sl0, sl1, sl2, i64_w, i32_w]
        rfl
       refine pure_ (i := 31) (N := some 169) (v := ?_) (a' := ?_) (fl_ 32 10) rfl rfl (any_of HT_.out (by kernel_rfl)) (fun _ _ _ h => h) (Or.inl ⟨by rfl, ?_⟩) ?_ ?_
       rotate_left
       ·intro w'
        go_simp
        with_reducible rfl
       rotate_left
       ·simp only [Act.put, sl0, sl1, sl2, i64_w, i32_w]
        rfl
       refine pure_ (i := 33) (N := some 171) (v := ?_) (a' := ?_) #[Y,Y,Y,Y,Y,Y,Y,Y,Y,Y,Y,Y,Y,Y,Y,Y,Y,Y,Y,Y,Y,Y,Y,Y,Y,Y,Y,Y,Y,Y,Y,Y,Z,Y,Z,Z,Z,Z,Z,Z,Z,Z] rfl rfl (any_of HT_.out (by kernel_rfl)) (fun _ _ _ h => h) (Or.inl ⟨by rfl, ?_⟩) ?_ ?_
       rotate_left
       ·intro w'
        go_simp
        with_reducible rfl
       rotate_left
       ·simp only [Act.put, sl0, sl1, sl2, i64_w, i32_w]
        rfl
       refine pure_ (i := 34) (N := some 172) (v := ?_) (a' := ?_) #[Y,Y,Y,Y,Y,Y,Y,Y,Y,Y,Y,Y,Y,Y,Y,Y,Y,Y,Y,Y,Y,Y,Y,Y,Y,Y,Y,Y,Y,Y,Y,Y,Z,Y,Y,Z,Z,Z,Z,Z,Z,Z] rfl rfl (any_of HT_.out (by kernel_rfl)) (fun _ _ _ h => h) (Or.inl ⟨by rfl, ?_⟩) ?_ ?_
       rotate_left
       ·intro w'
        go_simp
        with_reducible rfl
       rotate_left
       ·simp only [Act.put, sl0, sl1, sl2, i64_w, i32_w]
        rfl
       refine pure_ (i := 35) (N := some 173) (v := ?_) (a' := ?_) #[Y,Y,Y,Y,Y,Y,Y,Y,Y,Y,Y,Y,Y,Y,Y,Y,Y,Y,Y,Y,Y,Y,Y,Y,Y,Y,Y,Y,Y,Y,Y,Y,Z,Y,Y,Y,Z,Z,Z,Z,Z,Z] rfl rfl (any_of HT_.out (by kernel_rfl)) (fun _ _ _ h => h) (Or.inl ⟨by rfl, ?_⟩) ?_ ?_
       rotate_left
       ·intro w'
        go_simp
        with_reducible rfl
       rotate_left
       ·simp only [Act.put, sl0, sl1, sl2, i64_w, i32_w]
        rfl
       refine pure_ (i := 36) (N := some 174) (v := ?_) (a' := ?_) #[Y,Y,Y,Y,Y,Y,Y,Y,Y,Y,Y,Y,Y,Y,Y,Y,Y,Y,Y,Y,Y,Y,Y,Y,Y,Y,Y,Y,Y,Y,Y,Y,Z,Y,Y,Y,Y,Z,Z,Z,Z,Z] rfl rfl (any_of HT_.out (by kernel_rfl)) (fun _ _ _ h => h) (Or.inl ⟨by rfl, ?_⟩) ?_ ?_
       rotate_left
       ·intro w'
        go_simp
        with_reducible rfl
       rotate_left
       ·simp only [Act.put, sl0, sl1, sl2, i64_w, i32_w]
        rfl
       refine take_ (i := 32) (N := some 170) (v := ?_) (a' := ?_) (fl_ 37 5) rfl rfl (take_ofW HT_.out HW_.out (by kernel_rfl)) (fun _ _ _ h => h) (Or.inl ⟨by rfl, ?_⟩) hHeld ?_ ?_
       rotate_left
       ·rintro w' ⟨s0, s1, s2, s3, s4, s5⟩
        go_simp
        with_reducible rfl
       rotate_left
       ·simp only [Act.put, sl0, sl1, sl2, i64_w, i32_w]
        rfl
       refine take_ (i := 37) (N := some 175) (v := ?_) (a' := ?_) (fl_ 38 4) rfl rfl (take_ofW HT_.out HW_.out (by kernel_rfl)) (fun _ _ _ h => h) (Or.inl ⟨by rfl, ?_⟩) hHeld ?_ ?_
       rotate_left
       ·rintro w' ⟨s0, s1, s2, s3, s4, s5⟩
        go_simp
        with_reducible rfl
       rotate_left
       ·simp only [Act.put, sl0, sl1, sl2, i64_w, i32_w]
        rfl
       refine pure_ (i := 38) (N := some 176) (v := ?_) (a' := ?_) (fl_ 39 3) rfl rfl (any_of HT_.out (by kernel_rfl)) (fun _ _ _ h => h) (Or.inl ⟨by rfl, ?_⟩) ?_ ?_
       rotate_left
       ·intro w'
        go_simp
        with_reducible rfl
       rotate_left
       ·simp only [Act.put, sl0, sl1, sl2, i64_w, i32_w]
        rfl
       refine pure_ (i := 39) (N := some 177) (v := ?_) (a' := ?_) (fl_ 40 2) rfl rfl (any_of HT_.out (by kernel_rfl)) (fun _ _ _ h => h) (Or.inl ⟨by rfl, ?_⟩) ?_ ?_
       rotate_left
       ·intro w'
        go_simp
        with_reducible rfl
       rotate_left
       ·simp only [Act.put, sl0, sl1, sl2, i64_w, i32_w]
        rfl
       refine pure_ (i := 40) (N := some 178) (v := ?_) (a' := ?_) (fl_ 41 1) rfl rfl (any_of HT_.out (by kernel_rfl)) (fun _ _ _ h => h) (Or.inl ⟨by rfl, ?_⟩) ?_ ?_
       rotate_left
       ·intro w'
        go_simp
        with_reducible rfl
       rotate_left
       ·simp only [Act.put, sl0, sl1, sl2, i64_w, i32_w]
        rfl
       refine pure_ (i := 41) (N := some 179) (v := ?_) (a' := ?_) (fl_ 42 0) rfl rfl (any_of HT_.out (by kernel_rfl)) (fun _ _ _ h => h) (Or.inl ⟨by rfl, ?_⟩) ?_ ?_
       rotate_left
       ·intro w'
        go_simp
        with_reducible rfl
       rotate_left
       ·simp only [Act.put, sl0, sl1, sl2, i64_w, i32_w]
        rfl
       refine done_ (done_of HT_.out (by kernel_rfl)) ?_
       try go_wp2
       go_roundg k3
       case measure => have := HK1.out; have := HJ17.out; have := HK3.out; omega
       case rel => exact ⟨(y153), (wrap64 (x6_1 + 1)), (by first | rfl | (simp; done) | (simp [*]; done)), H', ⟨by have := HK1.out; have := HJ17.out; have := HK3.out; omega⟩, ⟨by (with_reducible repeat (first | apply Kd.R_alloc | apply Kd.R_drewN | apply Kd.R_drew)); exact Kd.R_mono HO_4.out (fun _ hk => trivial)⟩, ⟨by (with_reducible repeat (first | apply Kd.R_alloc | apply Kd.R_drewN | apply Kd.R_drew)); exact HO_5.out⟩, ⟨by repeat (first | (with_reducible first | exact HB.out | apply below_alloc | apply pw_below_drewN | apply below_drew1) | exact HB.out)⟩⟩
/-- THE ONE PURE STATEMENT of hypercubelaw8_LatticeSets: yours. -/
def hypercubelaw8_LatticeSets.Pure : Prop := ∀ (a0 : Int), (Lit.int .i64 a0).wf = true → ∃ k, hypercubelaw8_LatticeSets.f k a0 = some true
theorem hypercubelaw8_LatticeSets.walk (P : hypercubelaw8_LatticeSets.Pure) (a0 : Int) (w : World) (w0 : (Lit.int .i64 a0).wf = true) :
 Calls Try.prog 3 #[.int .i64 a0] w fun e w' => e = .returned (.bool true) ∧ Below w.heap.size w w' := by
 obtain ⟨k, h⟩ := P a0 w0
 refine (hypercubelaw8_LatticeSets.calls k a0 true w h rfl).mono ?_
 rintro e w' ⟨rfl, hd⟩
 exact ⟨rfl, hd⟩

end Go.Proofs.Ytlplaidcdocbmaa.PLatticeSets
