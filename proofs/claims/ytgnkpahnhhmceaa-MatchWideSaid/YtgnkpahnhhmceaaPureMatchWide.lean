/- The pure statement under MatchWide: twelve rows and columns may be, at the dearest. -/
import Derived.Test.YtgnkpahnhhmceaaPMatchWidex2
import Derived.Test.YtgnkpahnhhmceaaCore12
namespace Go.Proofs.Ytgnkpahnhhmceaa.Pure
open Go.RowKit Go.Proofs.Ytgnkpahnhhmceaa.PMatchWide Go.Proofs.YtgnkpahnhhmceaaW.PrintWords Go.Proofs.YtgnkpahnhhmceaaW.PrintLast
set_option linter.unusedVariables false
set_option linter.unusedSimpArgs false
open Go.Proofs.Ytgnkpahnhhmceaa.Core (RowC right_of within_f assign right pick pick_length)

section
variable {n : Nat} {x1 : List Int}
theorem mw_fin (hn0 : 9 ≤ n) (hn : n ≤ 13) (c : List (List Int)) (i : Int) (hc : c.length = n) (hr : ∀ r ∈ c, RowC n r) : ∃ K, hypercubelaw9_MatchWide.j3 K x1 (n : Int) c i false = some true := by
  refine ⟨1, ?_⟩
  have hl : (assign c).1.length < 9223372036854775807 := by
    unfold assign
    split
    · have := pick_length c 0
      show (pick c 0).length < _
      omega
    · simp
  have h2 : (assign c).2.2 = decide ((n : Int) ≤ 12) := by
    unfold assign
    by_cases h : n ≤ 12
    · rw [if_pos (right_of (m := n) (by omega) h (by omega) hr), decide_eq_true (by omega)]
    · have : right c = false := by
        unfold right
        rw [decide_eq_false (by omega)]
        rfl
      rw [this, decide_eq_false (by omega)]
      rfl
  simp only [hypercubelaw9_MatchWide.j3]
  unfold match_Assign.f hypercuberef9_Assign.f hypercuberef1_Ints.f
  simp only [Option.bind_some, Bool.false_eq_true, if_false, beq_self_eq_true, if_true]
  rw [h2, if_pos hl]
  simp

theorem mw_l2 (hn0 : 9 ≤ n) (hn : n ≤ 13) : ∀ (d i : Nat) (c : List (List Int)), i + d = 12 → c.length = n → (∀ r ∈ c, RowC n r) → ∃ K, hypercubelaw9_MatchWide.l2 K x1 (n : Int) c (i : Int) = some true := by
  intro d
  induction d with
  | zero =>
    intro i c hi hc hr
    obtain ⟨K, h⟩ := mw_fin (x1 := x1) hn0 hn c (i : Int) hc hr
    refine ⟨K + 1, ?_⟩
    simp only [hypercubelaw9_MatchWide.l2]
    rw [decide_eq_false (by omega)]
    split <;> exact h
  | succ d ih =>
    intro i c hi hc hr
    by_cases hlt : i < x1.length
    · have hi1 := Aside0.mk (show wrap64 ((i : Int) + 1) = ((i + 1 : Nat) : Int) by rw [Core.wrap_small _ (by omega) (by omega)]; omega)
      obtain ⟨y, hy, hy0, hy1⟩ := within_f (rd x1 (i : Int)) (n : Int) (by omega) (by omega)
      obtain ⟨z, hz, hz0, hz1⟩ := within_f (wrap64 (Int.tdiv (rd x1 (i : Int)) (n : Int))) 9 (by decide) (by decide)
      have hq0 : 0 ≤ Int.tmod (i : Int) (n : Int) := Int.tmod_nonneg _ (by omega)
      have hq1 : Int.tmod (i : Int) (n : Int) < (n : Int) := Int.tmod_lt_of_pos _ (by omega)
      obtain ⟨q, hq⟩ := Int.eq_ofNat_of_zero_le hq0
      have hqn : q < n := by omega
      have hrow : RowC n (rd_L1 c (q : Int)) := by
        have e : rd_L1 c (q : Int) = c[q]'(by omega) := by simp [rd_L1, show q < c.length by omega]
        rw [e]
        exact hr _ (List.getElem_mem _)
      obtain ⟨K, h⟩ := ih (i + 1) (c.set q ((rd_L1 c (q : Int)).set y.toNat z)) (by omega) (by simpa using hc) (fun r hr' => by
        rcases List.mem_or_eq_of_mem_set hr' with h | h
        · exact hr r h
        · rw [h]
          refine ⟨by simpa using hrow.1, fun v hv => ?_⟩
          rcases List.mem_or_eq_of_mem_set hv with h | h
          · exact hrow.2 v h
          · omega)
      refine ⟨K + 2, ?_⟩
      simp only [hypercubelaw9_MatchWide.l2, hypercubelaw9_MatchWide.j3]
      rw [if_pos (by omega), decide_eq_true (by omega)]
      simp only [if_true]
      rw [hq]
      unfold hypercubelaw9_within.f
      rw [if_neg (by omega), if_pos (by omega), if_pos (by omega), if_pos (by omega), if_pos (by omega), hy]
      simp only [Option.bind_some]
      rw [hz]
      simp only [Option.bind_some]
      rw [if_pos hy0, if_pos (by rw [hrow.1]; exact hy1), hi1.out]
      simp only [Int.toNat_natCast]
      exact h
    · obtain ⟨K, h⟩ := mw_fin (x1 := x1) hn0 hn c (i : Int) hc hr
      refine ⟨K + 1, ?_⟩
      simp only [hypercubelaw9_MatchWide.l2]
      rw [if_neg (by omega)]
      exact h

theorem mw_l1 (hn0 : 9 ≤ n) (hn : n ≤ 13) {i : Nat} (hi : i < n) {acc : List (List Int)} (ha : acc.length = i) (hnext : ∀ r, RowC n r → ∃ K, hypercubelaw9_MatchWide.l0 K x1 (n : Int) (acc ++ [r]) ((i + 1 : Nat) : Int) = some true) :
    ∀ (d k : Nat) (r : List Int), k + d = n → RowC k r → ∃ K, hypercubelaw9_MatchWide.l1 K x1 (n : Int) acc (i : Int) r (k : Int) = some true := by
  have hi1 := Aside0.mk (show wrap64 ((i : Int) + 1) = ((i + 1 : Nat) : Int) by rw [Core.wrap_small _ (by omega) (by omega)]; omega)
  intro d
  induction d with
  | zero =>
    intro k r hk hr
    obtain rfl : k = n := by omega
    obtain ⟨K, h⟩ := hnext r hr
    refine ⟨K + 1, ?_⟩
    simp only [hypercubelaw9_MatchWide.l1]
    rw [if_neg (by omega), if_pos (by omega), hi1.out]
    exact h
  | succ d ih =>
    intro k r hk hr
    obtain ⟨K, h⟩ := ih (k + 1) (r ++ [1000000]) (by omega) ⟨by simp [hr.1], fun v hv => by
      rcases List.mem_append.1 hv with hv | hv
      · exact hr.2 v hv
      · have : v = 1000000 := by simpa using hv
        omega⟩
    have hk1 := Aside0.mk (show wrap64 ((k : Int) + 1) = ((k + 1 : Nat) : Int) by rw [Core.wrap_small _ (by omega) (by omega)]; omega)
    refine ⟨K + 1, ?_⟩
    simp only [hypercubelaw9_MatchWide.l1]
    rw [if_pos (by omega), if_pos (by rw [hr.1]; omega), hk1.out]
    exact h

theorem mw_l0 (hn0 : 9 ≤ n) (hn : n ≤ 13) : ∀ (d i : Nat) (acc : List (List Int)), i + d = n → acc.length = i → (∀ r ∈ acc, RowC n r) → ∃ K, hypercubelaw9_MatchWide.l0 K x1 (n : Int) acc (i : Int) = some true := by
  intro d
  induction d with
  | zero =>
    intro i acc hi ha hr
    obtain ⟨K, h⟩ := mw_l2 (x1 := x1) hn0 hn 12 0 acc (by omega) (by omega) hr
    refine ⟨K + 1, ?_⟩
    simp only [hypercubelaw9_MatchWide.l0]
    rw [if_neg (by omega)]
    exact h
  | succ d ih =>
    intro i acc hi ha hr
    obtain ⟨K, h⟩ := mw_l1 (x1 := x1) hn0 hn (i := i) (by omega) ha (fun r hr1 => ih (i + 1) (acc ++ [r]) (by omega) (by simp [ha]) (fun r' hr' => by
      rcases List.mem_append.1 hr' with h | h
      · exact hr r' h
      · have : r' = r := by simpa using h
        rw [this]; exact hr1)) n 0 [] (by omega) ⟨rfl, fun v hv => by simp at hv⟩
    refine ⟨K + 1, ?_⟩
    simp only [hypercubelaw9_MatchWide.l0]
    rw [if_pos (by omega)]
    exact h
end
theorem MatchWide : hypercubelaw9_MatchWide.Pure := by
  intro a0 l1 _ _ _ _
  obtain ⟨p, hp, hp0, hp1⟩ := within_f a0 5 (by decide) (by decide)
  obtain ⟨p', rfl⟩ := Int.eq_ofNat_of_zero_le hp0
  have hs := Aside0.mk (show wrap64 (9 + (p' : Int)) = ((9 + p' : Nat) : Int) by rw [Core.wrap_small _ (by omega) (by omega)]; omega)
  obtain ⟨K, h⟩ := mw_l0 (n := 9 + p') (x1 := l1) (by omega) (by omega) (9 + p') 0 [] (by omega) rfl (fun r hr => by simp at hr)
  refine ⟨K, ?_⟩
  unfold hypercubelaw9_MatchWide.f hypercubelaw9_known.f hypercubelaw9_within.f
  simp only [Option.bind_some, if_true]
  rw [hp]
  simp only [Option.bind_some]
  rw [hs.out]
  exact h
end Go.Proofs.Ytgnkpahnhhmceaa.Pure
