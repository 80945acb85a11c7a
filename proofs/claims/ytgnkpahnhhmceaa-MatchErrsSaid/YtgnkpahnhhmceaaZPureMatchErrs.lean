-- Cut by pack.py, a program of this session; not trusted: Lean checks it.
import Derived.Test.YtgnkpahnhhmceaaZPMatchErrsx2
import Derived.Test.YtgnkpahnhhmceaaZCore12
/- The pure statement under MatchErrs: whatever costs are handed in, both answer alike. -/
namespace Go.Proofs.Ytgnkpahnhhmceaa.Pure
open Go.RowKit Go.Proofs.Ytgnkpahnhhmceaa.PMatchErrs Go.Proofs.YtgnkpahnhhmceaaW.PrintWords Go.Proofs.YtgnkpahnhhmceaaW.PrintLast
set_option linter.unusedVariables false
set_option linter.unusedSimpArgs false
open Go.Proofs.Ytgnkpahnhhmceaa.Core (RowC within_f assign right pick pick_length costs costs_rows)
theorem me_len (c : List (List Int)) (hc : c.length ≤ 100) : (assign c).1.length < 9223372036854775807 := by
  unfold assign
  split
  · have := pick_length c 0
    show (pick c 0).length < _
    omega
  · simp
theorem me_j3 (L0 c : List (List Int)) (h0 : L0.length ≤ 100) (hc : c.length ≤ 100) (k : Nat) : hypercubelaw9_MatchErrs.j3 (k + 1) L0 c = some true := by
  simp only [hypercubelaw9_MatchErrs.j3]
  unfold match_Assign.f hypercuberef9_Assign.f hypercuberef1_Ints.f
  simp only [Option.bind_some, beq_self_eq_true, if_true]
  rw [if_pos (me_len c hc), if_pos (me_len L0 h0)]
  simp
theorem me_rd (c : List (List Int)) (i : Nat) : rd_L1 c (i : Int) = c.getD i [] := by simp [rd_L1]
theorem me_set (c : List (List Int)) (i j : Nat) (r : List Int) (hi : i < c.length) : (c.set i r).getD j [] = if j = i then r else c.getD j [] := by
  by_cases h : j = i
  · subst h
    simp [hi]
  · rw [if_neg h]
    simp [List.getD_eq_getElem?_getD, List.getElem?_set, Ne.symm h]
section
variable {L0 : List (List Int)} {x5 : Int} {n : Nat}
theorem me_l2 (hn : n ≤ 5) (b : Nat) (hb : b ≤ 13) (hnext : ∀ c : List (List Int), c.length = n → (∀ j, j < n → (c.getD j []).length = b + 1) → ∃ K, hypercubelaw9_MatchErrs.l1 K L0 x5 c = some true) :
    ∀ (d i : Nat) (c : List (List Int)), i + d = n → c.length = n → (∀ j, j < n → (c.getD j []).length = if j < i then b + 1 else b) → ∃ K, hypercubelaw9_MatchErrs.l2 K L0 x5 c (i : Int) = some true
  | 0, i, c, hi, hc, hl => by
    obtain ⟨K, h⟩ := hnext c hc (fun j hj => by rw [hl j hj, if_pos (by omega)])
    refine ⟨K + 1, ?_⟩
    simp only [hypercubelaw9_MatchErrs.l2]
    rw [if_neg (by omega)]
    exact h
  | d + 1, i, c, hi, hc, hl => by
    have hli := hl i (by omega)
    rw [if_neg (by omega)] at hli
    obtain ⟨K, h⟩ := me_l2 hn b hb hnext d (i + 1) (c.set i (c.getD i [] ++ [4])) (by omega) (by simpa using hc) (fun j hj => by
      rw [me_set c i j _ (by omega)]
      by_cases e : j = i
      · rw [if_pos e, List.length_append, hli, if_pos (by omega)]; rfl
      · rw [if_neg e, hl j hj]
        by_cases e2 : j < i
        · rw [if_pos e2, if_pos (by omega)]
        · rw [if_neg e2, if_neg (by omega)])
    have hi1 := Aside0.mk (show wrap64 ((i : Int) + 1) = ((i + 1 : Nat) : Int) by rw [Core.wrap_small _ (by omega) (by omega)]; omega)
    refine ⟨K + 1, ?_⟩
    simp only [hypercubelaw9_MatchErrs.l2]
    rw [if_pos (by omega), if_pos (by omega), me_rd, if_pos (by omega), Int.toNat_natCast, hi1.out]
    exact h
theorem me_l1 (h0 : L0.length ≤ 100) (hn0 : 1 ≤ n) (hn : n ≤ 5) : ∀ (d b : Nat), b + d = 13 → ∀ c : List (List Int), c.length = n → (∀ j, j < n → (c.getD j []).length = b) → ∃ K, hypercubelaw9_MatchErrs.l1 K L0 x5 c = some true
  | d, b, hbd, c, hc, hl => by
    obtain ⟨z, hz, hz0, hz1⟩ := within_f x5 3 (by decide) (by decide)
    have hz : hypercubelaw9_within.f x5 3 = some z := hz
    have hw := Aside0.mk (show wrap64 (11 + z) = 11 + z from Core.wrap_small _ (by omega) (by omega))
    have hl0 := hl 0 (by omega)
    have hr0 : rd_L1 c 0 = c.getD 0 [] := me_rd c 0
    by_cases hlt : (b : Int) < 11 + z
    · cases d with
      | zero => omega
      | succ d =>
        obtain ⟨K, h⟩ := me_l2 hn b (by omega) (fun c' hc' hl' => me_l1 h0 hn0 hn d (b + 1) (by omega) c' hc' hl') n 0 c (by omega) hc (fun j hj => by rw [hl j hj, if_neg (by omega)])
        refine ⟨K + 1, ?_⟩
        simp only [hypercubelaw9_MatchErrs.l1]
        rw [if_pos (by omega), hz, Option.bind_some, hr0, hw.out, if_pos (by omega)]
        exact h
    · refine ⟨1 + 1, ?_⟩
      simp only [hypercubelaw9_MatchErrs.l1]
      rw [if_pos (by omega), hz, Option.bind_some, hr0, hw.out, if_neg (by omega)]
      exact me_j3 L0 c h0 (by omega) 0
end
theorem me_end (L0 : List (List Int)) (h0 : L0.length ≤ 100) (x1 x2 : Int) (x3 : List Int) (x4 x5 : Int) (x13 : Int) (hx : ¬ x13 < (L0.length : Int)) : ∃ K, hypercubelaw9_MatchErrs.l0 K L0 x1 x2 x3 x4 x5 x13 = some true := by
  obtain ⟨t, ht, ht0, ht1⟩ := within_f x1 4 (by decide) (by decide)
  have ht : hypercubelaw9_within.f x1 4 = some t := ht
  obtain ⟨u, hu, hu0, hu1⟩ := within_f x4 5 (by decide) (by decide)
  have hu : hypercubelaw9_within.f x4 5 = some u := hu
  obtain ⟨v, hv, hv0, hv1⟩ := within_f x5 4 (by decide) (by decide)
  have hv : hypercubelaw9_within.f x5 4 = some v := hv
  obtain ⟨m, hm, hcm, hc5, hrows⟩ := costs_rows (wrap64 (1 + t)) x2 x3 9
  have hC : hypercubelaw9_Costs.f (wrap64 (1 + t)) x2 x3 9 = some (costs (wrap64 (1 + t)) x2 x3 9) := rfl
  generalize costs (wrap64 (1 + t)) x2 x3 9 = c at *
  have hlen : ∀ j, j < c.length → (c.getD j []).length = m := fun j hj => by
    have e : c.getD j [] = c[j] := by simp [hj]
    rw [e]
    exact (hrows _ (List.getElem_mem hj)).1
  obtain ⟨K, hK⟩ : ∃ K, 0 < c.length → hypercubelaw9_MatchErrs.l1 K L0 x5 c = some true := by
    by_cases hp : 0 < c.length
    · obtain ⟨K, h⟩ := me_l1 (x5 := x5) h0 (by omega) hc5 (13 - m) m (by omega) c rfl hlen
      exact ⟨K, fun _ => h⟩
    · exact ⟨0, fun h => absurd h hp⟩
  have hK := fun hp => at_rounds (fun k => (hypercubelaw9_MatchErrs.mono_l k).2.2.1 _ _ _) (show K ≤ K + 1 by omega) (hK hp)
  refine ⟨K + 1 + 1, ?_⟩
  have hj := fun c' hc' => me_j3 L0 c' h0 hc' K
  generalize K + 1 = k at *
  simp only [hypercubelaw9_MatchErrs.l0]
  rw [if_neg hx, ht, Option.bind_some, hC, Option.bind_some]
  by_cases hp : 0 < c.length
  · have hpi : (c.length : Int) > 0 := by omega
    have hl0 := hlen 0 hp
    have hll := hlen (c.length - 1) (by omega)
    have hr0 : rd_L1 c 0 = c.getD 0 [] := me_rd c 0
    have hw := Aside0.mk (show wrap64 ((c.length : Int) - 1) = ((c.length - 1 : Nat) : Int) by rw [Core.wrap_small _ (by omega) (by omega)]; omega)
    have hrl : rd_L1 c ((c.length - 1 : Nat) : Int) = c.getD (c.length - 1) [] := me_rd c (c.length - 1)
    rw [if_pos hpi, hu, Option.bind_some]
    by_cases u0 : u = 0
    · rw [if_pos u0, if_pos hpi, if_pos (by rw [hr0]; omega)]
      exact hj _ (by simp; omega)
    rw [if_neg u0]
    by_cases u1 : u = 1
    · rw [if_pos u1, hw.out, if_pos (by omega), if_pos (by omega), Option.bind_some, hv, Option.bind_some, if_pos hv0, if_pos (by simpa using hv1), hrl, if_pos (by omega)]
      exact hj _ (by simp; omega)
    rw [if_neg u1]
    by_cases u2 : u = 2
    · rw [if_pos u2, if_pos hpi, if_pos (by omega)]
      exact hj _ (by simp; omega)
    rw [if_neg u2]
    by_cases u3 : u = 3
    · rw [if_pos u3]
      exact hK hp
    rw [if_neg u3]
    exact hj _ (by omega)
  · rw [if_neg (by omega)]
    exact hj _ (by omega)
theorem me_l0 (L0 : List (List Int)) (h0 : L0.length ≤ 100) (x1 x2 : Int) (x3 : List Int) (x4 x5 : Int) : ∀ (d i : Nat), i + d = L0.length → ∃ K, hypercubelaw9_MatchErrs.l0 K L0 x1 x2 x3 x4 x5 (i : Int) = some true
  | 0, i, hi => me_end L0 h0 x1 x2 x3 x4 x5 (i : Int) (by omega)
  | d + 1, i, hi => by
    obtain ⟨K, h⟩ := me_l0 L0 h0 x1 x2 x3 x4 x5 d (i + 1) (by omega)
    have hi1 := Aside0.mk (show wrap64 ((i : Int) + 1) = ((i + 1 : Nat) : Int) by rw [Core.wrap_small _ (by omega) (by omega)]; omega)
    refine ⟨K + 1, ?_⟩
    simp only [hypercubelaw9_MatchErrs.l0]
    rw [if_pos (by omega), if_pos (by omega)]
    by_cases hb : ((rd_L1 L0 (i : Int)).length : Int) > 20
    · rw [if_pos hb]
    · rw [if_neg hb, hi1.out]
      exact h
theorem MatchErrs (L0 : List (List Int)) (a1 a2 : Int) (l3 : List Int) (a4 a5 : Int) : ∃ k, hypercubelaw9_MatchErrs.f k L0 a1 a2 l3 a4 a5 = some true := by
  by_cases hb : (L0.length : Int) > 20
  · refine ⟨0, ?_⟩
    unfold hypercubelaw9_MatchErrs.f hypercubelaw9_known.f
    rw [Option.bind_some, if_pos rfl, if_pos hb]
  · obtain ⟨K, h⟩ := me_l0 L0 (by omega) a1 a2 l3 a4 a5 L0.length 0 (by omega)
    refine ⟨K, ?_⟩
    unfold hypercubelaw9_MatchErrs.f hypercubelaw9_known.f
    rw [Option.bind_some, if_pos rfl, if_neg hb]
    exact h
end Go.Proofs.Ytgnkpahnhhmceaa.Pure
