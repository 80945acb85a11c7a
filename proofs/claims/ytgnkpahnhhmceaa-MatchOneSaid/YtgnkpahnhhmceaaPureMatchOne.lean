/- The pure statement under MatchOne: of one row the first of the least goes. -/
import Derived.Test.YtgnkpahnhhmceaaPMatchOnex1
import Derived.Test.YtgnkpahnhhmceaaCore12
namespace Go.Proofs.Ytgnkpahnhhmceaa.Pure
open Go.RowKit Go.Proofs.Ytgnkpahnhhmceaa.PMatchOne Go.Proofs.YtgnkpahnhhmceaaW.PrintWords Go.Proofs.YtgnkpahnhhmceaaW.PrintLast
open Go.Proofs.Ytgnkpahnhhmceaa.Core (RowC right_of within_f assign right pick best GoodRow find_hit pick_cons best_le_at feas frees_zero hit rd_nat HOPE)
set_option linter.unusedVariables false
set_option linter.unusedSimpArgs false

structure Inv (i b : Nat) (r : List Int) : Prop where
  len : r.length = i
  small : ∀ v ∈ r, 0 ≤ v ∧ v ≤ 1000000
  zero : i = 0 → b = 0
  lt : 0 < i → b < i
  le : ∀ j, j < i → r.getD b 0 ≤ r.getD j 0
  first : ∀ j, j < b → r.getD b 0 < r.getD j 0

theorem getD_mem {r : List Int} (hs : ∀ v ∈ r, 0 ≤ v ∧ v ≤ 1000000) (k : Nat) : 0 ≤ r.getD k 0 ∧ r.getD k 0 ≤ 1000000 := by
  by_cases hk : k < r.length
  · have := hs _ (List.getElem_mem hk)
    simpa [hk] using this
  · rw [List.getD_eq_getElem?_getD, List.getElem?_eq_none (by omega)]
    simp

theorem mo_fin {x0 r : List Int} {i b : Nat} {x5 : Int} (hi : i ≤ 12) (h : Inv i b r) : ∃ K, hypercubelaw9_MatchOne.j1 K x0 r (b : Int) x5 false = some true := by
  refine ⟨1, ?_⟩
  have hl := h.len
  simp only [hypercubelaw9_MatchOne.j1, Bool.false_eq_true, if_false]
  unfold match_Assign.f
  by_cases h0 : i = 0
  · have e : r = [] := List.length_eq_zero_iff.1 (by omega)
    subst e
    have hr : assign [[]] = ([], 0, false) := by decide +kernel
    rw [hr]
    simp
  · have hr : right [r] = true := right_of (m := i) (by simp) hi (by simp; omega) (fun x hx => by
      have : x = r := by simpa using hx
      rw [this]; exact ⟨hl, h.small⟩)
    have hg : GoodRow i r := ⟨hl, fun k => getD_mem h.small k⟩
    have hlt : best [r] 0 < HOPE := feas i [r] 0 (by simp) (fun x hx => by
      have : x = r := by simpa using hx
      rw [this]; exact hg) (by rw [frees_zero]; simp; omega)
    obtain ⟨k, hfk, hk, _, he, hmin⟩ := find_hit (m := i) hg hlt
    have hb0 : ∀ s, best [] s = 0 := fun s => by simp [best]
    have hbi := h.lt (by omega)
    have e1 : best [r] 0 = r.getD k 0 := by rw [← he, hb0]; omega
    have e2 : best [r] 0 ≤ r.getD b 0 := by
      have := best_le_at (m := i) [] 0 b hg hbi (by simp)
      rw [hb0] at this
      omega
    have e3 := h.le k hk
    have e4 : best [r] 0 = r.getD b 0 := by omega
    have hkb : k = b := by
      rcases Nat.lt_trichotomy k b with h1 | h1 | h1
      · have := h.first k h1
        omega
      · exact h1
      · have h2 := hmin b h1
        have : hit r (best []) (best [r] 0) 0 b = true := by
          simp only [hit, Bool.and_eq_true]
          exact ⟨by simp, decide_eq_true (by rw [hb0]; omega)⟩
        rw [this] at h2
        cases h2
    subst hkb
    have hp : pick [r] 0 = [(k : Int)] := by rw [pick_cons (m := i) hg hfk]; simp [pick]
    have ha : assign [r] = ([(k : Int)], r.getD k 0, true) := by
      unfold assign
      rw [if_pos hr, hp, e1]
    rw [ha]
    simp only [Option.bind_some]
    rw [if_neg (by omega)]
    simp only [if_true]
    rw [if_pos (by simp), if_pos (by simp), if_pos (by simp [rd]), if_pos (by omega), if_pos (by omega), rd_nat]
    simp

theorem mo_l0 {x0 : List Int} : ∀ (d i b : Nat) (r : List Int), i + d = 12 → Inv i b r → ∃ K, hypercubelaw9_MatchOne.l0 K x0 r (b : Int) (i : Int) = some true := by
  intro d
  induction d with
  | zero =>
    intro i b r hi h
    obtain ⟨K, hK⟩ := mo_fin (x0 := x0) (x5 := (i : Int)) (by omega) h
    refine ⟨K + 1, ?_⟩
    simp only [hypercubelaw9_MatchOne.l0]
    rw [decide_eq_false (by omega)]
    split <;> exact hK
  | succ d ih =>
    intro i b r hi h
    by_cases hlt : i < x0.length
    · have hi1 := Aside0.mk (show wrap64 ((i : Int) + 1) = ((i + 1 : Nat) : Int) by rw [Core.wrap_small _ (by omega) (by omega)]; omega)
      obtain ⟨z, hz, hz0, hz1⟩ := within_f (rd x0 (i : Int)) 20 (by decide) (by decide)
      have hl := h.len
      have hgd : ∀ j, (r ++ [z]).getD j 0 = if j < i then r.getD j 0 else if j = i then z else 0 := fun j => by
        rw [List.getD_eq_getElem?_getD, List.getElem?_append, List.getD_eq_getElem?_getD]
        by_cases h1 : j < i
        · rw [if_pos (by omega), if_pos h1]
        · rw [if_neg (by omega), if_neg h1]
          by_cases h2 : j = i
          · rw [if_pos h2, h2, hl]; simp
          · rw [if_neg h2, List.getElem?_eq_none (by simp; omega)]; rfl
      have hsm : ∀ v ∈ r ++ [z], 0 ≤ v ∧ v ≤ 1000000 := fun v hv => by
        rcases List.mem_append.1 hv with hv | hv
        · exact h.small v hv
        · have : v = z := by simpa using hv
          omega
      have hbz : b ≤ i := by
        rcases Nat.eq_zero_or_pos i with h0 | h0
        · have := h.zero h0; omega
        · have := h.lt h0; omega
      by_cases hc : (r ++ [z]).getD i 0 < (r ++ [z]).getD b 0
      · have hz' : z < r.getD b 0 ∧ b < i := by
          rw [hgd, hgd, if_neg (by omega), if_pos rfl] at hc
          by_cases h1 : b < i
          · rw [if_pos h1] at hc; exact ⟨hc, h1⟩
          · rw [if_neg h1, if_pos (by omega)] at hc; omega
        have hinv : Inv (i + 1) i (r ++ [z]) := by
          refine ⟨by simp [hl], hsm, fun e => by omega, fun _ => by omega, fun j hj => ?_, fun j hj => ?_⟩
          · rw [hgd, hgd, if_neg (by omega), if_pos rfl]
            by_cases h1 : j < i
            · rw [if_pos h1]
              have := h.le j h1
              omega
            · rw [if_neg h1, if_pos (by omega)]; omega
          · rw [hgd, hgd, if_neg (by omega), if_pos rfl, if_pos hj]
            have := h.le j hj
            omega
        obtain ⟨K, hK⟩ := ih (i + 1) i (r ++ [z]) (by omega) hinv
        refine ⟨K + 2, ?_⟩
        simp only [hypercubelaw9_MatchOne.l0, hypercubelaw9_MatchOne.j1]
        unfold hypercubelaw9_within.f
        rw [if_pos (by omega), decide_eq_true (by omega)]
        simp only [if_true]
        rw [if_pos (by omega), if_pos (by omega), hz]
        simp only [Option.bind_some]
        rw [if_pos (by omega)]
        have hlen : ((r ++ [z]).length : Int) = (i : Int) + 1 := by simp [hl]
        rw [hlen, if_pos (by omega), if_pos (by omega), if_pos (by omega), rd_nat, rd_nat, if_pos hc, hi1.out]
        exact hK
      · have hinv : Inv (i + 1) b (r ++ [z]) := by
          refine ⟨by simp [hl], hsm, fun e => by omega, fun _ => by omega, fun j hj => ?_, fun j hj => ?_⟩
          · by_cases h2 : j = i
            · rw [h2]; omega
            · have h4 : j < i := by omega
              have h3 := h.le j h4
              have hb' := h.lt (by omega)
              rw [hgd, hgd, if_pos hb', if_pos h4]
              exact h3
          · have h3 := h.first j hj
            have hb' := h.lt (by omega)
            rw [hgd, hgd, if_pos hb', if_pos (by omega)]
            exact h3
        obtain ⟨K, hK⟩ := ih (i + 1) b (r ++ [z]) (by omega) hinv
        refine ⟨K + 2, ?_⟩
        simp only [hypercubelaw9_MatchOne.l0, hypercubelaw9_MatchOne.j1]
        unfold hypercubelaw9_within.f
        rw [if_pos (by omega), decide_eq_true (by omega)]
        simp only [if_true]
        rw [if_pos (by omega), if_pos (by omega), hz]
        simp only [Option.bind_some]
        rw [if_pos (by omega)]
        have hlen : ((r ++ [z]).length : Int) = (i : Int) + 1 := by simp [hl]
        rw [hlen, if_pos (by omega), if_pos (by omega), if_pos (by omega), rd_nat, rd_nat, if_neg hc, hi1.out]
        exact hK
    · obtain ⟨K, hK⟩ := mo_fin (x0 := x0) (x5 := (i : Int)) (by omega) h
      refine ⟨K + 1, ?_⟩
      simp only [hypercubelaw9_MatchOne.l0]
      rw [if_neg (by omega)]
      exact hK

theorem MatchOne : hypercubelaw9_MatchOne.Pure := by
  intro l0 _ _ _
  obtain ⟨K, h⟩ := mo_l0 (x0 := l0) 12 0 0 [] (by omega) ⟨rfl, fun v hv => by simp at hv, fun _ => rfl, fun h => by omega, fun j hj => by omega, fun j hj => by omega⟩
  refine ⟨K, ?_⟩
  unfold hypercubelaw9_MatchOne.f hypercubelaw9_known.f
  simp only [Option.bind_some, if_true]
  exact h
end Go.Proofs.Ytgnkpahnhhmceaa.Pure
