/- The pure statement under MatchSquare: of costs that are 0 along an order, and more elsewhere, the order goes. -/
import Derived.Test.YtgnkpahnhhmceaaPMatchSquarex2
import Derived.Test.YtgnkpahnhhmceaaCore13
namespace Go.Proofs.Ytgnkpahnhhmceaa.Pure
open Go.RowKit Go.Proofs.Ytgnkpahnhhmceaa.PMatchSquare Go.Proofs.YtgnkpahnhhmceaaW.PrintWords Go.Proofs.YtgnkpahnhhmceaaW.PrintLast
open Go.Proofs.Ytgnkpahnhhmceaa.Core (RowC right_of within_f assign right pick best GoodRow feas frees_zero rd_nat HOPE Per per_swap per_range front front_fits Fits of_fits tot tot_drop tot_bound best_le_tot pick_fits getD_set best_range)
set_option linter.unusedVariables false
set_option linter.unusedSimpArgs false

/-- A row of which the first p are there: 0 where the order goes, more elsewhere. -/
def Sq (t : List Int) (i p : Nat) (r : List Int) : Prop := r.length = p ∧ ∀ j, j < p → 0 ≤ r.getD j 0 ∧ r.getD j 0 ≤ 100 ∧ (r.getD j 0 = 0 ↔ t.getD i 0 = (j : Int))
structure Inv (k : Nat) (t : List Int) (i p : Nat) (x : List (List Int)) : Prop where
  len : x.length = k
  done : ∀ i', i' < i → Sq t i' k (x.getD i' [])
  cur : Sq t i p (x.getD i [])
  rest : ∀ i', i < i' → x.getD i' [] = []

theorem getL_set (x : List (List Int)) (a i : Nat) (v : List Int) (h : a < x.length) : (x.set a v).getD i [] = if a = i then v else x.getD i [] := by
  rw [List.getD_eq_getElem?_getD, List.getElem?_set]
  by_cases e : a = i
  · rw [if_pos e, if_pos e, if_pos h]; rfl
  · rw [if_neg e, if_neg e, List.getD_eq_getElem?_getD]

theorem inv_put {k : Nat} {t : List Int} {i p : Nat} {x : List (List Int)} (h : Inv k t i p x) (hi : i < k) (v : Int) (h0 : 0 ≤ v) (h1 : v ≤ 100) (hv : v = 0 ↔ t.getD i 0 = (p : Int)) : Inv k t i (p + 1) (x.set i (x.getD i [] ++ [v])) := by
  have hl := h.len
  refine ⟨by simpa using hl, fun i' h' => ?_, ?_, fun i' h' => ?_⟩
  · rw [getL_set _ _ _ _ (by omega), if_neg (by omega)]; exact h.done i' h'
  · rw [getL_set _ _ _ _ (by omega), if_pos rfl]
    obtain ⟨hc, hc2⟩ := h.cur
    refine ⟨by rw [List.length_append, hc]; rfl, fun j hj => ?_⟩
    have hg : (x.getD i [] ++ [v]).getD j 0 = if j < p then (x.getD i []).getD j 0 else v := by
      rw [List.getD_eq_getElem?_getD, List.getElem?_append, hc]
      by_cases h2 : j < p
      · rw [if_pos h2, if_pos h2, ← List.getD_eq_getElem?_getD]
      · rw [if_neg h2, if_neg h2, show j - p = 0 by omega]; rfl
    rw [hg]
    by_cases h2 : j < p
    · rw [if_pos h2]; exact hc2 j h2
    · rw [if_neg h2]
      obtain rfl : j = p := by omega
      exact ⟨h0, h1, hv⟩
  · rw [getL_set _ _ _ _ (by omega), if_neg (by omega)]; exact h.rest i' h'

theorem tot_zero {m : Nat} {c : List (List Int)} {ks : List Nat} (hg : ∀ r ∈ c, GoodRow m r) (hk : ks.length = c.length) (h : tot c ks = 0) : ∀ i, i ≤ c.length → tot (c.drop i) (ks.drop i) = 0
  | 0, _ => by simpa using h
  | i + 1, hi => by
    have ih := tot_zero hg hk h i (by omega)
    rw [tot_drop (by omega) hk] at ih
    have h1 := (tot_bound (m := m) (c.drop (i + 1)) (ks.drop (i + 1)) (fun r hr => hg r (List.mem_of_mem_drop hr))).1
    have h2 : GoodRow m (c.getD i []) := by
      have : c.getD i [] = c[i]'(by omega) := by simp [show i < c.length by omega]
      rw [this]; exact hg _ (List.getElem_mem _)
    have h3 := (h2.2 (ks.getD i 0)).1
    omega

theorem sq_fin {k : Nat} {t : List Int} {x : List (List Int)} (hk : k ≤ 8) (ht : Per k t) (hl : x.length = k) (h : ∀ i, i < k → Sq t i k (x.getD i [])) : assign x = (t, 0, true) := by
  have hmem : ∀ r ∈ x, ∃ i, i < k ∧ r = x.getD i [] := fun r hr => by
    obtain ⟨i, hi, rfl⟩ := List.getElem_of_mem hr
    exact ⟨i, by omega, by simp [hi]⟩
  have hg : ∀ r ∈ x, GoodRow k r := fun r hr => by
    obtain ⟨i, hi, rfl⟩ := hmem r hr
    obtain ⟨h1, h2⟩ := h i hi
    refine ⟨h1, fun j => ?_⟩
    by_cases hj : j < k
    · have := h2 j hj; omega
    · rw [List.getD_eq_getElem?_getD (l := x.getD i []), List.getElem?_eq_none (by omega)]
      simp
  have hr : right x = true := right_of (m := k) (by omega) (by omega) (by omega) (fun r hr => by
    have h1 := hg r hr
    refine ⟨h1.1, fun v hv => ?_⟩
    obtain ⟨j, hj, rfl⟩ := List.getElem_of_mem hv
    have := h1.2 j
    simpa [hj] using this)
  have hfe : best x 0 < HOPE := feas k x 0 (by omega) hg (by rw [frees_zero]; omega)
  have hfits := front_fits (c := x) ht (Nat.le_refl k) hl
  have hfl : (front k t).length = x.length := by simp [front, hl]
  have hz : ∀ d i, i + d = k → tot (x.drop i) ((front k t).drop i) = 0 := by
    intro d
    induction d with
    | zero =>
      intro i hi
      rw [List.drop_eq_nil_of_le (by omega), List.drop_eq_nil_of_le (by omega)]
      rfl
    | succ d ih =>
      intro i hi
      rw [tot_drop (by omega) hfl, ih (i + 1) (by omega)]
      have hf : (front k t).getD i 0 = (t.getD i 0).toNat := by simp [front, show i < k by omega]
      have htb := ht.2.1 i (by omega)
      have := (h i (by omega)).2 (t.getD i 0).toNat (by omega)
      rw [hf]
      have h2 := this.2.2.2 (by omega)
      omega
  have hb0 : best x 0 ≤ 0 := by
    have h1 := best_le_tot k x 0 _ hg hfits
    have h2 := hz k 0 (by omega)
    simp only [List.drop_zero] at h2
    omega
  have hb1 := (best_range (by omega : x.length ≤ 12) hg 0).1
  have hb : best x 0 = 0 := by omega
  obtain ⟨ks, hks, hfit, htot⟩ := pick_fits k x 0 (by omega) hg hfe
  obtain ⟨hkl, hnd, hkm⟩ := of_fits k x 0 ks hfit
  have hpick : pick x 0 = t := by
    rw [hks]
    apply List.ext_getElem (by simp [hkl, hl, ht.1])
    intro i h1 h2
    have hi : i < k := by simp at h1; omega
    have hik : i < ks.length := by omega
    have hzi := tot_zero hg hkl (by omega) i (by omega)
    rw [tot_drop (by omega) hkl, tot_zero hg hkl (by omega) (i + 1) (by omega)] at hzi
    have e : ks.getD i 0 = ks[i] := by simp [hik]
    have hm : ks[i] < k := (hkm _ (List.getElem_mem hik)).1
    rw [e] at hzi
    have := ((h i hi).2 ks[i] hm).2.2.1 (by omega)
    have e2 : t.getD i 0 = t[i] := by simp [h2]
    simp
    omega
  unfold assign
  rw [if_pos hr, hpick, hb]

section
variable {more : List Int} {k : Nat} {t : List Int}
theorem ms_l3 (hk : k ≤ 8) (hk0 : 0 < k) (ht : Per k t) {i : Nat} (hi : i < k) (hnext : ∀ x, Inv k t (i + 1) 0 x → ∃ K, hypercubelaw9_MatchSquare.l2 K more (k : Int) t x ((i + 1 : Nat) : Int) = some true) :
    ∀ (d p : Nat) (x : List (List Int)), p + d = k → Inv k t i p x → ∃ K, hypercubelaw9_MatchSquare.l3 K more (k : Int) t x (i : Int) (p : Int) = some true := by
  have hi1 := Aside0.mk (show wrap64 ((i : Int) + 1) = ((i + 1 : Nat) : Int) by rw [Core.wrap_small _ (by omega) (by omega)]; omega)
  intro d
  induction d with
  | zero =>
    intro p x hp h
    obtain rfl : p = k := by omega
    obtain ⟨K, hK⟩ := hnext x ⟨h.len, fun i' h' => by
        by_cases e : i' = i
        · rw [e]; exact h.cur
        · exact h.done i' (by omega), by rw [h.rest (i + 1) (by omega)]; exact ⟨rfl, fun j hj => by omega⟩, fun i' h' => h.rest i' (by omega)⟩
    refine ⟨K + 1, ?_⟩
    simp only [hypercubelaw9_MatchSquare.l3]
    rw [if_neg (by omega), hi1.out]
    exact hK
  | succ d ih =>
    intro p x hp h
    have hp1 := Aside0.mk (show wrap64 ((p : Int) + 1) = ((p + 1 : Nat) : Int) by rw [Core.wrap_small _ (by omega) (by omega)]; omega)
    have htl := ht.1
    have hxl := h.len
    have hrow : (x.getD i []).length = p := h.cur.1
    have eL : rd_L1 x (i : Int) = x.getD i [] := by simp [rd_L1]
    obtain ⟨q, hq⟩ : ∃ q, wrap64 ((wrap64 ((i : Int) * (k : Int))) + (p : Int)) = q := ⟨_, rfl⟩
    have hq0 : 0 ≤ q := by
      have hb : i * k ≤ 8 * 8 := Nat.mul_le_mul (by omega) hk
      have e : (i : Int) * (k : Int) = ((i * k : Nat) : Int) := by simp
      rw [e] at hq
      generalize i * k = n at hq hb
      rw [Core.wrap_small (n : Int) (by omega) (by omega), Core.wrap_small _ (by omega) (by omega)] at hq
      omega
    by_cases hlt : q < (more.length : Int)
    · obtain ⟨z, hz, hz0, hz1⟩ := within_f (rd more q) 99 (by decide) (by decide)
      have hw := Aside0.mk (show wrap64 (1 + z) = 1 + z from Core.wrap_small _ (by omega) (by omega))
      by_cases he : t.getD i 0 = (p : Int)
      · obtain ⟨K, hK⟩ := ih (p + 1) _ (by omega) (inv_put h hi 0 (by omega) (by omega) ⟨fun _ => he, fun _ => rfl⟩)
        refine ⟨K + 1, ?_⟩
        simp only [hypercubelaw9_MatchSquare.l3]
        unfold PMatchSquare.hypercubelaw9_within.f
        rw [if_pos (by omega), hq, if_pos hlt, if_pos hq0, hz]
        simp only [Option.bind_some]
        rw [rd_nat t, if_pos (by omega), if_pos (by omega), if_pos he, if_pos (by omega), eL, if_pos (by omega), hp1.out, Int.toNat_natCast]
        exact hK
      · obtain ⟨K, hK⟩ := ih (p + 1) _ (by omega) (inv_put h hi (1 + z) (by omega) (by omega) ⟨fun e => by omega, fun e => absurd e he⟩)
        refine ⟨K + 1, ?_⟩
        simp only [hypercubelaw9_MatchSquare.l3]
        unfold PMatchSquare.hypercubelaw9_within.f
        rw [if_pos (by omega), hq, if_pos hlt, if_pos hq0, hz]
        simp only [Option.bind_some]
        rw [rd_nat t, if_pos (by omega), if_pos (by omega), if_neg he, if_pos (by omega), eL, if_pos (by omega), hp1.out, Int.toNat_natCast, hw.out]
        exact hK
    · by_cases he : t.getD i 0 = (p : Int)
      · obtain ⟨K, hK⟩ := ih (p + 1) _ (by omega) (inv_put h hi 0 (by omega) (by omega) ⟨fun _ => he, fun _ => rfl⟩)
        refine ⟨K + 1, ?_⟩
        simp only [hypercubelaw9_MatchSquare.l3]
        rw [if_pos (by omega), hq, if_neg hlt]
        rw [rd_nat t, if_pos (by omega), if_pos (by omega), if_pos he, if_pos (by omega), eL, if_pos (by omega), hp1.out, Int.toNat_natCast]
        exact hK
      · obtain ⟨K, hK⟩ := ih (p + 1) _ (by omega) (inv_put h hi 1 (by omega) (by omega) ⟨fun e => by omega, fun e => absurd e he⟩)
        refine ⟨K + 1, ?_⟩
        simp only [hypercubelaw9_MatchSquare.l3]
        rw [if_pos (by omega), hq, if_neg hlt]
        rw [rd_nat t, if_pos (by omega), if_pos (by omega), if_neg he, if_pos (by omega), eL, if_pos (by omega), hp1.out, Int.toNat_natCast]
        exact hK

theorem ms_l2 (hk : k ≤ 8) (hk0 : 0 < k) (ht : Per k t) : ∀ (d i : Nat) (x : List (List Int)), i + d = k → Inv k t i 0 x → ∃ K, hypercubelaw9_MatchSquare.l2 K more (k : Int) t x (i : Int) = some true := by
  intro d
  induction d with
  | zero =>
    intro i x hi h
    refine ⟨1, ?_⟩
    have ha := sq_fin hk ht h.len (fun i' h' => h.done i' (by omega))
    have htl := ht.1
    simp only [hypercubelaw9_MatchSquare.l2]
    unfold PMatchSquare.match_Assign.f PMatchSquare.hypercuberef1_Ints.f
    rw [if_neg (by omega), ha]
    simp only [Option.bind_some, if_true]
    rw [if_pos (by omega)]
    simp
  | succ d ih =>
    intro i x hi h
    obtain ⟨K, hK⟩ := ms_l3 (more := more) hk hk0 ht (i := i) (by omega) (fun x hx => ih (i + 1) x (by omega) hx) k 0 x (by omega) h
    refine ⟨K + 1, ?_⟩
    simp only [hypercubelaw9_MatchSquare.l2]
    rw [if_pos (by omega)]
    exact hK

theorem ms_j2 (hk : k ≤ 8) (hk0 : 0 < k) (ht : Per k t) : ∃ K, hypercubelaw9_MatchSquare.j2 K more (k : Int) t = some true := by
  have hg : ∀ i, (List.replicate k ([] : List Int)).getD i [] = [] := fun i => by
    rw [List.getD_eq_getElem?_getD, List.getElem?_replicate]
    split <;> rfl
  obtain ⟨K, h⟩ := ms_l2 (more := more) hk hk0 ht k 0 (List.replicate k []) (by omega) ⟨by simp, fun i' h' => by omega, by rw [hg]; exact ⟨rfl, fun j hj => by omega⟩, fun i' _ => hg i'⟩
  refine ⟨K + 1, ?_⟩
  simp only [hypercubelaw9_MatchSquare.j2]
  rw [if_pos (by omega), Int.toNat_natCast, if_pos (by omega)]
  exact h
end
theorem ms_l1 {order more : List Int} {k : Nat} (hk : k ≤ 8) (hk0 : 0 < k) : ∀ (d i : Nat) (t : List Int), i + d = 20 → Per k t → ∃ K, hypercubelaw9_MatchSquare.l1 K order more (k : Int) t (i : Int) = some true := by
  intro d
  induction d with
  | zero =>
    intro i t hi ht
    obtain ⟨K, h⟩ := ms_j2 (more := more) hk hk0 ht
    refine ⟨K + 1, ?_⟩
    simp only [hypercubelaw9_MatchSquare.l1]
    by_cases hlt : (i : Int) < (order.length : Int)
    · rw [if_pos hlt, if_neg (by omega)]; exact h
    · rw [if_neg hlt]; exact h
  | succ d ih =>
    intro i t hi ht
    by_cases hlt : (i : Int) < (order.length : Int)
    · have hi1 := Aside0.mk (show wrap64 ((i : Int) + 1) = ((i + 1 : Nat) : Int) by rw [Core.wrap_small _ (by omega) (by omega)]; omega)
      obtain ⟨y, hy, hy0, hy1⟩ := within_f (rd order (i : Int)) (k : Int) (by omega) (by omega)
      have hq0 : 0 ≤ Int.tmod (i : Int) (k : Int) := Int.tmod_nonneg _ (by omega)
      have hq1 : Int.tmod (i : Int) (k : Int) < (k : Int) := Int.tmod_lt_of_pos _ (by omega)
      obtain ⟨q, hq⟩ := Int.eq_ofNat_of_zero_le hq0
      obtain ⟨y', rfl⟩ := Int.eq_ofNat_of_zero_le hy0
      have htl := ht.1
      obtain ⟨K, h⟩ := ih (i + 1) _ (by omega) (per_swap ht (a := q) (b := y') (by omega) (by omega))
      refine ⟨K + 1, ?_⟩
      simp only [hypercubelaw9_MatchSquare.l1]
      unfold PMatchSquare.hypercubelaw9_within.f
      rw [if_pos hlt, if_pos (by omega), if_neg (by omega), if_pos (by omega), hy, hq]
      simp only [Option.bind_some]
      rw [htl, if_pos (by omega), if_pos (by omega), if_pos (by omega), if_pos (by omega), rd_nat, rd_nat, Int.toNat_natCast, Int.toNat_natCast, hi1.out]
      exact h
    · obtain ⟨K, h⟩ := ms_j2 (more := more) hk hk0 ht
      refine ⟨K + 1, ?_⟩
      simp only [hypercubelaw9_MatchSquare.l1]
      rw [if_neg hlt]
      exact h
theorem ms_l0 {order more : List Int} {k : Nat} (hk : k ≤ 8) (hk0 : 0 < k) : ∀ (d i : Nat), i + d = k → ∃ K, hypercubelaw9_MatchSquare.l0 K order more (k : Int) ((List.range i).map (fun k : Nat => (k : Int))) (i : Int) = some true := by
  intro d
  induction d with
  | zero =>
    intro i hi
    obtain rfl : i = k := by omega
    obtain ⟨K, h⟩ := ms_l1 (order := order) (more := more) hk hk0 20 0 _ (by omega) (per_range i)
    refine ⟨K + 1, ?_⟩
    simp only [hypercubelaw9_MatchSquare.l0]
    rw [if_neg (by omega)]
    exact h
  | succ d ih =>
    intro i hi
    have hi1 := Aside0.mk (show wrap64 ((i : Int) + 1) = ((i + 1 : Nat) : Int) by rw [Core.wrap_small _ (by omega) (by omega)]; omega)
    obtain ⟨K, h⟩ := ih (i + 1) (by omega)
    refine ⟨K + 1, ?_⟩
    simp only [hypercubelaw9_MatchSquare.l0]
    rw [if_pos (by omega), if_pos (by simp; omega), hi1.out]
    rw [List.range_succ, List.map_append] at h
    exact h
theorem MatchSquare : hypercubelaw9_MatchSquare.Pure := by
  intro a0 order more _ _ _ _ _ _ _
  obtain ⟨p, hp, hp0, hp1⟩ := within_f a0 8 (by decide) (by decide)
  obtain ⟨p', rfl⟩ := Int.eq_ofNat_of_zero_le hp0
  have hs := Aside0.mk (show wrap64 (1 + (p' : Int)) = ((1 + p' : Nat) : Int) by rw [Core.wrap_small _ (by omega) (by omega)]; omega)
  obtain ⟨K, h⟩ := ms_l0 (order := order) (more := more) (k := 1 + p') (by omega) (by omega) (1 + p') 0 (by omega)
  refine ⟨K, ?_⟩
  unfold hypercubelaw9_MatchSquare.f hypercubelaw9_known.f PMatchSquare.hypercubelaw9_within.f
  simp only [Option.bind_some, if_true]
  rw [hp]
  simp only [Option.bind_some]
  rw [hs.out]
  exact h
end Go.Proofs.Ytgnkpahnhhmceaa.Pure
