/- The pure statement under MatchLeast: the choice is one, its total is the least, and no other one of that total is ahead of it. -/
import Derived.Test.YtgnkpahnhhmceaaPMatchLeastx2
import Derived.Test.YtgnkpahnhhmceaaCore13
namespace Go.Proofs.Ytgnkpahnhhmceaa.Pure
open Go.RowKit Go.Proofs.Ytgnkpahnhhmceaa.PMatchLeast Go.Proofs.YtgnkpahnhhmceaaW.PrintWords Go.Proofs.YtgnkpahnhhmceaaW.PrintLast
open Go.Proofs.Ytgnkpahnhhmceaa.Core (RowC right_of within_f assign right pick best GoodRow feas frees_zero rd_nat HOPE Per per_swap per_range front front_fits Fits of_fits tot tot_drop tot_bound Ahead best_le_tot pick_fits pick_first costs costs_right costs_rows)
set_option linter.unusedVariables false
set_option linter.unusedSimpArgs false

theorem lift {α : Type} {f : Nat → Option α} (h : ∀ k, LeO (f k) (f (k + 1))) {K : Nat} {r : α} (e : f K = some r) : ∀ d, f (K + d) = some r
  | 0 => e
  | d + 1 => h (K + d) r (lift h e d)

theorem cast_get (ks : List Nat) (i : Nat) : (ks.map (fun k : Nat => (k : Int))).getD i 0 = ((ks.getD i 0 : Nat) : Int) := by
  simp only [List.getD_eq_getElem?_getD, List.getElem?_map]
  cases ks[i]? <;> simp

theorem ahead_ev (a b : List Nat) (hab : a.length = b.length) (hl : a.length ≤ 100) : ∀ (d i : Nat), i + d = a.length → ¬ Ahead (a.drop i) (b.drop i) → ∃ K, hypercubelaw9_ahead.l0 K (a.map (fun k : Nat => (k : Int))) (b.map (fun k : Nat => (k : Int))) (i : Int) = some false := by
  intro d
  induction d with
  | zero =>
    intro i hi _
    refine ⟨1, ?_⟩
    simp only [hypercubelaw9_ahead.l0]
    rw [if_neg (by simp; omega)]
  | succ d ih =>
    intro i hi hn
    have ha : i < a.length := by omega
    have hb : i < b.length := by omega
    have hi1 := Aside0.mk (show wrap64 ((i : Int) + 1) = ((i + 1 : Nat) : Int) by rw [Core.wrap_small _ (by omega) (by omega)]; omega)
    rw [List.drop_eq_getElem_cons ha, List.drop_eq_getElem_cons hb] at hn
    have hn' : ¬ (a[i] < b[i] ∨ (a[i] = b[i] ∧ Ahead (a.drop (i + 1)) (b.drop (i + 1)))) := hn
    have e1 : a.getD i 0 = a[i] := by simp [ha]
    have e2 : b.getD i 0 = b[i] := by simp [hb]
    by_cases he : a[i] = b[i]
    · obtain ⟨K, h⟩ := ih (i + 1) (by omega) (fun hA => hn' (.inr ⟨he, hA⟩))
      refine ⟨K + 1, ?_⟩
      simp only [hypercubelaw9_ahead.l0]
      rw [rd_nat, rd_nat, cast_get, cast_get, e1, e2, if_pos (by simp; omega), if_pos (by omega), if_pos (by simp; omega), if_pos (by rw [he]), hi1.out]
      exact h
    · refine ⟨1, ?_⟩
      simp only [hypercubelaw9_ahead.l0]
      rw [rd_nat, rd_nat, cast_get, cast_get, e1, e2, if_pos (by simp; omega), if_pos (by omega), if_pos (by simp; omega), if_neg (by omega), decide_eq_false (by omega)]

theorem rd_cast (ks : List Nat) (i : Nat) : rd (ks.map (fun k : Nat => (k : Int))) (i : Int) = ((ks.getD i 0 : Nat) : Int) := by rw [rd_nat, cast_get]

section
variable {order : List Int} {c : List (List Int)} {ks : List Nat} {n m : Nat}

theorem row_at (hg : ∀ r ∈ c, GoodRow m r) {i : Nat} (hi : i < c.length) : GoodRow m (c.getD i []) := by
  have : c.getD i [] = c[i] := by simp [hi]
  rw [this]
  exact hg _ (List.getElem_mem hi)

theorem ml_l3 (hc : c.length = n) (hn : n ≤ 5) (hm : m ≤ 9) (hnm : n ≤ m) (hg : ∀ r ∈ c, GoodRow m r) {t : List Int} (ht : Per m t) {x16 : Int} {i : Nat} (hi : i ≤ 30)
    (hfit : Fits m c 0 ks) (hk : pick c 0 = ks.map (fun k : Nat => (k : Int))) (hfe : best c 0 < HOPE)
    (hnext : ∃ K, hypercubelaw9_MatchLeast.l2 K order c (ks.map (fun k : Nat => (k : Int))) (best c 0) (m : Int) x16 t ((i + 1 : Nat) : Int) = some true) :
    ∀ (d j : Nat) (S : Int), j + d = n → S + tot (c.drop j) ((front n t).drop j) = tot c (front n t) → 0 ≤ S → S ≤ 1000000 * (j : Int) →
      ∃ K, hypercubelaw9_MatchLeast.l3 K order c (ks.map (fun k : Nat => (k : Int))) (best c 0) (m : Int) x16 t (i : Int) S (j : Int) = some true := by
  have hi1 := Aside0.mk (show wrap64 ((i : Int) + 1) = ((i + 1 : Nat) : Int) by rw [Core.wrap_small _ (by omega) (by omega)]; omega)
  have hfl : (front n t).length = n := by simp [front]
  have hfits := front_fits (c := c) ht hnm hc
  have hle := best_le_tot m c 0 _ hg hfits
  have htl := ht.1
  intro d
  induction d with
  | zero =>
    intro j S hj hS hS0 hS1
    obtain rfl : j = n := by omega
    rw [List.drop_eq_nil_of_le (by omega), List.drop_eq_nil_of_le (by omega)] at hS
    have hS2 : S = tot c (front j t) := by
      have : tot ([] : List (List Int)) ([] : List Nat) = 0 := rfl
      omega
    obtain ⟨K, h⟩ := hnext
    by_cases he : S = best c 0
    · -- as little: not ahead
      have hna := pick_first m c 0 ks (front j t) (by omega) hg hfe hk hfits (by omega)
      have htake : t.take j = (front j t).map (fun k : Nat => (k : Int)) := by
        apply List.ext_getElem (by simp [front]; omega)
        intro a h1 h2
        have ha : a < j := by simp [front] at h2; omega
        have h3 := ht.2.1 a (by omega)
        have h4 : t.getD a 0 = t[a]'(by omega) := by simp [show a < t.length by omega]
        simp [front]
        rw [List.getD_eq_getElem?_getD] at h3 h4
        omega
      have hkl := (of_fits m c 0 ks hfit).1
      obtain ⟨K2, h2⟩ := ahead_ev (front j t) ks (by omega) (by omega) j 0 (by omega) (by simpa using hna)
      have h' := lift (f := fun K => hypercubelaw9_MatchLeast.l2 K order c (ks.map (fun k : Nat => (k : Int))) (best c 0) (m : Int) x16 t ((i + 1 : Nat) : Int)) (fun k => (hypercubelaw9_MatchLeast.mono_l k).2.2.2.1 _ _ _ _ _ _ _ _) h K2
      have h2' := lift (f := fun K => hypercubelaw9_ahead.f K ((front j t).map (fun k : Nat => (k : Int))) (ks.map (fun k : Nat => (k : Int)))) (fun k => hypercubelaw9_ahead.mono _ _ k) (by unfold hypercubelaw9_ahead.f; exact h2) K
      refine ⟨K + K2 + 1, ?_⟩
      simp only [hypercubelaw9_MatchLeast.l3]
      rw [if_neg (by omega), if_neg (by omega), if_pos he, if_pos (by omega), if_pos (by omega), hc, Int.toNat_natCast, htake, show K + K2 = K2 + K by omega, h2']
      simp only [Option.bind_some, Bool.false_eq_true, if_false]
      rw [hi1.out, show K2 + K = K + K2 by omega]
      exact h'
    · refine ⟨K + 1, ?_⟩
      simp only [hypercubelaw9_MatchLeast.l3]
      rw [if_neg (by omega), if_neg (by omega), if_neg he, hi1.out]
      exact h
  | succ d ih =>
    intro j S hj hS hS0 hS1
    have hj1 := Aside0.mk (show wrap64 ((j : Int) + 1) = ((j + 1 : Nat) : Int) by rw [Core.wrap_small _ (by omega) (by omega)]; omega)
    have hd := tot_drop (c := c) (ks := front n t) (i := j) (by omega) (by omega)
    have hrow := row_at hg (i := j) (by omega)
    have htj := ht.2.1 j (by omega)
    have hfj : (front n t).getD j 0 = (t.getD j 0).toNat := by simp [front, show j < n by omega]
    rw [hfj] at hd
    have hv := hrow.2 (t.getD j 0).toNat
    generalize hx : (c.getD j []).getD (t.getD j 0).toNat 0 = x at hd hv
    obtain ⟨K, h⟩ := ih (j + 1) (S + x) (by omega) (by omega) (by omega) (by omega)
    have hrd : rd (rd_L1 c (j : Int)) (rd t (j : Int)) = x := by
      rw [rd_nat t j]
      unfold rd rd_L1
      rw [Int.toNat_natCast]
      exact hx
    have hln : (rd_L1 c (j : Int)).length = m := by
      unfold rd_L1
      rw [Int.toNat_natCast]
      exact hrow.1
    refine ⟨K + 1, ?_⟩
    simp only [hypercubelaw9_MatchLeast.l3]
    rw [hrd, hln, rd_nat t j, if_pos (by omega), if_pos (by omega), if_pos (by omega), if_pos (by omega), if_pos (by omega), Core.wrap_small (S + x) (by omega) (by omega), hj1.out]
    exact h

theorem ml_l2 (hc : c.length = n) (hn : n ≤ 5) (hn0 : 0 < n) (hm : m ≤ 9) (hnm : n ≤ m) (hg : ∀ r ∈ c, GoodRow m r)
    (hfit : Fits m c 0 ks) (hk : pick c 0 = ks.map (fun k : Nat => (k : Int))) (hfe : best c 0 < HOPE) :
    ∀ (d i : Nat) (t : List Int), i + d = 30 → Per m t → ∃ K, hypercubelaw9_MatchLeast.l2 K order c (ks.map (fun k : Nat => (k : Int))) (best c 0) (m : Int) (best c 0) t (i : Int) = some true := by
  intro d
  induction d with
  | zero =>
    intro i t hi ht
    refine ⟨2, ?_⟩
    simp only [hypercubelaw9_MatchLeast.l2, hypercubelaw9_MatchLeast.j4]
    rw [decide_eq_false (by omega)]
    simp
  | succ d ih =>
    intro i t hi ht
    by_cases hlt : i < order.length
    · obtain ⟨y, hy, hy0, hy1⟩ := within_f (rd order (i : Int)) (m : Int) (by omega) (by omega)
      have hq0 : 0 ≤ Int.tmod (i : Int) (m : Int) := Int.tmod_nonneg _ (by omega)
      have hq1 : Int.tmod (i : Int) (m : Int) < (m : Int) := Int.tmod_lt_of_pos _ (by omega)
      obtain ⟨q, hq⟩ := Int.eq_ofNat_of_zero_le hq0
      obtain ⟨y', rfl⟩ := Int.eq_ofNat_of_zero_le hy0
      have htl := ht.1
      have hsw := per_swap ht (a := q) (b := y') (by omega) (by omega)
      obtain ⟨K, h⟩ := ml_l3 (order := order) (x16 := best c 0) hc hn hm hnm hg hsw (i := i) (by omega) hfit hk hfe (ih (i + 1) _ (by omega) hsw) n 0 0 (by omega) (by simp) (by omega) (by omega)
      refine ⟨K + 2, ?_⟩
      simp only [hypercubelaw9_MatchLeast.l2, hypercubelaw9_MatchLeast.j4]
      unfold PMatchLeast.hypercubelaw9_within.f
      rw [if_pos (by omega), decide_eq_true (by omega)]
      simp only [if_true]
      rw [if_neg (by omega), if_pos (by omega), if_pos (by omega), hy, hq]
      simp only [Option.bind_some]
      rw [htl, if_pos (by omega), if_pos (by omega), if_pos (by omega), if_pos (by omega), rd_nat, rd_nat, Int.toNat_natCast, Int.toNat_natCast]
      exact h
    · refine ⟨2, ?_⟩
      simp only [hypercubelaw9_MatchLeast.l2, hypercubelaw9_MatchLeast.j4]
      rw [if_neg (by omega)]
      simp

theorem ml_l1 (hc : c.length = n) (hn : n ≤ 5) (hn0 : 0 < n) (hm : m ≤ 9) (hnm : n ≤ m) (hg : ∀ r ∈ c, GoodRow m r)
    (hfit : Fits m c 0 ks) (hk : pick c 0 = ks.map (fun k : Nat => (k : Int))) (hfe : best c 0 < HOPE) :
    ∀ (d k : Nat), k + d = m → ∃ K, hypercubelaw9_MatchLeast.l1 K order c (ks.map (fun k : Nat => (k : Int))) (best c 0) (m : Int) (best c 0) ((List.range k).map (fun k : Nat => (k : Int))) (k : Int) = some true := by
  intro d
  induction d with
  | zero =>
    intro k hk'
    obtain rfl : k = m := by omega
    obtain ⟨K, h⟩ := ml_l2 (order := order) hc hn hn0 hm hnm hg hfit hk hfe 30 0 _ (by omega) (per_range k)
    refine ⟨K + 1, ?_⟩
    simp only [hypercubelaw9_MatchLeast.l1]
    rw [if_neg (by omega)]
    exact h
  | succ d ih =>
    intro k hk'
    have hk1 := Aside0.mk (show wrap64 ((k : Int) + 1) = ((k + 1 : Nat) : Int) by rw [Core.wrap_small _ (by omega) (by omega)]; omega)
    obtain ⟨K, h⟩ := ih (k + 1) (by omega)
    refine ⟨K + 1, ?_⟩
    simp only [hypercubelaw9_MatchLeast.l1]
    rw [if_pos (by omega), if_pos (by simp; omega), hk1.out]
    rw [List.range_succ, List.map_append] at h
    exact h

theorem ml_l0 (hc : c.length = n) (hn : n ≤ 5) (hn0 : 0 < n) (hm : m ≤ 9) (hnm : n ≤ m) (hg : ∀ r ∈ c, GoodRow m r)
    (hfit : Fits m c 0 ks) (hk : pick c 0 = ks.map (fun k : Nat => (k : Int))) (hfe : best c 0 < HOPE) (htot : tot c ks = best c 0) :
    ∀ (d i : Nat) (S : Int) (seen : List Bool), i + d = n → S + tot (c.drop i) (ks.drop i) = tot c ks → 0 ≤ S → S ≤ 1000000 * (i : Int) → seen.length = m → (∀ j, seen.getD j false = true → ∃ i', i' < i ∧ ks.getD i' 0 = j) →
      ∃ K, hypercubelaw9_MatchLeast.l0 K order c (ks.map (fun k : Nat => (k : Int))) (best c 0) (m : Int) S seen (i : Int) = some true := by
  obtain ⟨hkl, hnd, hks⟩ := of_fits m c 0 ks hfit
  intro d
  induction d with
  | zero =>
    intro i S seen hi hS hS0 hS1 hsl hsn
    obtain ⟨K, h⟩ := ml_l1 (order := order) hc hn hn0 hm hnm hg hfit hk hfe m 0 (by omega)
    rw [List.drop_eq_nil_of_le (by omega), List.drop_eq_nil_of_le (by omega)] at hS
    have hS2 : S = best c 0 := by
      have : tot ([] : List (List Int)) ([] : List Nat) = 0 := rfl
      omega
    refine ⟨K + 1, ?_⟩
    simp only [hypercubelaw9_MatchLeast.l0]
    rw [if_neg (by simp; omega), hS2]
    exact h
  | succ d ih =>
    intro i S seen hi hS hS0 hS1 hsl hsn
    have hi1 := Aside0.mk (show wrap64 ((i : Int) + 1) = ((i + 1 : Nat) : Int) by rw [Core.wrap_small _ (by omega) (by omega)]; omega)
    have hik : i < ks.length := by omega
    have hd := tot_drop (c := c) (ks := ks) (i := i) (by omega) hkl
    have hrow := row_at hg (i := i) (by omega)
    have ekv : ks.getD i 0 = ks[i] := by simp [hik]
    have hkm : ks.getD i 0 < m := by rw [ekv]; exact (hks _ (List.getElem_mem hik)).1
    have hrd0 : rd (ks.map (fun k : Nat => (k : Int))) (i : Int) = ((ks.getD i 0 : Nat) : Int) := rd_cast ks i
    have hnew : rdOf false seen ((ks.getD i 0 : Nat) : Int) ≠ true := by
      unfold rdOf
      rw [Int.toNat_natCast]
      intro e
      obtain ⟨i', hi', he⟩ := hsn _ e
      have e' : ks.getD i' 0 = ks[i']'(by omega) := by simp [show i' < ks.length by omega]
      rw [e', ekv] at he
      have := List.pairwise_iff_getElem.1 hnd i' i (by omega) hik hi'
      exact this he
    have hv := hrow.2 (ks.getD i 0)
    generalize hkk : ks.getD i 0 = kk at *
    generalize hx : (c.getD i []).getD kk 0 = x at hd hv
    have hrd : rd (rd_L1 c (i : Int)) (kk : Int) = x := by
      unfold rd rd_L1
      rw [Int.toNat_natCast, Int.toNat_natCast]
      exact hx
    have hln : (rd_L1 c (i : Int)).length = m := by
      unfold rd_L1
      rw [Int.toNat_natCast]
      exact hrow.1
    obtain ⟨K, h⟩ := ih (i + 1) (S + x) (seen.set kk true) (by omega) (by omega) (by omega) (by omega) (by simpa using hsl) (fun j hj => by
      rw [List.getD_eq_getElem?_getD, List.getElem?_set] at hj
      by_cases e : kk = j
      · exact ⟨i, by omega, by rw [hkk, e]⟩
      · rw [if_neg e] at hj
        obtain ⟨i', h1, h2⟩ := hsn j (by rw [List.getD_eq_getElem?_getD]; exact hj)
        exact ⟨i', by omega, h2⟩)
    refine ⟨K + 1, ?_⟩
    simp only [hypercubelaw9_MatchLeast.l0]
    rw [hrd0, hrd, hln, if_pos (by simp; omega), if_pos (by omega), if_neg (by omega), if_neg (by omega), if_pos (by omega), if_pos (by omega), if_neg hnew, if_pos (by omega), if_pos (by omega), Core.wrap_small (S + x) (by omega) (by omega), hi1.out, Int.toNat_natCast]
    exact h
end

theorem MatchLeast : hypercubelaw9_MatchLeast.Pure := by
  intro a0 a1 l2 a3 order _ _ _ _ _ _ _ _ _
  have hr := costs_right a0 a1 l2 a3
  obtain ⟨m, hm, hcm, hc5, hrows⟩ := costs_rows a0 a1 l2 a3
  have key : ∃ K, hypercubelaw9_MatchLeast.j0 K order (costs a0 a1 l2 a3) (pick (costs a0 a1 l2 a3) 0) (best (costs a0 a1 l2 a3) 0) false = some true ∧ (((pick (costs a0 a1 l2 a3) 0).length : Int) != ((costs a0 a1 l2 a3).length : Int)) = false := by
    generalize costs a0 a1 l2 a3 = c at *
    have hg : ∀ r ∈ c, GoodRow m r := fun r hr' => by
      have h1 := hrows r hr'
      refine ⟨h1.1, fun k => ?_⟩
      by_cases hk : k < r.length
      · have := h1.2 _ (List.getElem_mem hk)
        simpa [hk] using this
      · rw [List.getD_eq_getElem?_getD, List.getElem?_eq_none (by omega)]
        simp
    have hfe : best c 0 < HOPE := feas m c 0 (by omega) hg (by rw [frees_zero]; exact hcm)
    obtain ⟨ks, hk, hfit, htot⟩ := pick_fits m c 0 (by omega) hg hfe
    have hkl := (of_fits m c 0 ks hfit).1
    have hlen : (((pick c 0).length : Int) != (c.length : Int)) = false := by rw [hk]; simp [hkl]
    by_cases h0 : c.length = 0
    · have e : c = [] := List.length_eq_zero_iff.1 h0
      subst e
      refine ⟨1, ?_, hlen⟩
      simp only [hypercubelaw9_MatchLeast.j0]
      simp [best]
    · obtain ⟨K, h⟩ := ml_l0 (order := order) (n := c.length) rfl hc5 (by omega) hm hcm hg hfit hk hfe htot c.length 0 0 (List.replicate m false) (by omega) (by simp) (by omega) (by omega) (by simp) (fun j hj => by
        rw [List.getD_eq_getElem?_getD, List.getElem?_replicate] at hj
        split at hj <;> simp at hj)
      have hrow0 : (rd_L1 c 0).length = m := (row_at hg (i := 0) (by omega)).1
      refine ⟨K + 1, ?_, hlen⟩
      simp only [hypercubelaw9_MatchLeast.j0, Bool.false_eq_true, if_false]
      rw [if_neg (by omega), if_pos (by omega), hrow0, if_pos (by omega), if_pos (by omega), Int.toNat_natCast, hk]
      exact h
  obtain ⟨K, h, hl⟩ := key
  refine ⟨K, ?_⟩
  unfold hypercubelaw9_MatchLeast.f hypercubelaw9_known.f PMatchLeast.hypercubelaw9_Costs.f PMatchLeast.match_Assign.f assign
  simp only [Option.bind_some, if_true]
  rw [if_pos hr]
  simp only [if_true]
  rw [hl]
  exact h
end Go.Proofs.Ytgnkpahnhhmceaa.Pure
