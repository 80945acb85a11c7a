-- Cut by pack.py, a program of this session; not trusted: Lean checks it.
import Derived.Test.YtgnkpahnhhmceaaZCore4
import Derived.Test.YtgnkpahnhhmceaaZCore7
import Derived.Test.YtgnkpahnhhmceaaZCore8
/- What the document's Assign computes is the same choice: its loops, one by one. -/
namespace Go.Proofs.Ytgnkpahnhhmceaa.Core
open Go.RowKit Go.Proofs.YtgnkpahnhhmceaaW.PrintWords Go.Proofs.YtgnkpahnhhmceaaW.PrintLast Go.Proofs.YtgnkpahnhhmceaaW.PrintMore
set_option linter.unusedVariables false
set_option linter.unusedSimpArgs false
set_option maxHeartbeats 1000000

theorem u64_small (x : Int) (h0 : 0 ≤ x) (h1 : x < 9223372036854775808) : IntKind.u64.wrap x = x := by
  rw [IntKind.wrap_u64]; omega

section
variable {c : List (List Int)} {res : Bool}

theorem rr1_ev {i : Nat} (hi : i < c.length) (hc : c.length ≤ 12) (hlen : (rd_L1 c (i : Int)).length ≤ 12) :
    ∀ (n k : Nat), k + n = (rd_L1 c (i : Int)).length → (if ((rd_L1 c (i : Int)).drop k).all okc = true then ∃ K, hypercuberef9_right.l0 K c ((i + 1 : Nat) : Int) = some res else res = false) →
      ∃ K, hypercuberef9_right.l1 K c (i : Int) (k : Int) = some res := by
  have hi1 := Aside0.mk (show wrap64 ((i : Int) + 1) = ((i + 1 : Nat) : Int) by rw [wrap_small _ (by omega) (by omega)]; omega)
  intro n
  induction n with
  | zero =>
    intro k hk h
    rw [List.drop_eq_nil_of_le (by omega)] at h
    simp only [List.all_nil, if_true] at h
    obtain ⟨K, h⟩ := h
    refine ⟨K + 1, ?_⟩
    simp only [hypercuberef9_right.l1]
    rw [if_pos (by omega), if_pos (by omega), if_neg (by omega), hi1.out]
    exact h
  | succ n ih =>
    intro k hk h
    have hk1 := Aside0.mk (show wrap64 ((k : Int) + 1) = ((k + 1 : Nat) : Int) by rw [wrap_small _ (by omega) (by omega)]; omega)
    have hkl : k < (rd_L1 c (i : Int)).length := by omega
    rw [List.drop_eq_getElem_cons hkl, List.all_cons] at h
    have hv : rd (rd_L1 c (i : Int)) (k : Int) = (rd_L1 c (i : Int))[k] := by simp [rd, hkl]
    rw [← hv] at h
    obtain ⟨v, hv2⟩ : ∃ v, rd (rd_L1 c (i : Int)) (k : Int) = v := ⟨_, rfl⟩
    rw [hv2] at h
    by_cases hok : okc v = true
    · rw [hok, Bool.true_and] at h
      obtain ⟨K, h⟩ := ih (k + 1) (by omega) h
      refine ⟨K + 1, ?_⟩
      simp only [hypercuberef9_right.l1]
      simp only [okc, Bool.and_eq_true, decide_eq_true_eq] at hok
      rw [if_pos (by omega), if_pos (by omega), if_pos (by omega), if_pos (by omega)]
      rw [hv2, if_neg (by omega), if_neg (by omega), hk1.out]
      exact h
    · have hok' : okc v = false := by simpa using hok
      rw [hok', Bool.false_and] at h
      simp only [Bool.false_eq_true, if_false] at h
      subst h
      refine ⟨1, ?_⟩
      simp only [hypercuberef9_right.l1]
      rw [if_pos (by omega), if_pos (by omega), if_pos (by omega), if_pos (by omega)]
      rw [hv2]
      by_cases hneg : v < 0
      · rw [if_pos hneg]
      · rw [if_neg hneg]
        have : v > 1000000 := by
          simp only [okc, Bool.and_eq_false_iff, decide_eq_false_iff_not] at hok'
          omega
        rw [if_pos this]

theorem rr0_ev (hc : c.length ≤ 12) : ∀ (n i : Nat), i + n = c.length → ∃ K, hypercuberef9_right.l0 K c (i : Int) = some ((c.drop i).all (rowOk c)) := by
  intro n
  induction n with
  | zero =>
    intro i hi
    refine ⟨1, ?_⟩
    rw [List.drop_eq_nil_of_le (by omega)]
    simp only [hypercuberef9_right.l0]
    rw [if_neg (by omega)]
    rfl
  | succ n ih =>
    intro i hi
    have hic : i < c.length := by omega
    rw [drop_cons_of c i hic, List.all_cons]
    obtain ⟨K, h⟩ := ih (i + 1) (by omega)
    have h0 : rd_L1 c (0 : Int) = rdL c 0 := rfl
    by_cases h1 : (rd_L1 c (i : Int)).length = (rdL c 0).length
    · by_cases h2 : (rd_L1 c (i : Int)).length ≤ 12
      · by_cases h3 : c.length ≤ (rd_L1 c (i : Int)).length
        · have hro : rowOk c (rd_L1 c (i : Int)) = (rd_L1 c (i : Int)).all okc := by simp [rowOk, h1]; omega
          rw [hro]
          obtain ⟨K', h'⟩ := rr1_ev (res := ((rd_L1 c (i : Int)).all okc && (c.drop (i + 1)).all (rowOk c))) hic hc h2 (rd_L1 c (i : Int)).length 0 (by omega) (by
            rw [List.drop_zero]
            by_cases ha : (rd_L1 c (i : Int)).all okc = true
            · rw [if_pos ha, ha]; exact ⟨K, by simpa using h⟩
            · rw [if_neg ha]; simp [show (rd_L1 c (i : Int)).all okc = false by simpa using ha])
          refine ⟨K' + 2, ?_⟩
          simp only [hypercuberef9_right.l0, hypercuberef9_right.j1]
          rw [h0, if_pos (by omega), if_pos (by omega), if_pos (by omega), if_pos (by omega), if_neg (by omega)]
          rw [decide_eq_false (by omega)]
          simp only [Bool.false_eq_true, if_false]
          exact h'
        · have hro : rowOk c (rd_L1 c (i : Int)) = false := by simp [rowOk, h3]
          rw [hro, Bool.false_and]
          refine ⟨2, ?_⟩
          simp only [hypercuberef9_right.l0, hypercuberef9_right.j1]
          rw [h0, if_pos (by omega), if_pos (by omega), if_pos (by omega), if_pos (by omega), if_neg (by omega)]
          rw [decide_eq_true (by omega)]
          simp only [if_true]
      · have hro : rowOk c (rd_L1 c (i : Int)) = false := by simp [rowOk, h2]
        rw [hro, Bool.false_and]
        refine ⟨2, ?_⟩
        simp only [hypercuberef9_right.l0, hypercuberef9_right.j1]
        rw [h0, if_pos (by omega), if_pos (by omega), if_pos (by omega), if_pos (by omega), if_pos (by omega)]
        simp only [if_true]
    · have hro : rowOk c (rd_L1 c (i : Int)) = false := by simp [rowOk, h1]
      rw [hro, Bool.false_and]
      refine ⟨2, ?_⟩
      simp only [hypercuberef9_right.l0, hypercuberef9_right.j1]
      rw [h0, if_pos (by omega), if_pos (by omega), if_pos (by omega), if_neg (by omega)]
      simp only [if_true]
end
theorem rright_ev (c : List (List Int)) : ∃ K, hypercuberef9_right.f K c = some (right c) := by
  unfold hypercuberef9_right.f right
  by_cases h : c.length ≤ 12
  · obtain ⟨K, hK⟩ := rr0_ev h c.length 0 (by omega)
    refine ⟨K, ?_⟩
    rw [if_neg (by omega), decide_eq_true h]
    simpa using hK
  · exact ⟨0, by rw [if_pos (by omega), decide_eq_false h]; rfl⟩

section
variable {x0 : List (List Int)} {res : List (List Int)}

theorem ra2_ev {Y : List (List Int)} {R row : List Int} {i s m : Nat} {B : Nat → Int} (hi : i + 1 < Y.length) (hi0 : i < x0.length) (hi2 : i ≤ 12) (hR : (rd_L1 Y (i : Int)) = R) (hRl : R.length = 2 ^ m) (hs : s < 2 ^ m) (hm : m ≤ 12)
    (hx : rd_L1 x0 (i : Int) = row) (hrow : GoodRow m row) (hT : (rd_L1 Y ((i + 1 : Nat) : Int)).length = 2 ^ m) (hB : ∀ t : Nat, t < 2 ^ m → rd (rd_L1 Y ((i + 1 : Nat) : Int)) (t : Int) = B t) (hb : ∀ t : Nat, -1 ≤ B t ∧ B t ≤ 12000000) :
    ∀ (n k : Nat) (v : Int), k + n = m → (∃ K, hypercuberef9_ahead.l1 K x0 (m : Int) (Y.set i (R.set s (((List.range m).drop k).foldl (stepR row B s) v))) (i : Int) ((s + 1 : Nat) : Int) = some res) →
      ∃ K, hypercuberef9_ahead.l2 K x0 (m : Int) Y (i : Int) (s : Int) v (k : Int) = some res := by
  have hp := pow12 hm
  have hs1 := Aside0.mk (show wrap64 ((s : Int) + 1) = ((s + 1 : Nat) : Int) by rw [wrap_small _ (by omega) (by omega)]; omega)
  have hi1 := Aside0.mk (show wrap64 ((i : Int) + 1) = ((i + 1 : Nat) : Int) by rw [wrap_small _ (by omega) (by omega)]; omega)
  intro n
  induction n with
  | zero =>
    rintro k v hk ⟨K, h⟩
    refine ⟨K + 1, ?_⟩
    rw [List.drop_eq_nil_of_le (by simp; omega)] at h
    simp only [hypercuberef9_ahead.l2]
    rw [hR, hRl, if_neg (by omega), if_pos (by omega), if_pos (by omega), if_pos (by omega), if_pos (by omega), hs1.out]
    simp only [Int.toNat_natCast]
    exact h
  | succ n ih =>
    rintro k v hk ⟨K, h⟩
    have hk1 := Aside0.mk (show wrap64 ((k : Int) + 1) = ((k + 1 : Nat) : Int) by rw [wrap_small _ (by omega) (by omega)]; omega)
    have hu := Aside0.mk (u64_small (k : Int) (by omega) (by omega))
    rw [drop_range m k (by omega), List.foldl_cons] at h
    obtain ⟨K', h'⟩ := ih (k + 1) (stepR row B s v k) (by omega) ⟨K, h⟩
    refine ⟨K' + 1, ?_⟩
    have hkr : (k : Int) < (row.length : Int) := by rw [hrow.1]; omega
    simp only [hypercuberef9_ahead.l2]
    rw [if_pos (by omega), hu.out, if_pos (by omega), bit_and s k (by omega) (by omega), hk1.out]
    unfold stepR at h'
    by_cases ht : s.testBit k = true
    · rw [if_pos ht, if_pos rfl]
      rw [if_pos ht] at h'
      exact h'
    · rw [if_neg ht, if_neg (by omega)]
      rw [if_neg ht] at h'
      have ho := or_lt hs (show k < m by omega)
      have hr := hrow.2 k
      have hb' := hb (s ||| 2 ^ k)
      rw [bit_or s k (by omega) (by omega), hi1.out, hT, hB _ ho, hx, rd_nat row, if_pos (by omega), if_pos (by omega), if_pos (by omega), if_pos (by omega)]
      by_cases hge : B (s ||| 2 ^ k) ≥ 0
      · rw [if_pos hge] at h' ⊢
        rw [wrap_small _ (by omega) (by omega)]
        by_cases hv : v < 0
        · rw [if_pos hv] at h' ⊢
          rw [if_pos (by omega), if_pos (by omega), if_pos (by omega), if_pos (by omega)]
          exact h'
        · rw [if_neg hv] at h' ⊢
          rw [if_pos (by omega), if_pos (by omega), if_pos (by omega), if_pos (by omega)]
          by_cases hlt : B (s ||| 2 ^ k) + row.getD k 0 < v
          · rw [if_pos hlt] at h' ⊢
            exact h'
          · rw [if_neg hlt] at h' ⊢
            exact h'
      · rw [if_neg hge] at h' ⊢
        exact h'

theorem ra1_ev {Y : List (List Int)} {i m : Nat} {B : Nat → Int} (hi : i + 1 < Y.length) (hi0 : i < x0.length) (hi2 : i ≤ 12) (hm : m ≤ 12)
    (hrow : GoodRow m (rd_L1 x0 (i : Int))) (hT : (rd_L1 Y ((i + 1 : Nat) : Int)).length = 2 ^ m) (hB : ∀ t : Nat, t < 2 ^ m → rd (rd_L1 Y ((i + 1 : Nat) : Int)) (t : Int) = B t) (hb : ∀ t : Nat, -1 ≤ B t ∧ B t ≤ 12000000) :
    ∀ (n s : Nat) (R : List Int), s + n = 2 ^ m → R.length = 2 ^ m → (∀ t, t < s → R.getD t 0 = (List.range m).foldl (stepR (rd_L1 x0 (i : Int)) B t) (-1)) →
      (∀ R' : List Int, R'.length = 2 ^ m → (∀ t, t < 2 ^ m → R'.getD t 0 = (List.range m).foldl (stepR (rd_L1 x0 (i : Int)) B t) (-1)) → ∃ K, hypercuberef9_ahead.l0 K x0 (m : Int) (Y.set i R') ((i : Int) - 1) = some res) →
      ∃ K, hypercuberef9_ahead.l1 K x0 (m : Int) (Y.set i R) (i : Int) (s : Int) = some res := by
  have hp := pow12 hm
  have hi1 := Aside0.mk (show wrap64 ((i : Int) - 1) = (i : Int) - 1 from wrap_small _ (by omega) (by omega))
  have hu := Aside0.mk (u64_small (m : Int) (by omega) (by omega))
  intro n
  induction n with
  | zero =>
    intro s R hs hR hpre hfin
    obtain ⟨K, h⟩ := hfin R hR (fun t ht => hpre t (by omega))
    refine ⟨K + 1, ?_⟩
    simp only [hypercuberef9_ahead.l1]
    rw [hu.out, shl_one m hm, if_pos (by omega), if_neg (by omega), hi1.out]
    exact h
  | succ n ih =>
    intro s R hs hR hpre hfin
    have hs2 : s < 2 ^ m := by omega
    obtain ⟨K, h⟩ := ih (s + 1) (R.set s ((List.range m).foldl (stepR (rd_L1 x0 (i : Int)) B s) (-1))) (by omega) (by simpa using hR) (fun t ht => by
      rw [List.getD_eq_getElem?_getD, List.getElem?_set]
      by_cases he : s = t
      · subst he
        simp [hR, hs2]
      · rw [if_neg he]
        have := hpre t (by omega)
        rwa [List.getD_eq_getElem?_getD] at this) hfin
    have hne : rd_L1 (Y.set i R) ((i + 1 : Nat) : Int) = rd_L1 Y ((i + 1 : Nat) : Int) := rdL1_set_ne _ _ _ _ (by omega)
    obtain ⟨K', h'⟩ := ra2_ev (x0 := x0) (res := res) (Y := Y.set i R) (R := R) (i := i) (s := s) (m := m) (B := B) (by simpa using hi) hi0 hi2 (rdL1_set _ _ _ (by omega)) hR hs2 hm rfl hrow (by rw [hne]; exact hT) (fun t ht => by rw [hne]; exact hB t ht) hb m 0 (-1) (by omega)
      ⟨K, by rw [List.drop_zero, List.set_set]; exact h⟩
    refine ⟨K' + 1, ?_⟩
    simp only [hypercuberef9_ahead.l1]
    rw [hu.out, shl_one m hm, if_pos (by omega), if_pos (by omega)]
    exact h'

theorem ra0_ev {c : List (List Int)} {m : Nat} (hc : c.length ≤ 12) (hm : m ≤ 12) (hg : Good m c) :
    ∀ (n : Nat) (Y : List (List Int)), n ≤ c.length → Y.length = c.length + 1 → (∀ j, n ≤ j → j ≤ c.length → rd_L1 Y (j : Int) = tabR m (c.drop j)) →
      ∃ K T, hypercuberef9_ahead.l0 K c (m : Int) Y ((n : Int) - 1) = some T ∧ T.length = c.length + 1 ∧ (∀ j, j ≤ c.length → rd_L1 T (j : Int) = tabR m (c.drop j)) := by
  have hp := pow12 hm
  have hu := Aside0.mk (u64_small (m : Int) (by omega) (by omega))
  intro n
  induction n with
  | zero =>
    intro Y _ hY hT
    refine ⟨1, Y, ?_, hY, fun j hj => hT j (by omega) hj⟩
    simp only [hypercuberef9_ahead.l0]
    rw [if_neg (by omega)]
  | succ n ih =>
    intro Y hn hY hT
    have hnext := hT (n + 1) (by omega) (by omega)
    have hlr : (c.drop (n + 1)).length ≤ 12 := by simp; omega
    have hrow := good_row hg n (by omega)
    have hgt : Good m (c.drop (n + 1)) := hg.tail (n + 1)
    have hall : ∀ R' : List Int, R'.length = 2 ^ m → (∀ t, t < 2 ^ m → R'.getD t 0 = (List.range m).foldl (stepR (rd_L1 c (n : Int)) (bestR (c.drop (n + 1))) t) (-1)) →
        ∃ K T, hypercuberef9_ahead.l0 K c (m : Int) (Y.set n R') ((n : Int) - 1) = some T ∧ T.length = c.length + 1 ∧ (∀ j, j ≤ c.length → rd_L1 T (j : Int) = tabR m (c.drop j)) := by
      intro R' hR' hR
      refine ih (Y.set n R') (by omega) (by simpa using hY) (fun j h1 h2 => ?_)
      by_cases hj : n = j
      · subst hj
        rw [rdL1_set _ _ _ (by omega)]
        refine tabR_ext m _ R' hR' (fun t ht => ?_)
        rw [hR t ht, drop_cons_of c n (by omega), bestR_cons t hrow hlr hgt]
      · rw [rdL1_set_ne _ _ _ _ hj]
        exact hT j (by omega) h2
    -- the one table that the round makes
    obtain ⟨R1, hR1, hR1v⟩ : ∃ R1 : List Int, R1.length = 2 ^ m ∧ ∀ t, t < 2 ^ m → R1.getD t 0 = (List.range m).foldl (stepR (rd_L1 c (n : Int)) (bestR (c.drop (n + 1))) t) (-1) :=
      ⟨(List.range (2 ^ m)).map (fun t => (List.range m).foldl (stepR (rd_L1 c (n : Int)) (bestR (c.drop (n + 1))) t) (-1)), by simp, fun t ht => by simp [ht]⟩
    obtain ⟨K0, T, hT0, hTl, hTj⟩ := hall R1 hR1 hR1v
    obtain ⟨K, h⟩ := ra1_ev (x0 := c) (res := T) (Y := Y) (i := n) (m := m) (B := bestR (c.drop (n + 1)))
      (by omega) (by omega) (by omega) hm hrow (by rw [hnext, tabR_length]) (fun (t : Nat) ht => by rw [hnext, tabR_get m _ t ht]) (fun t => bestR_bound t hlr hgt)
      (2 ^ m) 0 (List.replicate (2 ^ m) 0) (by omega) (by simp) (fun t ht => by omega) (fun R' hR' hR => by
        have : R' = R1 := by
          apply List.ext_getElem (by omega)
          intro i h1 h2
          have a1 := hR i (by omega)
          have a2 := hR1v i (by omega)
          rw [List.getD_eq_getElem?_getD, List.getElem?_eq_getElem h1] at a1
          rw [List.getD_eq_getElem?_getD, List.getElem?_eq_getElem h2] at a2
          simpa using a1.trans a2.symm
        subst this
        exact ⟨K0, hT0⟩)
    refine ⟨K + 1, T, ?_, hTl, hTj⟩
    have e : ((n + 1 : Nat) : Int) - 1 = (n : Int) := by omega
    rw [e]
    simp only [hypercuberef9_ahead.l0]
    rw [hu.out, shl_one m hm, if_pos (by omega), if_pos (by omega), if_pos (by omega), if_pos (by omega), if_pos (by omega), if_pos (by omega)]
    simp only [Int.toNat_natCast]
    exact h
end

theorem rahead_ev {c : List (List Int)} {m : Nat} (hc : c.length ≤ 12) (hm : m ≤ 12) (hg : Good m c) (h0 : 0 < c.length) (hlen : (rd_L1 c 0).length = m) :
    ∃ K T, hypercuberef9_ahead.f K c = some T ∧ T.length = c.length + 1 ∧ (∀ j, j ≤ c.length → rd_L1 T (j : Int) = tabR m (c.drop j)) := by
  have hp := pow12 hm
  have hw := Aside0.mk (show wrap64 ((c.length : Int) + 1) = ((c.length + 1 : Nat) : Int) by rw [wrap_small _ (by omega) (by omega)]; omega)
  have hw2 := Aside0.mk (show wrap64 ((c.length : Int) - 1) = (c.length : Int) - 1 from wrap_small _ (by omega) (by omega))
  have hu := Aside0.mk (u64_small (m : Int) (by omega) (by omega))
  have hs0 : 0 < 2 ^ m := Nat.pos_of_ne_zero (by simp)
  obtain ⟨K, T, h, hT⟩ := ra0_ev hc hm hg c.length ((List.replicate (c.length + 1) []).set c.length (List.replicate (2 ^ m) 0)) (Nat.le_refl _) (by simp) (fun j h1 h2 => by
    obtain rfl : c.length = j := by omega
    rw [rdL1_set _ _ _ (by simp)]
    refine tabR_ext m _ _ (by simp) (fun t ht => ?_)
    rw [List.drop_eq_nil_of_le (Nat.le_refl _)]
    simp [bestR, best, ht, conv, HOPE])
  refine ⟨K, T, ?_, hT⟩
  unfold hypercuberef9_ahead.f
  rw [hw.out, hw2.out, hlen, hu.out, shl_one m hm]
  simp only [Int.toNat_natCast]
  rw [if_pos (by omega), if_pos (by omega), if_pos (by omega)]
  simp only [Option.bind_some]
  rw [if_pos (by omega), if_pos (by omega), if_pos (by omega), if_pos (by omega)]
  simp only [List.length_replicate]
  rw [if_pos (by omega)]
  exact h

section
variable {c T : List (List Int)} {res : List Int × Int × Bool} {m : Nat}

theorem rs1_ev {i s k0 : Nat} {acc : List Int} (hc : c.length ≤ 12) (hm : m ≤ 12) (hg : Good m c) (hTl : T.length = c.length + 1) (hT : ∀ j, j ≤ c.length → rd_L1 T (j : Int) = tabR m (c.drop j))
    (hi : i < c.length) (hs : s < 2 ^ m) (hacc : acc.length ≤ 12) (hb : best (c.drop i) s < HOPE)
    (hk0 : k0 < m) (hf0 : s.testBit k0 = false) (he0 : (rd_L1 c (i : Int)).getD k0 0 + best (c.drop (i + 1)) (s ||| 2 ^ k0) = best (c.drop i) s)
    (hmin : ∀ j, j < k0 → hit (rd_L1 c (i : Int)) (best (c.drop (i + 1))) (best (c.drop i) s) s j = false)
    (hnext : ∃ K, hypercuberef9_Assign.l0 K c T (acc ++ [(k0 : Int)]) ((s ||| 2 ^ k0 : Nat) : Int) ((i + 1 : Nat) : Int) = some res) :
    ∀ (n k : Nat), k + n = k0 → ∃ K, hypercuberef9_Assign.l1 K c T acc (s : Int) (i : Int) (k : Int) = some res := by
  have hp := pow12 hm
  have hi1 := Aside0.mk (show wrap64 ((i : Int) + 1) = ((i + 1 : Nat) : Int) by rw [wrap_small _ (by omega) (by omega)]; omega)
  have hrow := good_row hg i hi
  have hlr : (c.drop (i + 1)).length ≤ 12 := by simp; omega
  have hl0 : (c.drop i).length ≤ 12 := by simp; omega
  have hgt : Good m (c.drop (i + 1)) := hg.tail (i + 1)
  have hcur : (rd_L1 T (i : Int)).length = 2 ^ m := by rw [hT i (by omega), tabR_length]
  have hcurv : rd (rd_L1 T (i : Int)) (s : Int) = best (c.drop i) s := by
    rw [hT i (by omega), tabR_get m _ s hs]
    unfold bestR conv
    rw [if_neg (by unfold HOPE at *; omega)]
  have hnl : (rd_L1 T ((i + 1 : Nat) : Int)).length = 2 ^ m := by rw [hT (i + 1) (by omega), tabR_length]
  have hnv : ∀ t : Nat, t < 2 ^ m → rd (rd_L1 T ((i + 1 : Nat) : Int)) (t : Int) = bestR (c.drop (i + 1)) t := fun t ht => by rw [hT (i + 1) (by omega), tabR_get m _ t ht]
  intro n
  induction n with
  | zero =>
    intro k hk
    obtain rfl : k = k0 := by omega
    obtain ⟨K, h⟩ := hnext
    have hu := Aside0.mk (u64_small (k : Int) (by omega) (by omega))
    have ho := or_lt hs hk0
    have hr := hrow.2 k
    have hbb := best_bound m _ (s ||| 2 ^ k) hlr hgt
    have hbR : bestR (c.drop (i + 1)) (s ||| 2 ^ k) = best (c.drop (i + 1)) (s ||| 2 ^ k) := by
      unfold bestR conv
      rw [if_neg (by unfold HOPE at *; omega)]
    have hfin : best (c.drop (i + 1)) (s ||| 2 ^ k) < HOPE := by unfold HOPE at *; omega
    unfold HOPE at hbb hfin
    refine ⟨K + 1, ?_⟩
    simp only [hypercuberef9_Assign.l1]
    rw [hu.out, if_pos (by omega), bit_and s k (by omega) (by omega), if_neg (by simp [hf0]), bit_or s k (by omega) (by omega), hi1.out, hnl, hnv _ ho, hcur, hcurv, hbR, rd_nat (rd_L1 c (i : Int)),
      hrow.1, wrap_small (best (c.drop (i + 1)) (s ||| 2 ^ k) + (rd_L1 c (i : Int)).getD k 0) (by omega) (by omega)]
    rw [if_pos (by omega), if_pos (by omega), if_pos (by omega), if_pos (by omega), if_neg (by omega), if_pos (by omega), if_pos (by omega), if_pos (by omega), if_pos (by omega), if_pos (by omega), if_pos (by omega), if_pos (by omega), if_pos (by omega), if_pos (by omega)]
    exact h
  | succ n ih =>
    intro k hk
    obtain ⟨K, h⟩ := ih (k + 1) (by omega)
    have hk1 := Aside0.mk (show wrap64 ((k : Int) + 1) = ((k + 1 : Nat) : Int) by rw [wrap_small _ (by omega) (by omega)]; omega)
    have hu := Aside0.mk (u64_small (k : Int) (by omega) (by omega))
    have hh := hmin k (by omega)
    refine ⟨K + 1, ?_⟩
    simp only [hypercuberef9_Assign.l1]
    rw [hu.out, if_pos (by omega), bit_and s k (by omega) (by omega), hk1.out]
    by_cases ht : s.testBit k = true
    · rw [if_pos ht, if_pos rfl]
      exact h
    · rw [if_neg ht, if_neg (by omega)]
      have ho := or_lt hs (show k < m by omega)
      have hr := hrow.2 k
      have hbb := best_bound m _ (s ||| 2 ^ k) hlr hgt
      have hne : (rd_L1 c (i : Int)).getD k 0 + best (c.drop (i + 1)) (s ||| 2 ^ k) ≠ best (c.drop i) s := by
        intro e
        rw [hit, decide_eq_true e] at hh
        simp at hh
        exact ht (by simpa using hh)
      rw [bit_or s k (by omega) (by omega), hi1.out, hnl, hnv _ ho, hcur, hcurv, rd_nat (rd_L1 c (i : Int)), hrow.1, if_pos (by omega), if_pos (by omega), if_pos (by omega), if_pos (by omega)]
      by_cases hH : best (c.drop (i + 1)) (s ||| 2 ^ k) = HOPE
      · have hbR : bestR (c.drop (i + 1)) (s ||| 2 ^ k) = -1 := by unfold bestR conv; rw [if_pos hH]
        rw [hbR, if_pos (by omega)]
        exact h
      · have hbR : bestR (c.drop (i + 1)) (s ||| 2 ^ k) = best (c.drop (i + 1)) (s ||| 2 ^ k) := by unfold bestR conv; rw [if_neg hH]
        rw [hbR]
        have hfin : 0 ≤ best (c.drop (i + 1)) (s ||| 2 ^ k) ∧ best (c.drop (i + 1)) (s ||| 2 ^ k) ≤ 12000000 := by unfold HOPE at *; omega
        rw [wrap_small _ (by omega) (by omega)]
        rw [if_neg (by omega), if_pos (by omega), if_pos (by omega), if_pos (by omega), if_pos (by omega), if_pos (by omega), if_pos (by omega), if_pos (by omega), if_neg (by omega)]
        exact h

theorem rs0_ev (hc : c.length ≤ 12) (hm : m ≤ 12) (hg : Good m c) (hTl : T.length = c.length + 1) (hT : ∀ j, j ≤ c.length → rd_L1 T (j : Int) = tabR m (c.drop j)) (hfe : best c 0 < HOPE) (hs0 : 0 < 2 ^ m) :
    ∀ (n i s : Nat) (acc : List Int), i + n = c.length → s < 2 ^ m → acc.length ≤ i → best (c.drop i) s < HOPE →
      ∃ K, hypercuberef9_Assign.l0 K c T acc (s : Int) (i : Int) = some (acc ++ pick (c.drop i) s, best c 0, true) := by
  intro n
  induction n with
  | zero =>
    intro i s acc hi hs ha hb
    refine ⟨1, ?_⟩
    have e : rd_L1 T 0 = tabR m (c.drop 0) := hT 0 (by omega)
    have hl : (rd_L1 T 0).length = 2 ^ m := by rw [e, tabR_length]
    simp only [hypercuberef9_Assign.l0]
    rw [if_neg (by omega), if_pos (by omega), hl, if_pos (by omega)]
    have : rd (rd_L1 T 0) 0 = best c 0 := by
      have := tabR_get m (c.drop 0) 0 hs0
      rw [e]
      have h2 : bestR (c.drop 0) 0 = best c 0 := by unfold bestR conv; rw [List.drop_zero, if_neg (by unfold HOPE at *; omega)]
      rw [← h2]
      exact this
    rw [this, List.drop_eq_nil_of_le (by omega)]
    simp [pick]
  | succ n ih =>
    intro i s acc hi hs ha hb
    have hic : i < c.length := by omega
    have hrow := good_row hg i hic
    have hd := drop_cons_of c i hic
    have hb' : best (rd_L1 c (i : Int) :: c.drop (i + 1)) s < HOPE := by rw [← hd]; exact hb
    obtain ⟨k0, hfk, hk0, hf0, he0, hmin⟩ := find_hit hrow hb'
    have hnext : best (c.drop (i + 1)) (s ||| 2 ^ k0) < HOPE := by
      have := (hrow.2 k0).1
      unfold HOPE at *
      omega
    have hih := ih (i + 1) (s ||| 2 ^ k0) (acc ++ [(k0 : Int)]) (by omega) (or_lt hs hk0) (by simp; omega) hnext
    have hpk := pick_cons hrow hfk
    rw [← hd] at hpk he0 hmin
    obtain ⟨K, h⟩ := rs1_ev (acc := acc) (res := (acc ++ pick (c.drop i) s, best c 0, true)) hc hm hg hTl hT hic hs (by omega) hb hk0 hf0 he0 hmin (by rw [hpk]; simpa using hih) k0 0 (by omega)
    refine ⟨K + 1, ?_⟩
    simp only [hypercuberef9_Assign.l0]
    rw [if_pos (by omega)]
    exact h
end

/-- What the document's Assign computes. -/
theorem rassign_ev (c : List (List Int)) : ∃ K, hypercuberef9_Assign.f K c = some (assign c) := by
  obtain ⟨K1, h1⟩ := rright_ev c
  by_cases hr : right c = true
  · obtain ⟨h12, m, hm, hcm, hg, hhead⟩ := good_of_right hr
    by_cases h0 : c = []
    · subst h0
      refine ⟨K1, ?_⟩
      unfold hypercuberef9_Assign.f assign
      rw [h1, hr]
      simp [pick, best]
    · have hpos : 0 < c.length := List.length_pos_iff.mpr h0
      have hlen : (rd_L1 c 0).length = m := by rw [← rdL_rd]; exact hhead h0
      have hs0 : 0 < 2 ^ m := Nat.pos_of_ne_zero (by simp)
      have hfe : best c 0 < HOPE := feas m c 0 h12 hg (by rw [frees_zero]; exact hcm)
      obtain ⟨K2, T, h2, hTl, hT⟩ := rahead_ev h12 hm hg hpos hlen
      obtain ⟨K3, h3⟩ := rs0_ev h12 hm hg hTl hT hfe hs0 c.length 0 0 [] (by omega) hs0 (by simp) (by simpa using hfe)
      have m1 : ∀ d, hypercuberef9_right.f (K1 + d) c = some (right c) := fun d => by
        induction d with
        | zero => exact h1
        | succ d ih => exact hypercuberef9_right.mono c (K1 + d) _ ih
      have m2 : ∀ d, hypercuberef9_ahead.f (K2 + d) c = some T := fun d => by
        induction d with
        | zero => exact h2
        | succ d ih => exact hypercuberef9_ahead.mono c (K2 + d) _ ih
      have m3 : ∀ d, hypercuberef9_Assign.l0 (K3 + d) c T [] ((0 : Nat) : Int) ((0 : Nat) : Int) = some ([] ++ pick (c.drop 0) 0, best c 0, true) := fun d => by
        induction d with
        | zero => exact h3
        | succ d ih => exact (hypercuberef9_Assign.mono_l (K3 + d)).1 _ _ _ _ _ _ ih
      refine ⟨K1 + K2 + K3, ?_⟩
      unfold hypercuberef9_Assign.f assign
      rw [show K1 + K2 + K3 = K1 + (K2 + K3) by omega, m1, hr]
      simp only [Option.bind_some, if_true]
      rw [if_neg (by omega), show K1 + (K2 + K3) = K2 + (K1 + K3) by omega, m2]
      simp only [Option.bind_some]
      rw [show K2 + (K1 + K3) = K3 + (K1 + K2) by omega]
      have := m3 (K1 + K2)
      simpa using this
  · refine ⟨K1, ?_⟩
    unfold hypercuberef9_Assign.f assign
    have hr' : right c = false := by simpa using hr
    rw [h1, hr']
    simp

/-- The document's Assign is this choice. -/
theorem rassign_calls (A0 : Option Addr) (c0 : Nat) (l0 : List (List Int)) (w : World) (hr0 : Kd.C (Kd.slice 3 (Kd.int .i64)) w A0 l0.length l0) (hc0 : l0.length ≤ c0) :
    Calls Try.prog 16 #[.slice A0 l0.length c0] w fun e w' => ∃ v0_ : Value, e = .returned (.tuple #[v0_, .int .i64 (assign l0).2.1, .bool (assign l0).2.2]) ∧ Kd.R (Kd.int .i64) 3 w' w.heap.size (fun _ => True) v0_ (assign l0).1 ∧ Below w.heap.size w w' := by
  obtain ⟨K, h⟩ := rassign_ev l0
  exact hypercuberef9_Assign.calls K A0 c0 l0 _ _ _ w hr0 hc0 h
end Go.Proofs.Ytgnkpahnhhmceaa.Core
