-- Cut by pack.py, a program of this session; not trusted: Lean checks it.
import Derived.Test.YtgnkpahnhhmceaaZCore2
import Derived.Test.YtgnkpahnhhmceaaZCore3
/- What match.Assign computes is the choice of Core3: its loops, one by one. -/
namespace Go.Proofs.Ytgnkpahnhhmceaa.Core
set_option maxHeartbeats 4000000
open Go.RowKit Go.Proofs.YtgnkpahnhhmceaaW.PrintWords Go.Proofs.YtgnkpahnhhmceaaW.PrintLast Go.Proofs.YtgnkpahnhhmceaaW.PrintMore
set_option linter.unusedVariables false
set_option linter.unusedSimpArgs false

theorem rdL1_nat (Y : List (List Int)) (i : Nat) : rd_L1 Y (i : Int) = Y.getD i [] := by simp [rd_L1]
theorem rdL1_set (Y : List (List Int)) (i : Nat) (X : List Int) (h : i < Y.length) : rd_L1 (Y.set i X) (i : Int) = X := by simp [rd_L1, h]
theorem rdL1_set_ne (Y : List (List Int)) (i j : Nat) (X : List Int) (h : i ≠ j) : rd_L1 (Y.set i X) (j : Int) = rd_L1 Y (j : Int) := by
  simp [rd_L1, List.getD_eq_getElem?_getD, List.getElem?_set, h]

section
variable {x0 : List (List Int)} {x6 : Int} {res : List Int × Int × Bool}

theorem l2_ev {Y : List (List Int)} {R row : List Int} {i s m : Nat} {x53 : Int} {B : Nat → Int} (hi : i + 1 < Y.length) (hi2 : i ≤ 12) (hR : R.length = 2 ^ m) (hs : s < 2 ^ m) (hm : m ≤ 12)
    (hrow : GoodRow m row) (hT : (rd_L1 Y ((i + 1 : Nat) : Int)).length = 2 ^ m) (hB : ∀ t : Nat, t < 2 ^ m → rd (rd_L1 Y ((i + 1 : Nat) : Int)) (t : Int) = B t) (hb : ∀ t : Nat, 0 ≤ B t ∧ B t ≤ HOPE) :
    ∀ (n k : Nat) (v : Int), k + n = m → (∃ K, match_Assign.l1 K x0 x6 (Y.set i (R.set s (((List.range m).drop k).foldl (step row B s) v))) (i : Int) x53 ((s + 1 : Nat) : Int) = some res) →
      ∃ K, match_Assign.l2 K x0 x6 (Y.set i (R.set s v)) (i : Int) (s : Int) x53 (s : Int) row (row.length : Int) (k : Int) = some res := by
  have hp := pow12 hm
  have hs1 := Aside0.mk (show wrap64 ((s : Int) + 1) = ((s + 1 : Nat) : Int) by rw [wrap_small _ (by omega) (by omega)]; omega)
  have hi1 := Aside0.mk (show wrap64 ((i : Int) + 1) = ((i + 1 : Nat) : Int) by rw [wrap_small _ (by omega) (by omega)]; omega)
  have hsL : s < R.length := by omega
  intro n
  induction n with
  | zero =>
    rintro k v hk ⟨K, h⟩
    refine ⟨K + 1, ?_⟩
    rw [List.drop_eq_nil_of_le (by simp; omega)] at h
    simp only [match_Assign.l2]
    rw [if_neg (by rw [hrow.1]; omega), hs1.out]
    exact h
  | succ n ih =>
    rintro k v hk ⟨K, h⟩
    have hk1 := Aside0.mk (show wrap64 ((k : Int) + 1) = ((k + 1 : Nat) : Int) by rw [wrap_small _ (by omega) (by omega)]; omega)
    rw [drop_range m k (by omega), List.foldl_cons] at h
    obtain ⟨K', h'⟩ := ih (k + 1) (step row B s v k) (by omega) ⟨K, h⟩
    refine ⟨K' + 1, ?_⟩
    have hkr : (k : Int) < (row.length : Int) := by rw [hrow.1]; omega
    simp only [match_Assign.l2]
    rw [if_pos hkr, if_pos (by omega), if_pos hkr, bit_and s k (by omega) (by omega), hk1.out]
    unfold step at h'
    by_cases ht : s.testBit k = true
    · rw [if_pos ht, if_neg (by omega)]
      rw [if_pos ht] at h'
      exact h'
    · rw [if_neg ht, if_pos rfl]
      rw [if_neg ht] at h'
      have ho := or_lt hs (show k < m by omega)
      have hr := hrow.2 k
      have hb' := hb (s ||| 2 ^ k)
      unfold HOPE at hb'
      rw [bit_or s k (by omega) (by omega), hi1.out, rdL1_set _ _ _ (by omega), rdL1_set_ne _ _ _ _ (by omega), hT, hB _ ho, rd_nat row, rd_set _ _ _ hsL,
        wrap_small _ (by omega) (by omega)]
      simp only [List.length_set, Int.toNat_natCast, List.set_set, hR]
      rw [if_pos (by omega), if_pos (by omega), if_pos (by omega), if_pos (by omega), if_pos (by omega), if_pos (by omega), if_pos (by omega), if_pos (by omega)]
      exact h'

theorem l1_ev {Y : List (List Int)} {i m : Nat} {B : Nat → Int} (hi : i + 1 < Y.length) (hi0 : i < x0.length) (hi2 : i ≤ 12) (hm : m ≤ 12)
    (hrow : GoodRow m (rd_L1 x0 (i : Int))) (hT : (rd_L1 Y ((i + 1 : Nat) : Int)).length = 2 ^ m) (hB : ∀ t : Nat, t < 2 ^ m → rd (rd_L1 Y ((i + 1 : Nat) : Int)) (t : Int) = B t) (hb : ∀ t : Nat, 0 ≤ B t ∧ B t ≤ HOPE) :
    ∀ (n s : Nat) (R : List Int), s + n = 2 ^ m → R.length = 2 ^ m → (∀ t, t < s → R.getD t 0 = (List.range m).foldl (step (rd_L1 x0 (i : Int)) B t) HOPE) →
      (∀ R' : List Int, R'.length = 2 ^ m → (∀ t, t < 2 ^ m → R'.getD t 0 = (List.range m).foldl (step (rd_L1 x0 (i : Int)) B t) HOPE) → ∃ K, match_Assign.l0 K x0 x6 (Y.set i R') ((i : Int) - 1) = some res) →
      ∃ K, match_Assign.l1 K x0 x6 (Y.set i R) (i : Int) ((2 ^ m : Nat) : Int) (s : Int) = some res := by
  have hp := pow12 hm
  have hi1 := Aside0.mk (show wrap64 ((i : Int) - 1) = (i : Int) - 1 from wrap_small _ (by omega) (by omega))
  intro n
  induction n with
  | zero =>
    intro s R hs hR hpre hfin
    obtain ⟨K, h⟩ := hfin R hR (fun t ht => hpre t (by omega))
    refine ⟨K + 1, ?_⟩
    simp only [match_Assign.l1]
    rw [if_neg (by omega), hi1.out]
    exact h
  | succ n ih =>
    intro s R hs hR hpre hfin
    have hs2 : s < 2 ^ m := by omega
    obtain ⟨K, h⟩ := ih (s + 1) (R.set s ((List.range m).foldl (step (rd_L1 x0 (i : Int)) B s) HOPE)) (by omega) (by simpa using hR) (fun t ht => by
      rw [List.getD_eq_getElem?_getD, List.getElem?_set]
      by_cases he : s = t
      · subst he
        simp [hR, hs2]
      · rw [if_neg he]
        have := hpre t (by omega)
        rwa [List.getD_eq_getElem?_getD] at this) hfin
    obtain ⟨K', h'⟩ := l2_ev (x0 := x0) (x6 := x6) (res := res) (Y := Y) (R := R) (x53 := ((2 ^ m : Nat) : Int)) hi hi2 hR hs2 hm hrow hT hB hb m 0 HOPE (by omega) ⟨K, by simpa using h⟩
    refine ⟨K' + 1, ?_⟩
    simp only [match_Assign.l1]
    rw [rdL1_set _ _ _ (by omega)]
    simp only [List.length_set, Int.toNat_natCast, List.set_set, hR]
    rw [if_pos (by omega), if_pos (by omega), if_pos (by omega), if_pos (by omega), if_pos (by omega), if_pos (by omega)]
    exact h'

theorem l4_ev {Y : List (List Int)} {row : List Int} {i s m : Nat} {x110 : Int} {B : Nat → Int} {b : Int} {x2 : List Int} {x109 : List (List Int)} (hi : i + 1 < Y.length) (hi2 : i ≤ 12) (hs : s < 2 ^ m) (hm : m ≤ 12) (hx2 : x2.length ≤ 12)
    (hrow : GoodRow m row) (hT : (rd_L1 Y ((i + 1 : Nat) : Int)).length = 2 ^ m) (hB : ∀ t : Nat, t < 2 ^ m → rd (rd_L1 Y ((i + 1 : Nat) : Int)) (t : Int) = B t) (hb : ∀ t : Nat, 0 ≤ B t ∧ B t ≤ HOPE)
    (hT0 : (rd_L1 Y (i : Int)).length = 2 ^ m) (hB0 : rd (rd_L1 Y (i : Int)) (s : Int) = b) :
    ∀ (n k : Nat), k + n = m →
      (match ((List.range m).drop k).find? (hit row B b s) with
        | some k => ∃ K, match_Assign.l3 K (x2 ++ [(k : Int)]) Y ((s ||| 2 ^ k : Nat) : Int) x109 x110 ((i + 1 : Nat) : Int) = some res
        | none => ∃ K, match_Assign.l3 K x2 Y (s : Int) x109 x110 ((i + 1 : Nat) : Int) = some res) →
      ∃ K, match_Assign.l4 K x2 Y (s : Int) (i : Int) x109 x110 (i : Int) row (row.length : Int) (k : Int) = some res := by
  have hp := pow12 hm
  have hi1 := Aside0.mk (show wrap64 ((i : Int) + 1) = ((i + 1 : Nat) : Int) by rw [wrap_small _ (by omega) (by omega)]; omega)
  intro n
  induction n with
  | zero =>
    intro k hk h
    rw [List.drop_eq_nil_of_le (by simp; omega)] at h
    simp only [List.find?_nil] at h
    obtain ⟨K, h⟩ := h
    refine ⟨K + 1, ?_⟩
    simp only [match_Assign.l4]
    rw [if_neg (by rw [hrow.1]; omega), hi1.out]
    exact h
  | succ n ih =>
    intro k hk h
    have hk1 := Aside0.mk (show wrap64 ((k : Int) + 1) = ((k + 1 : Nat) : Int) by rw [wrap_small _ (by omega) (by omega)]; omega)
    have hkr : (k : Int) < (row.length : Int) := by rw [hrow.1]; omega
    rw [drop_range m k (by omega), List.find?_cons] at h
    by_cases ht : s.testBit k = true
    · have hh : hit row B b s k = false := by simp [hit, ht]
      rw [hh] at h
      obtain ⟨K, h⟩ := ih (k + 1) (by omega) h
      refine ⟨K + 1, ?_⟩
      simp only [match_Assign.l4]
      rw [if_pos hkr, if_pos (by omega), if_pos hkr, bit_and s k (by omega) (by omega), hk1.out, if_pos ht, if_neg (by omega)]
      exact h
    · have ho := or_lt hs (show k < m by omega)
      have hr := hrow.2 k
      have hb' := hb (s ||| 2 ^ k)
      unfold HOPE at hb'
      by_cases he : row.getD k 0 + B (s ||| 2 ^ k) = b
      · have hh : hit row B b s k = true := by simp only [hit, Bool.and_eq_true]; exact ⟨by simpa using ht, decide_eq_true he⟩
        rw [hh] at h
        obtain ⟨K, h⟩ := h
        refine ⟨K + 1, ?_⟩
        simp only [match_Assign.l4]
        rw [if_pos hkr, if_pos (by omega), if_pos hkr, bit_and s k (by omega) (by omega), hk1.out, if_neg ht, if_pos rfl]
        rw [bit_or s k (by omega) (by omega), hi1.out, hT, hB _ ho, rd_nat row, hB0, hT0, wrap_small _ (by omega) (by omega)]
        rw [if_pos (by omega), if_pos (by omega), if_pos (by omega), if_pos (by omega), if_pos (by omega), if_pos (by omega), if_pos (by omega), if_pos (by omega), if_pos he, if_pos (by omega)]
        exact h
      · have hh : hit row B b s k = false := by simp only [hit, Bool.and_eq_false_iff]; right; exact decide_eq_false he
        rw [hh] at h
        obtain ⟨K, h⟩ := ih (k + 1) (by omega) h
        refine ⟨K + 1, ?_⟩
        simp only [match_Assign.l4]
        rw [if_pos hkr, if_pos (by omega), if_pos hkr, bit_and s k (by omega) (by omega), hk1.out, if_neg ht, if_pos rfl]
        rw [bit_or s k (by omega) (by omega), hi1.out, hT, hB _ ho, rd_nat row, hB0, hT0, wrap_small _ (by omega) (by omega)]
        rw [if_pos (by omega), if_pos (by omega), if_pos (by omega), if_pos (by omega), if_pos (by omega), if_pos (by omega), if_pos (by omega), if_pos (by omega), if_neg he]
        exact h

theorem drop_cons_of (c : List (List Int)) (i : Nat) (h : i < c.length) : c.drop i = rd_L1 c (i : Int) :: c.drop (i + 1) := by
  rw [List.drop_eq_getElem_cons h, rdL1_nat]
  simp [h]

theorem good_row {m : Nat} {c : List (List Int)} (hg : Good m c) (i : Nat) (h : i < c.length) : GoodRow m (rd_L1 c (i : Int)) := by
  rw [rdL1_nat]
  have : c.getD i [] = c[i] := by simp [h]
  rw [this]
  exact hg _ (List.getElem_mem h)

theorem l3_ev {c Y : List (List Int)} {m : Nat} (hc : c.length ≤ 12) (hm : m ≤ 12) (hg : Good m c) (hY : Y.length = c.length + 1) (hT : ∀ j, j ≤ c.length → rd_L1 Y (j : Int) = tab m (c.drop j)) (hs0 : 0 < 2 ^ m) :
    ∀ (n i s : Nat) (acc : List Int), i + n = c.length → s < 2 ^ m → acc.length ≤ i →
      ∃ K, match_Assign.l3 K acc Y (s : Int) c (c.length : Int) (i : Int) = some (acc ++ pick (c.drop i) s, best c 0, true) := by
  intro n
  induction n with
  | zero =>
    intro i s acc hi hs ha
    refine ⟨1, ?_⟩
    have h0 := hT 0 (by omega)
    have hl : (rd_L1 Y 0).length = 2 ^ m := by
      have : rd_L1 Y 0 = tab m (c.drop 0) := h0
      rw [this, tab_length]
    simp only [match_Assign.l3]
    rw [if_neg (by omega), if_pos (by omega), hl, if_pos (by omega)]
    have : rd (rd_L1 Y 0) 0 = best c 0 := by
      have e : rd_L1 Y 0 = tab m (c.drop 0) := h0
      have := tab_get m (c.drop 0) 0 hs0
      rw [e]
      simpa using this
    rw [this, List.drop_eq_nil_of_le (by omega)]
    simp [pick]
  | succ n ih =>
    intro i s acc hi hs ha
    have hic : i < c.length := by omega
    have hrow := good_row hg i hic
    have hnext := hT (i + 1) (by omega)
    have hcur := hT i (by omega)
    have hlr : (c.drop (i + 1)).length ≤ 12 := by simp; omega
    have key := l4_ev (res := (acc ++ pick (c.drop i) s, best c 0, true)) (Y := Y) (row := rd_L1 c (i : Int)) (i := i) (s := s) (m := m) (x110 := (c.length : Int)) (B := best (c.drop (i + 1))) (b := best (c.drop i) s) (x2 := acc) (x109 := c)
      (by omega) (by omega) hs hm (by omega) hrow (by rw [hnext, tab_length]) (fun (t : Nat) ht => by rw [hnext, tab_get m _ t ht]) (best_range hlr (hg.tail (i + 1)))
      (by rw [hcur, tab_length]) (by rw [hcur, tab_get m _ s hs]) m 0 (by omega) (by
        rw [drop_cons_of c i hic, List.drop_zero]
        unfold pick
        rw [hrow.1]
        cases hf : (List.range m).find? (hit (rd_L1 c (i : Int)) (best (c.drop (i + 1))) (best (rd_L1 c (i : Int) :: c.drop (i + 1)) s) s) with
        | none =>
          simp only
          exact ih (i + 1) s acc (by omega) hs (by omega)
        | some k =>
          simp only
          have hk : k < m := by
            have := List.mem_of_find?_eq_some hf
            simpa using this
          have := ih (i + 1) (s ||| 2 ^ k) (acc ++ [(k : Int)]) (by omega) (or_lt hs hk) (by simp; omega)
          simpa using this)
    obtain ⟨K, h⟩ := key
    refine ⟨K + 1, ?_⟩
    simp only [match_Assign.l3]
    rw [if_pos (by omega), if_pos (by omega), if_pos (by omega)]
    exact h

theorem l0_ev {c : List (List Int)} {m : Nat} (hc : c.length ≤ 12) (hm : m ≤ 12) (hg : Good m c) (hs0 : 0 < 2 ^ m) :
    ∀ (n : Nat) (Y : List (List Int)), n ≤ c.length → Y.length = c.length + 1 → (∀ j, n ≤ j → j ≤ c.length → rd_L1 Y (j : Int) = tab m (c.drop j)) →
      ∃ K, match_Assign.l0 K c (m : Int) Y ((n : Int) - 1) = some (pick c 0, best c 0, true) := by
  have hp := pow12 hm
  intro n
  induction n with
  | zero =>
    intro Y _ hY hT
    obtain ⟨K, h⟩ := l3_ev hc hm hg hY (fun j hj => hT j (by omega) hj) hs0 c.length 0 0 [] (by omega) hs0 (by simp)
    refine ⟨K + 1, ?_⟩
    simp only [match_Assign.l0]
    rw [if_neg (by omega)]
    simpa using h
  | succ n ih =>
    intro Y hn hY hT
    have hnext := hT (n + 1) (by omega) (by omega)
    have hlr : (c.drop (n + 1)).length ≤ 12 := by simp; omega
    have hrow := good_row hg n (by omega)
    obtain ⟨K, h⟩ := l1_ev (x0 := c) (x6 := (m : Int)) (res := (pick c 0, best c 0, true)) (Y := Y) (i := n) (m := m) (B := best (c.drop (n + 1)))
      (by omega) (by omega) (by omega) hm hrow (by rw [hnext, tab_length]) (fun (t : Nat) ht => by rw [hnext, tab_get m _ t ht]) (best_range hlr (hg.tail (n + 1)))
      (2 ^ m) 0 (List.replicate (2 ^ m) 0) (by omega) (by simp) (fun t ht => by omega) (fun R' hR' hR => by
        refine ih (Y.set n R') (by omega) (by simpa using hY) (fun j h1 h2 => ?_)
        by_cases hj : n = j
        · subst hj
          rw [rdL1_set _ _ _ (by omega)]
          refine tab_ext m _ R' hR' (fun t ht => ?_)
          rw [hR t ht, drop_cons_of c n (by omega)]
          show _ = (List.range (rd_L1 c (n : Int)).length).foldl _ HOPE
          rw [hrow.1]
        · rw [rdL1_set_ne _ _ _ _ hj]
          exact hT j (by omega) h2)
    refine ⟨K + 1, ?_⟩
    have e : ((n + 1 : Nat) : Int) - 1 = (n : Int) := by omega
    rw [e]
    simp only [match_Assign.l0]
    rw [shl_one m hm, if_pos (by omega), if_pos (by omega), if_pos (by omega), if_pos (by omega), if_pos (by omega), if_pos (by omega)]
    simp only [Option.bind_some, Int.toNat_natCast]
    rw [rdL1_set _ _ _ (by omega), List.length_replicate]
    exact h
end

theorem rdL_rd (c : List (List Int)) : rdL c 0 = rd_L1 c 0 := rfl

/-- What match.Assign computes. -/
theorem assign_ev (c : List (List Int)) : ∃ K, match_Assign.f K c = some (assign c) := by
  unfold match_Assign.f match_right.f assign
  by_cases hr : right c = true
  · obtain ⟨h12, m, hm, hcm, hg, hhead⟩ := good_of_right hr
    rw [hr]
    simp only [Option.bind_some, if_true]
    by_cases h0 : c = []
    · subst h0
      exact ⟨0, by simp [pick, best]⟩
    · have hpos : 0 < c.length := List.length_pos_iff.mpr h0
      have hw := Aside0.mk (show wrap64 ((c.length : Int) + 1) = ((c.length + 1 : Nat) : Int) by rw [wrap_small _ (by omega) (by omega)]; omega)
      have hw2 := Aside0.mk (show wrap64 ((c.length : Int) - 1) = (c.length : Int) - 1 from wrap_small _ (by omega) (by omega))
      have hlen : (rd_L1 c 0).length = m := by rw [← rdL_rd]; exact hhead h0
      have hp := pow12 hm
      have hs0 : 0 < 2 ^ m := Nat.pos_of_ne_zero (by simp)
      obtain ⟨K, h⟩ := l0_ev h12 hm hg hs0 c.length ((List.replicate (c.length + 1) []).set c.length (List.replicate (2 ^ m) 0)) (Nat.le_refl _) (by simp) (fun j h1 h2 => by
        obtain rfl : c.length = j := by omega
        rw [rdL1_set _ _ _ (by simp)]
        refine tab_ext m _ _ (by simp) (fun t ht => ?_)
        rw [List.drop_eq_nil_of_le (Nat.le_refl _)]
        simp [best, ht])
      refine ⟨K, ?_⟩
      rw [hw.out, hw2.out, hlen, shl_one m hm]
      simp only [Int.toNat_natCast]
      rw [if_neg (by omega), if_pos (by omega), if_pos (by omega), if_pos (by omega), if_pos (by omega), if_pos (by omega), if_pos (by omega)]
      simp only [List.length_replicate]
      rw [if_pos (by omega)]
      exact h
  · refine ⟨0, ?_⟩
    have : right c = false := by simpa using hr
    rw [this]
    simp

/-- match.Assign is this choice. -/
theorem assign_calls (A0 : Option Addr) (c0 : Nat) (l0 : List (List Int)) (w : World) (hr0 : Kd.C (Kd.slice 3 (Kd.int .i64)) w A0 l0.length l0) (hc0 : l0.length ≤ c0) :
    Calls Try.prog 15 #[.slice A0 l0.length c0] w fun e w' => ∃ v0_ : Value, e = .returned (.tuple #[v0_, .int .i64 (assign l0).2.1, .bool (assign l0).2.2]) ∧ Kd.R (Kd.int .i64) 3 w' w.heap.size (fun _ => True) v0_ (assign l0).1 ∧ Below w.heap.size w w' := by
  obtain ⟨K, h⟩ := assign_ev l0
  exact match_Assign.calls K A0 c0 l0 _ _ _ w hr0 hc0 h
end Go.Proofs.Ytgnkpahnhhmceaa.Core
