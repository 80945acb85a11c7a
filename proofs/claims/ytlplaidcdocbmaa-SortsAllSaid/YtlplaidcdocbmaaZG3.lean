-- Cut and merged by pack.py, a program of this session; not trusted: Lean checks it.
import Derived.Test.YtlplaidcdocbmaaZM2
import Derived.Test.YtlplaidcdocbmaaZG2
import Derived.Deep.Draws
import Derived.Tactics
import Derived.Tactics2
import Derived.OwnWalk
import Derived.Outline
import Derived.Lib.Walk
import Derived.Lib.SliceRun
import Derived.Lib.QuietBelow
import Derived.Deep.RegionHeld3
import Derived.Deep.DeepCutAuto
section
namespace Go.Proofs.Ytlplaidcdocbmaa.Mat
set_option maxHeartbeats 4000000
open Go.RowKit Go.Proofs.YtlplaidcdocbmaaW.PrintWords Go.Proofs.YtlplaidcdocbmaaW.PrintLast Go.Proofs.YtlplaidcdocbmaaW.PrintMore
set_option linter.unusedVariables false
set_option linter.unusedSimpArgs false
theorem rdL1_nat (Y : List (List Int)) (i : Nat) : rd_L1 Y (i : Int) = Y.getD i [] := by simp [rd_L1]
theorem rdL1_set (Y : List (List Int)) (i : Nat) (X : List Int) (h : i < Y.length) : rd_L1 (Y.set i X) (i : Int) = X := by simp [rd_L1, h]
theorem rdL1_set_ne (Y : List (List Int)) (i j : Nat) (X : List Int) (h : i ≠ j) : rd_L1 (Y.set i X) (j : Int) = rd_L1 Y (j : Int) := by
  simp [rd_L1, List.getD_eq_getElem?_getD, List.getElem?_set, h]
section
variable {x0 : List (List Int)} {x6 : Int} {res : List Int × Int × Bool}
theorem l2_ev {Y : List (List Int)} {R row : List Int} {i s m : Nat} {x53 : Int} {B : Nat → Int} (hi : i + 1 < Y.length) (hi2 : i ≤ 12) (hR : R.length = 2 ^ m) (hs : s < 2 ^ m) (hm : m ≤ 12)
    (hrow : GoodRow m row) (hT : (rd_L1 Y ((i + 1 : Nat) : Int)).length = 2 ^ m) (hB : ∀ t : Nat, t < 2 ^ m → rd (rd_L1 Y ((i + 1 : Nat) : Int)) (t : Int) = B t) (hb : ∀ t : Nat, 0 ≤ B t ∧ B t ≤ HOPE) :
    ∀ (n k : Nat) (v : Int), k + n = m → (∃ K, match_Assign.l1 K x0 x6 (Y.set i (R.set s (((List.range m).drop k).foldl (step row B s) v))) (i : Int) x53 ((s + 1 : Nat) : Int) = some res) →
      ∃ K, match_Assign.l2 K x0 x6 (Y.set i (R.set s v)) (i : Int) (s : Int) x53 (s : Int) row (row.length : Int) (k : Int) = some res := by
  have hp := pow12 hm
  have hs1 := Aside0.mk (show wrap64 ((s : Int) + 1) = ((s + 1 : Nat) : Int) by rw [wrap_small _ (by omega) (by omega)]; omega)
  have hi1 := Aside0.mk (show wrap64 ((i : Int) + 1) = ((i + 1 : Nat) : Int) by rw [wrap_small _ (by omega) (by omega)]; omega)
  have hsL : s < R.length := by omega
  intro n
  induction n with
  | zero =>
    rintro k v hk ⟨K, h⟩
    refine ⟨K + 1, ?_⟩
    rw [List.drop_eq_nil_of_le (by simp; omega)] at h
    simp only [match_Assign.l2]
    rw [if_neg (by rw [hrow.1]; omega), hs1.out]
    exact h
  | succ n ih =>
    rintro k v hk ⟨K, h⟩
    have hk1 := Aside0.mk (show wrap64 ((k : Int) + 1) = ((k + 1 : Nat) : Int) by rw [wrap_small _ (by omega) (by omega)]; omega)
    rw [drop_range m k (by omega), List.foldl_cons] at h
    obtain ⟨K', h'⟩ := ih (k + 1) (step row B s v k) (by omega) ⟨K, h⟩
    refine ⟨K' + 1, ?_⟩
    have hkr : (k : Int) < (row.length : Int) := by rw [hrow.1]; omega
    simp only [match_Assign.l2]
    rw [if_pos hkr, if_pos (by omega), if_pos hkr, bit_and s k (by omega) (by omega), hk1.out]
    unfold step at h'
    by_cases ht : s.testBit k = true
    · rw [if_pos ht, if_neg (by omega)]
      rw [if_pos ht] at h'
      exact h'
    · rw [if_neg ht, if_pos rfl]
      rw [if_neg ht] at h'
      have ho := or_lt hs (show k < m by omega)
      have hr := hrow.2 k
      have hb' := hb (s ||| 2 ^ k)
      unfold HOPE at hb'
      rw [bit_or s k (by omega) (by omega), hi1.out, rdL1_set _ _ _ (by omega), rdL1_set_ne _ _ _ _ (by omega), hT, hB _ ho, rd_nat row, rd_set _ _ _ hsL,
        wrap_small _ (by omega) (by omega)]
      simp only [List.length_set, Int.toNat_natCast, List.set_set, hR]
      rw [if_pos (by omega), if_pos (by omega), if_pos (by omega), if_pos (by omega), if_pos (by omega), if_pos (by omega), if_pos (by omega), if_pos (by omega)]
      exact h'
theorem l1_ev {Y : List (List Int)} {i m : Nat} {B : Nat → Int} (hi : i + 1 < Y.length) (hi0 : i < x0.length) (hi2 : i ≤ 12) (hm : m ≤ 12)
    (hrow : GoodRow m (rd_L1 x0 (i : Int))) (hT : (rd_L1 Y ((i + 1 : Nat) : Int)).length = 2 ^ m) (hB : ∀ t : Nat, t < 2 ^ m → rd (rd_L1 Y ((i + 1 : Nat) : Int)) (t : Int) = B t) (hb : ∀ t : Nat, 0 ≤ B t ∧ B t ≤ HOPE) :
    ∀ (n s : Nat) (R : List Int), s + n = 2 ^ m → R.length = 2 ^ m → (∀ t, t < s → R.getD t 0 = (List.range m).foldl (step (rd_L1 x0 (i : Int)) B t) HOPE) →
      (∀ R' : List Int, R'.length = 2 ^ m → (∀ t, t < 2 ^ m → R'.getD t 0 = (List.range m).foldl (step (rd_L1 x0 (i : Int)) B t) HOPE) → ∃ K, match_Assign.l0 K x0 x6 (Y.set i R') ((i : Int) - 1) = some res) →
      ∃ K, match_Assign.l1 K x0 x6 (Y.set i R) (i : Int) ((2 ^ m : Nat) : Int) (s : Int) = some res := by
  have hp := pow12 hm
  have hi1 := Aside0.mk (show wrap64 ((i : Int) - 1) = (i : Int) - 1 from wrap_small _ (by omega) (by omega))
  intro n
  induction n with
  | zero =>
    intro s R hs hR hpre hfin
    obtain ⟨K, h⟩ := hfin R hR (fun t ht => hpre t (by omega))
    refine ⟨K + 1, ?_⟩
    simp only [match_Assign.l1]
    rw [if_neg (by omega), hi1.out]
    exact h
  | succ n ih =>
    intro s R hs hR hpre hfin
    have hs2 : s < 2 ^ m := by omega
    obtain ⟨K, h⟩ := ih (s + 1) (R.set s ((List.range m).foldl (step (rd_L1 x0 (i : Int)) B s) HOPE)) (by omega) (by simpa using hR) (fun t ht => by
      rw [List.getD_eq_getElem?_getD, List.getElem?_set]
      by_cases he : s = t
      · subst he
        simp [hR, hs2]
      · rw [if_neg he]
        have := hpre t (by omega)
        rwa [List.getD_eq_getElem?_getD] at this) hfin
    obtain ⟨K', h'⟩ := l2_ev (x0 := x0) (x6 := x6) (res := res) (Y := Y) (R := R) (x53 := ((2 ^ m : Nat) : Int)) hi hi2 hR hs2 hm hrow hT hB hb m 0 HOPE (by omega) ⟨K, by simpa using h⟩
    refine ⟨K' + 1, ?_⟩
    simp only [match_Assign.l1]
    rw [rdL1_set _ _ _ (by omega)]
    simp only [List.length_set, Int.toNat_natCast, List.set_set, hR]
    rw [if_pos (by omega), if_pos (by omega), if_pos (by omega), if_pos (by omega), if_pos (by omega), if_pos (by omega)]
    exact h'
theorem l4_ev {Y : List (List Int)} {row : List Int} {i s m : Nat} {x110 : Int} {B : Nat → Int} {b : Int} {x2 : List Int} {x109 : List (List Int)} (hi : i + 1 < Y.length) (hi2 : i ≤ 12) (hs : s < 2 ^ m) (hm : m ≤ 12) (hx2 : x2.length ≤ 12)
    (hrow : GoodRow m row) (hT : (rd_L1 Y ((i + 1 : Nat) : Int)).length = 2 ^ m) (hB : ∀ t : Nat, t < 2 ^ m → rd (rd_L1 Y ((i + 1 : Nat) : Int)) (t : Int) = B t) (hb : ∀ t : Nat, 0 ≤ B t ∧ B t ≤ HOPE)
    (hT0 : (rd_L1 Y (i : Int)).length = 2 ^ m) (hB0 : rd (rd_L1 Y (i : Int)) (s : Int) = b) :
    ∀ (n k : Nat), k + n = m →
      (match ((List.range m).drop k).find? (hit row B b s) with
        | some k => ∃ K, match_Assign.l3 K (x2 ++ [(k : Int)]) Y ((s ||| 2 ^ k : Nat) : Int) x109 x110 ((i + 1 : Nat) : Int) = some res
        | none => ∃ K, match_Assign.l3 K x2 Y (s : Int) x109 x110 ((i + 1 : Nat) : Int) = some res) →
      ∃ K, match_Assign.l4 K x2 Y (s : Int) (i : Int) x109 x110 (i : Int) row (row.length : Int) (k : Int) = some res := by
  have hp := pow12 hm
  have hi1 := Aside0.mk (show wrap64 ((i : Int) + 1) = ((i + 1 : Nat) : Int) by rw [wrap_small _ (by omega) (by omega)]; omega)
  intro n
  induction n with
  | zero =>
    intro k hk h
    rw [List.drop_eq_nil_of_le (by simp; omega)] at h
    simp only [List.find?_nil] at h
    obtain ⟨K, h⟩ := h
    refine ⟨K + 1, ?_⟩
    simp only [match_Assign.l4]
    rw [if_neg (by rw [hrow.1]; omega), hi1.out]
    exact h
  | succ n ih =>
    intro k hk h
    have hk1 := Aside0.mk (show wrap64 ((k : Int) + 1) = ((k + 1 : Nat) : Int) by rw [wrap_small _ (by omega) (by omega)]; omega)
    have hkr : (k : Int) < (row.length : Int) := by rw [hrow.1]; omega
    rw [drop_range m k (by omega), List.find?_cons] at h
    by_cases ht : s.testBit k = true
    · have hh : hit row B b s k = false := by simp [hit, ht]
      rw [hh] at h
      obtain ⟨K, h⟩ := ih (k + 1) (by omega) h
      refine ⟨K + 1, ?_⟩
      simp only [match_Assign.l4]
      rw [if_pos hkr, if_pos (by omega), if_pos hkr, bit_and s k (by omega) (by omega), hk1.out, if_pos ht, if_neg (by omega)]
      exact h
    · have ho := or_lt hs (show k < m by omega)
      have hr := hrow.2 k
      have hb' := hb (s ||| 2 ^ k)
      unfold HOPE at hb'
      by_cases he : row.getD k 0 + B (s ||| 2 ^ k) = b
      · have hh : hit row B b s k = true := by simp only [hit, Bool.and_eq_true]; exact ⟨by simpa using ht, decide_eq_true he⟩
        rw [hh] at h
        obtain ⟨K, h⟩ := h
        refine ⟨K + 1, ?_⟩
        simp only [match_Assign.l4]
        rw [if_pos hkr, if_pos (by omega), if_pos hkr, bit_and s k (by omega) (by omega), hk1.out, if_neg ht, if_pos rfl]
        rw [bit_or s k (by omega) (by omega), hi1.out, hT, hB _ ho, rd_nat row, hB0, hT0, wrap_small _ (by omega) (by omega)]
        rw [if_pos (by omega), if_pos (by omega), if_pos (by omega), if_pos (by omega), if_pos (by omega), if_pos (by omega), if_pos (by omega), if_pos (by omega), if_pos he, if_pos (by omega)]
        exact h
      · have hh : hit row B b s k = false := by simp only [hit, Bool.and_eq_false_iff]; right; exact decide_eq_false he
        rw [hh] at h
        obtain ⟨K, h⟩ := ih (k + 1) (by omega) h
        refine ⟨K + 1, ?_⟩
        simp only [match_Assign.l4]
        rw [if_pos hkr, if_pos (by omega), if_pos hkr, bit_and s k (by omega) (by omega), hk1.out, if_neg ht, if_pos rfl]
        rw [bit_or s k (by omega) (by omega), hi1.out, hT, hB _ ho, rd_nat row, hB0, hT0, wrap_small _ (by omega) (by omega)]
        rw [if_pos (by omega), if_pos (by omega), if_pos (by omega), if_pos (by omega), if_pos (by omega), if_pos (by omega), if_pos (by omega), if_pos (by omega), if_neg he]
        exact h
theorem drop_cons_of (c : List (List Int)) (i : Nat) (h : i < c.length) : c.drop i = rd_L1 c (i : Int) :: c.drop (i + 1) := by
  rw [List.drop_eq_getElem_cons h, rdL1_nat]
  simp [h]
theorem good_row {m : Nat} {c : List (List Int)} (hg : Good m c) (i : Nat) (h : i < c.length) : GoodRow m (rd_L1 c (i : Int)) := by
  rw [rdL1_nat]
  have : c.getD i [] = c[i] := by simp [h]
  rw [this]
  exact hg _ (List.getElem_mem h)
theorem l3_ev {c Y : List (List Int)} {m : Nat} (hc : c.length ≤ 12) (hm : m ≤ 12) (hg : Good m c) (hY : Y.length = c.length + 1) (hT : ∀ j, j ≤ c.length → rd_L1 Y (j : Int) = tab m (c.drop j)) (hs0 : 0 < 2 ^ m) :
    ∀ (n i s : Nat) (acc : List Int), i + n = c.length → s < 2 ^ m → acc.length ≤ i →
      ∃ K, match_Assign.l3 K acc Y (s : Int) c (c.length : Int) (i : Int) = some (acc ++ pick (c.drop i) s, best c 0, true) := by
  intro n
  induction n with
  | zero =>
    intro i s acc hi hs ha
    refine ⟨1, ?_⟩
    have h0 := hT 0 (by omega)
    have hl : (rd_L1 Y 0).length = 2 ^ m := by
      have : rd_L1 Y 0 = tab m (c.drop 0) := h0
      rw [this, tab_length]
    simp only [match_Assign.l3]
    rw [if_neg (by omega), if_pos (by omega), hl, if_pos (by omega)]
    have : rd (rd_L1 Y 0) 0 = best c 0 := by
      have e : rd_L1 Y 0 = tab m (c.drop 0) := h0
      have := tab_get m (c.drop 0) 0 hs0
      rw [e]
      simpa using this
    rw [this, List.drop_eq_nil_of_le (by omega)]
    simp [pick]
  | succ n ih =>
    intro i s acc hi hs ha
    have hic : i < c.length := by omega
    have hrow := good_row hg i hic
    have hnext := hT (i + 1) (by omega)
    have hcur := hT i (by omega)
    have hlr : (c.drop (i + 1)).length ≤ 12 := by simp; omega
    have key := l4_ev (res := (acc ++ pick (c.drop i) s, best c 0, true)) (Y := Y) (row := rd_L1 c (i : Int)) (i := i) (s := s) (m := m) (x110 := (c.length : Int)) (B := best (c.drop (i + 1))) (b := best (c.drop i) s) (x2 := acc) (x109 := c)
      (by omega) (by omega) hs hm (by omega) hrow (by rw [hnext, tab_length]) (fun (t : Nat) ht => by rw [hnext, tab_get m _ t ht]) (best_range hlr (hg.tail (i + 1)))
      (by rw [hcur, tab_length]) (by rw [hcur, tab_get m _ s hs]) m 0 (by omega) (by
        rw [drop_cons_of c i hic, List.drop_zero]
        unfold pick
        rw [hrow.1]
        cases hf : (List.range m).find? (hit (rd_L1 c (i : Int)) (best (c.drop (i + 1))) (best (rd_L1 c (i : Int) :: c.drop (i + 1)) s) s) with
        | none =>
          simp only
          exact ih (i + 1) s acc (by omega) hs (by omega)
        | some k =>
          simp only
          have hk : k < m := by
            have := List.mem_of_find?_eq_some hf
            simpa using this
          have := ih (i + 1) (s ||| 2 ^ k) (acc ++ [(k : Int)]) (by omega) (or_lt hs hk) (by simp; omega)
          simpa using this)
    obtain ⟨K, h⟩ := key
    refine ⟨K + 1, ?_⟩
    simp only [match_Assign.l3]
    rw [if_pos (by omega), if_pos (by omega), if_pos (by omega)]
    exact h
theorem l0_ev {c : List (List Int)} {m : Nat} (hc : c.length ≤ 12) (hm : m ≤ 12) (hg : Good m c) (hs0 : 0 < 2 ^ m) :
    ∀ (n : Nat) (Y : List (List Int)), n ≤ c.length → Y.length = c.length + 1 → (∀ j, n ≤ j → j ≤ c.length → rd_L1 Y (j : Int) = tab m (c.drop j)) →
      ∃ K, match_Assign.l0 K c (m : Int) Y ((n : Int) - 1) = some (pick c 0, best c 0, true) := by
  have hp := pow12 hm
  intro n
  induction n with
  | zero =>
    intro Y _ hY hT
    obtain ⟨K, h⟩ := l3_ev hc hm hg hY (fun j hj => hT j (by omega) hj) hs0 c.length 0 0 [] (by omega) hs0 (by simp)
    refine ⟨K + 1, ?_⟩
    simp only [match_Assign.l0]
    rw [if_neg (by omega)]
    simpa using h
  | succ n ih =>
    intro Y hn hY hT
    have hnext := hT (n + 1) (by omega) (by omega)
    have hlr : (c.drop (n + 1)).length ≤ 12 := by simp; omega
    have hrow := good_row hg n (by omega)
    obtain ⟨K, h⟩ := l1_ev (x0 := c) (x6 := (m : Int)) (res := (pick c 0, best c 0, true)) (Y := Y) (i := n) (m := m) (B := best (c.drop (n + 1)))
      (by omega) (by omega) (by omega) hm hrow (by rw [hnext, tab_length]) (fun (t : Nat) ht => by rw [hnext, tab_get m _ t ht]) (best_range hlr (hg.tail (n + 1)))
      (2 ^ m) 0 (List.replicate (2 ^ m) 0) (by omega) (by simp) (fun t ht => by omega) (fun R' hR' hR => by
        refine ih (Y.set n R') (by omega) (by simpa using hY) (fun j h1 h2 => ?_)
        by_cases hj : n = j
        · subst hj
          rw [rdL1_set _ _ _ (by omega)]
          refine tab_ext m _ R' hR' (fun t ht => ?_)
          rw [hR t ht, drop_cons_of c n (by omega)]
          show _ = (List.range (rd_L1 c (n : Int)).length).foldl _ HOPE
          rw [hrow.1]
        · rw [rdL1_set_ne _ _ _ _ hj]
          exact hT j (by omega) h2)
    refine ⟨K + 1, ?_⟩
    have e : ((n + 1 : Nat) : Int) - 1 = (n : Int) := by omega
    rw [e]
    simp only [match_Assign.l0]
    rw [shl_one m hm, if_pos (by omega), if_pos (by omega), if_pos (by omega), if_pos (by omega), if_pos (by omega), if_pos (by omega)]
    simp only [Option.bind_some, Int.toNat_natCast]
    rw [rdL1_set _ _ _ (by omega), List.length_replicate]
    exact h
end
theorem rdL_rd (c : List (List Int)) : rdL c 0 = rd_L1 c 0 := rfl
theorem assign_ev (c : List (List Int)) : ∃ K, match_Assign.f K c = some (assign c) := by
  unfold match_Assign.f match_right.f assign
  by_cases hr : right c = true
  · obtain ⟨h12, m, hm, hcm, hg, hhead⟩ := good_of_right hr
    rw [hr]
    simp only [Option.bind_some, if_true]
    by_cases h0 : c = []
    · subst h0
      exact ⟨0, by simp [pick, best]⟩
    · have hpos : 0 < c.length := List.length_pos_iff.mpr h0
      have hw := Aside0.mk (show wrap64 ((c.length : Int) + 1) = ((c.length + 1 : Nat) : Int) by rw [wrap_small _ (by omega) (by omega)]; omega)
      have hw2 := Aside0.mk (show wrap64 ((c.length : Int) - 1) = (c.length : Int) - 1 from wrap_small _ (by omega) (by omega))
      have hlen : (rd_L1 c 0).length = m := by rw [← rdL_rd]; exact hhead h0
      have hp := pow12 hm
      have hs0 : 0 < 2 ^ m := Nat.pos_of_ne_zero (by simp)
      obtain ⟨K, h⟩ := l0_ev h12 hm hg hs0 c.length ((List.replicate (c.length + 1) []).set c.length (List.replicate (2 ^ m) 0)) (Nat.le_refl _) (by simp) (fun j h1 h2 => by
        obtain rfl : c.length = j := by omega
        rw [rdL1_set _ _ _ (by simp)]
        refine tab_ext m _ _ (by simp) (fun t ht => ?_)
        rw [List.drop_eq_nil_of_le (Nat.le_refl _)]
        simp [best, ht])
      refine ⟨K, ?_⟩
      rw [hw.out, hw2.out, hlen, shl_one m hm]
      simp only [Int.toNat_natCast]
      rw [if_neg (by omega), if_pos (by omega), if_pos (by omega), if_pos (by omega), if_pos (by omega), if_pos (by omega), if_pos (by omega)]
      simp only [List.length_replicate]
      rw [if_pos (by omega)]
      exact h
  · refine ⟨0, ?_⟩
    have : right c = false := by simpa using hr
    rw [this]
    simp
theorem assign_calls (A0 : Option Addr) (c0 : Nat) (l0 : List (List Int)) (w : World) (hr0 : Kd.C (Kd.slice 3 (Kd.int .i64)) w A0 l0.length l0) (hc0 : l0.length ≤ c0) :
    Calls Try.prog 103 #[.slice A0 l0.length c0] w fun e w' => ∃ v0_ : Value, e = .returned (.tuple #[v0_, .int .i64 (assign l0).2.1, .bool (assign l0).2.2]) ∧ Kd.R (Kd.int .i64) 3 w' w.heap.size (fun _ => True) v0_ (assign l0).1 ∧ Below w.heap.size w w' := by
  obtain ⟨K, h⟩ := assign_ev l0
  exact match_Assign.calls K A0 c0 l0 _ _ _ w hr0 hc0 h
end Go.Proofs.Ytlplaidcdocbmaa.Mat
end
section
namespace Go.Proofs.Ytlplaidcdocbmaa.Srt
open Go.RowKit Go.Shelf Go.Sort Go.Proofs.Ytlplaidcdocbmaa.Core
open Go.Proofs.YtlplaidcdocbmaaW.PrintWords (Kd encs)
open Go.Proofs.YtlplaidcdocbmaaW
set_option linter.unusedVariables false
set_option linter.unusedSimpArgs false
theorem nats_any {w : World} {base : Nat} {v : Value} {xs : List Nat} (h : w.ownsRow base 3 1 v xs.length (xs.map Core.encI)) : ∃ A c, v = .slice A xs.length c ∧ NatsAt w A xs := by
  rcases h.2 with ⟨rfl, h0⟩ | ⟨g, cap, cur, rfl, _⟩
  · exact ⟨none, 0, by rw [h0], fun i hi => by omega⟩
  · exact ⟨_, _, rfl, nats_own h⟩
theorem level_n {w : World} {A : Option Addr} {c : Nat} {cs : List Int} {ms n : Int} {l : Nat} (hd : cs.length ≤ 4) (hl : l ≤ 10) :
    Calls Try.prog 101 #[.agg #[.slice A cs.length c, .int .i64 ms, .int .i64 n], .int .i64 (l : Int)] w fun e w' =>
      ∃ A' c', e = .returned (.slice A' (lvl cs.length l).length c') ∧ NatsAt w' A' (lvl cs.length l) ∧ Below w.heap.size w w' := by
  refine (level_at hd hl).mono ?_
  rintro e w' ⟨v, rfl, h, hb⟩
  obtain ⟨A', c', rfl, hn⟩ := nats_any h
  exact ⟨A', c', rfl, hn, hb⟩
theorem parents_n {w : World} {s d : Nat} (hs : s < 16) (hd : d ≤ 4) : Calls Try.prog 30 #[.int .i64 (s : Int), .int .i64 (d : Int)] w fun e w' =>
    ∃ A' c', e = .returned (.slice A' (parents s d).length c') ∧ NatsAt w' A' (parents s d) ∧ Below w.heap.size w w' := by
  refine (parents_calls s d hs hd w).mono ?_
  rintro e w' ⟨v, rfl, h, hb⟩
  obtain ⟨A', c', rfl, hn⟩ := nats_any h
  exact ⟨A', c', rfl, hn, hb⟩
def edCells (es : List Ed) : List Value := es.flatMap fun e => [.int .i64 e.set, .int .i64 e.par, .bool e.scan]
theorem enters82 : ∀ args w, (callFunc 82 args).run Try.prog w = .ok (.enter 82 args) w := enters_of Try.func82 (by kernel_rfl) rfl
section
variable {ops : Array Oper} {rest : List Oper} {o : Oper} {a : Act} {Q : Exit → Act → World → Prop}
theorem wp_app_int (hgd : o.guard = none) (s x : Operand) (ho : o.op = .call { callee := .builtin .append, args := #[s, x], argTypes := #[24, 24] }) {W0 W : World} {v : Value} {n : Nat} {xs : List Value} (hs : a.eval s = v)
    (hx : a.eval x = .slice (some ⟨W.heap.size, 0, none⟩) 1 1) (z : Int) (hn : n ≤ 1000) (HA : Acc W0 3 1 v n xs W) (h : ∀ v' w', Acc W0 3 1 v' (n + 1) (xs ++ [.int .i64 z]) w' → wpList Try.prog ops Q rest (a.put o.dst v') w') :
    wpList Try.prog ops Q (o :: rest) a (W.alloc (.cells #[.int .i64 z] 3)) := by
  obtain ⟨i0, hi, hz0, hz1, hz2⟩ := info_parts info3
  have HA2 := HA.below ((Below.refl _ W).alloc (Nat.le_refl _) (.cells #[.int .i64 z] 3))
  refine wpList_append_own _ hgd s x 24 ho W0.heap.size 3 i0 (.int .i64 0) 1 8 Try.underlying24 hi hz0 hz1 hz2 rfl (by decide) v n xs hs HA2.1 ⟨W.heap.size, 0, none⟩ 1 1 [.int .i64 z] hx rfl (fun j u hj => cell_new1 _ _ rfl _ _ j u hj) (fun u hu => by simp at hu; rw [hu]; rfl) (by unfold maxLen; omega) (by omega) HA2.2.size ?_
  intro v' w' hown hgrow _
  exact h v' w' (HA2.append hown hgrow)
end
theorem cell_far {w : World} {p q : Addr} {u v : Value} (hne : q.block ≠ p.block) (h : w.cell? q = some v) : (w.setCell p u).cell? q = some v := by
  rw [World.cell?_of_block (w := w) (w' := w.setCell p u) (a := q) (Below.heap_setCell w p u q.block hne)]
  exact h
theorem cheap_of {cs : List Int} {n : Int} (h1 : ∀ x ∈ cs, 1 ≤ x) (hn : 0 ≤ n ∧ n ≤ 300) : Cheap (scanC cs n) (sortC cs n) := by
  intro p _
  obtain ⟨b1, b2, _⟩ := sizeI_bd cs h1 n p hn.1
  obtain ⟨_, _, s1, s2⟩ := sort_bd b1 (by omega)
  unfold scanC sortC
  omega
theorem nats_ints {w : World} {base : Nat} {v : Value} {xs : List Nat} {l : List Int} (hl : l = xs.map (fun (k : Nat) => (k : Int))) (h : Kd.R (Kd.int .i64) 3 w base (fun _ => True) v l) : ∃ A c, v = .slice A xs.length c ∧ NatsAt w A xs := by
  have ho := Kd.own_of_R h
  have e1 : encs (Value.int .i64) l = xs.map Core.encI := by rw [hl]; unfold encs; rw [List.map_map]; rfl
  rw [e1, hl, List.length_map] at ho
  exact nats_any ho
theorem cell_new3' (W : World) (x y z : Value) (t : TypeId) (j : Nat) (u : Value) (h : [x, y, z][j]? = some u) : (W.alloc (.cells #[x, y, z] t)).cell? ((⟨W.heap.size, 0, none⟩ : Addr).add j) = some u := cell_new3 W _ rfl x y z t j u h
section
variable {ops : Array Oper} {rest : List Oper} {o : Oper} {a : Act} {Q : Exit → Act → World → Prop}
theorem wp_app_edge (hgd : o.guard = none) (s x : Operand) (ho : o.op = .call { callee := .builtin .append, args := #[s, x], argTypes := #[43, 43] }) {W0 W : World} {v : Value} {n : Nat} {xs : List Value} (hs : a.eval s = v)
    (B : Nat) (hB : W.heap.size = B) (hx : a.eval x = .slice (some ⟨B, 0, none⟩) 1 1) (e1 e2 : Int) (e3 : Bool) (hn : n ≤ 1000) (HA : Acc W0 49 3 v n xs W) (h : ∀ v' w', Acc W0 49 3 v' (n + 1) (xs ++ [.int .i64 e1, .int .i64 e2, .bool e3]) w' → wpList Try.prog ops Q rest (a.put o.dst v') w') :
    wpList Try.prog ops Q (o :: rest) a (W.alloc (.cells #[.int .i64 e1, .int .i64 e2, .bool e3] 49)) := by
  subst hB
  obtain ⟨i0, hi, hz0, hz1, hz2⟩ := info_parts info49
  have HA2 := HA.below ((Below.refl _ W).alloc (Nat.le_refl _) (.cells #[.int .i64 e1, .int .i64 e2, .bool e3] 49))
  refine wpList_append_own _ hgd s x 43 ho W0.heap.size 49 i0 (.agg #[.int .i64 0, .int .i64 0, .bool false]) 3 24 Try.underlying43 hi hz0 hz1 hz2 rfl (by decide) v n xs hs HA2.1 ⟨W.heap.size, 0, none⟩ 1 1 [.int .i64 e1, .int .i64 e2, .bool e3] hx rfl (fun j u hj => cell_new3' _ _ _ _ _ j u hj) (fun u hu => by simp at hu; rcases hu with rfl | rfl | rfl <;> rfl) (by unfold maxLen; omega) (by omega) HA2.2.size ?_
  intro v' w' hown hgrow _
  exact h v' w' (HA2.append hown hgrow)
end
theorem any_contains (P : List Nat) (x : Nat) : (P.any fun (y : Nat) => (y : Int) == (x : Int)) = P.contains x := by
  rw [Bool.eq_iff_iff, List.any_eq_true, List.contains_iff_mem]
  constructor
  · rintro ⟨y, hy, e⟩
    have : y = x := by have := beq_iff_eq.1 e; omega
    rw [← this]; exact hy
  · intro h
    exact ⟨x, h, beq_iff_eq.2 rfl⟩
def rowV (sc so : Nat → Int) (d : Nat) (A S : List Nat) (i k : Nat) : List Value := (List.range k).map fun j => .int .i64 (entry sc so d A S i j)
theorem rowV_succ (sc so : Nat → Int) (d : Nat) (A S : List Nat) (i k : Nat) : rowV sc so d A S i (k + 1) = rowV sc so d A S i k ++ [.int .i64 (entry sc so d A S i k)] := by
  unfold rowV; rw [List.range_succ, List.map_append]; rfl
theorem entry_scan {sc so : Nat → Int} {d : Nat} {A S : List Nat} {i k : Nat} (hk : k < A.length) (h : (parents (S.getD i 0) d).contains (A.getD k 0) = true) : entry sc so d A S i k = sc (A.getD k 0) := by
  unfold entry; rw [if_pos hk, if_pos h]
theorem entry_dear {sc so : Nat → Int} {d : Nat} {A S : List Nat} {i k : Nat} (hk : k < A.length) (h : (parents (S.getD i 0) d).contains (A.getD k 0) = false) : entry sc so d A S i k = 1000000 := by
  unfold entry; rw [if_pos hk, if_neg (by rw [h]; simp)]
theorem entry_own {sc so : Nat → Int} {d : Nat} {A S : List Nat} {i k : Nat} (hk : k = i) : entry sc so d A S i (A.length + k) = so (ownP so d (S.getD i 0)) := by
  unfold entry; rw [if_neg (by omega), if_pos (by omega)]
theorem entry_not {sc so : Nat → Int} {d : Nat} {A S : List Nat} {i k : Nat} (hk : k ≠ i) : entry sc so d A S i (A.length + k) = 1000000 := by
  unfold entry; rw [if_neg (by omega), if_neg (by omega)]
theorem info24 : (Try.prog.info? 24).map (fun i => (i.zero, i.size, i.bytes)) = some (some (.slice none 0 0), 1, 24) := by kernel_rfl
theorem store_new (W : World) (x v : Value) (t : TypeId) (h1 : v.oneCell' = true) : (store ⟨W.heap.size, 0, none⟩ v).run Try.prog (W.alloc (.cells #[x] t)) = .ok () (W.alloc (.cells #[v] t)) := by
  have hb : (W.alloc (.cells #[x] t)).heap[W.heap.size]? = some (.cells #[x] t (0, 0)) := World.alloc_heap_new W _
  have hst := run_store Try.prog (W.alloc (.cells #[x] t)) ⟨W.heap.size, 0, none⟩ v .plain h1
  rw [show (W.alloc (.cells #[x] t)).cell? ⟨W.heap.size, 0, none⟩ = some x by simp only [World.cell?, hb]; rfl] at hst
  simp only [show (W.alloc (.cells #[x] t)).frozen? ⟨W.heap.size, 0, none⟩ = false by simp only [World.frozen?, hb]; rfl] at hst
  have hh : ((W.alloc (.cells #[x] t)).setCell ⟨W.heap.size, 0, none⟩ v).heap = (W.alloc (.cells #[v] t)).heap := by
    apply Array.ext_getElem?
    intro k
    by_cases hk : k = W.heap.size
    · subst hk
      rw [setCell_same' hb v]
      exact (World.alloc_heap_new W _).symm
    · rw [Below.heap_setCell _ _ _ _ hk, alloc_get, alloc_get, if_neg hk, if_neg hk]
  have e : (W.alloc (.cells #[x] t)).setCell ⟨W.heap.size, 0, none⟩ v = W.alloc (.cells #[v] t) := by
    have e1 : (W.alloc (.cells #[x] t)).setCell ⟨W.heap.size, 0, none⟩ v = { (W.alloc (.cells #[x] t)) with heap := ((W.alloc (.cells #[x] t)).setCell ⟨W.heap.size, 0, none⟩ v).heap } := rfl
    rw [e1, hh]
    rfl
  rw [e] at hst
  simpa using hst
set_option maxRecDepth 100000 in
set_option maxHeartbeats 4000000 in
theorem edges_at {w : World} {A : Option Addr} {c : Nat} {cs : List Int} {ms n : Int} {l : Nat} (hok : okCards cs = true) (h1 : ∀ x ∈ cs, 1 ≤ x) (hn : 0 ≤ n ∧ n ≤ 300) (hl : l < cs.length) (hca : CardsAt w A cs) :
    Calls Try.prog 81 #[.agg #[.slice A cs.length c, .int .i64 ms, .int .i64 n], .int .i64 (l : Int)] w fun e w' =>
      ∃ v : Value, e = .returned v ∧ w'.ownsRow w.heap.size 49 3 v (edgesS (scanC cs n) (sortC cs n) cs.length l).length (edCells (edgesS (scanC cs n) (sortC cs n) cs.length l)) ∧ Below w.heap.size w w' := by
  have hd4 := okCards_len hok
  have HOK := Apart0.mk hok
  have HCA := Apart0.mk hca
  have H1 := Apart0.mk h1
  have hw1 : wrap64 ((l : Int) + 1) = ((l + 1 : Nat) : Int) := by unfold wrap64; omega
  have HW1 := Apart0.mk hw1
  have HL1 := Apart0.mk (fun W => level_n (w := W) (A := A) (c := c) (ms := ms) (n := n) (l := l) hd4 (by omega))
  have HL2 := Apart0.mk (fun W => show Calls Try.prog 101 #[.agg #[.slice A cs.length c, .int .i64 ms, .int .i64 n], .int .i64 (IntKind.i64.wrap ((l : Int) + 1))] W fun e w' =>
      ∃ A' c', e = .returned (.slice A' (lvl cs.length (l + 1)).length c') ∧ NatsAt w' A' (lvl cs.length (l + 1)) ∧ Below W.heap.size W w' by
    rw [show IntKind.i64.wrap ((l : Int) + 1) = ((l + 1 : Nat) : Int) by rw [IntKind.wrap_i64]; omega]; exact level_n hd4 (by omega))
  clear hok hca h1 hw1
  go_enter Try.func81, Try.ntmps81
  go_upto_region 1 with (fail)
  go_cut [5, 6] (fun s5 s6 wx => ∃ A5 c5 A6 c6, s5 = .slice A5 (lvl cs.length l).length c5 ∧ s6 = .slice A6 (lvl cs.length (l + 1)).length c6 ∧ Apart0 (NatsAt wx A5 (lvl cs.length l) ∧ NatsAt wx A6 (lvl cs.length (l + 1)) ∧ Below w.heap.size w wx ∧ wx.heap[w.heap.size]? = some (.cells #[.slice A cs.length c, .int .i64 ms, .int .i64 n] 76 (0, 0))))
  case first =>
    have hB0 : Below w.heap.size w (w.alloc (.cells #[.slice A cs.length c, .int .i64 ms, .int .i64 n] 76)) := (Below.refl _ w).alloc (Nat.le_refl _) _
    have hbx : (w.alloc (.cells #[.slice A cs.length c, .int .i64 ms, .int .i64 n] 76)).heap[w.heap.size]? = some (.cells #[.slice A cs.length c, .int .i64 ms, .int .i64 n] 76 (0, 0)) := World.alloc_heap_new w _
    have hsz0 : (w.alloc (.cells #[.slice A cs.length c, .int .i64 ms, .int .i64 n] 76)).heap.size = w.heap.size + 1 := by simp
    generalize w.alloc (.cells #[.slice A cs.length c, .int .i64 ms, .int .i64 n] 76) = W0 at *
    have x0 : W0.cell? ⟨w.heap.size, 0, none⟩ = some (.slice A cs.length c) := by simp [World.cell?, hbx]
    have x1 : W0.cell? ⟨w.heap.size, 1, none⟩ = some (.int .i64 ms) := by simp [World.cell?, hbx]
    have x2 : W0.cell? ⟨w.heap.size, 2, none⟩ = some (.int .i64 n) := by simp [World.cell?, hbx]
    have HBX := Apart0.mk hbx
    have HB0 := Apart0.mk hB0
    clear hbx hB0
    go_region_held3 (fun w' => w'.cell? ⟨w.heap.size, 0, none⟩ = some (.slice A cs.length c) ∧ w'.cell? ⟨w.heap.size, 1, none⟩ = some (.int .i64 ms) ∧ w'.cell? ⟨w.heap.size, 2, none⟩ = some (.int .i64 n)) (go_keep)
      (first
        | ((with_reducible refine (HL1.out _).mono ?_); rintro e wA ⟨A5, c5, rfl, hn', hb'⟩; have y0 := PrintWords.pw_cell_below hb' (a := ⟨w.heap.size, 0, none⟩) (by assumption); have y1 := PrintWords.pw_cell_below hb' (a := ⟨w.heap.size, 1, none⟩) (by assumption); have y2 := PrintWords.pw_cell_below hb' (a := ⟨w.heap.size, 2, none⟩) (by assumption); have HNa := Apart0.mk hn'; have HBa := Apart0.mk hb'; clear hn' hb')
        | ((with_reducible refine (HL2.out _).mono ?_); rintro e wB ⟨A6, c6, rfl, hn', hb'⟩; have y0 := PrintWords.pw_cell_below hb' (a := ⟨w.heap.size, 0, none⟩) (by assumption); have y1 := PrintWords.pw_cell_below hb' (a := ⟨w.heap.size, 1, none⟩) (by assumption); have y2 := PrintWords.pw_cell_below hb' (a := ⟨w.heap.size, 2, none⟩) (by assumption); have HNb := Apart0.mk hn'; have HBb := Apart0.mk hb'; clear hn' hb'))
    have hBA : Below W0.heap.size W0 wA := ((Below.refl _ W0).drew).trans HBa.out
    have hBB := hBA.trans (HBb.out.mono hBA.size)
    have hNA := HNa.out.below HBb.out
    have hNB := HNb.out
    have hBW := HB0.out.trans (hBB.mono HB0.out.size)
    have hBX := (hBB.block w.heap.size (by omega)).trans HBX.out
    have HFIN := Apart0.mk (And.intro hNA (And.intro hNB (And.intro hBW hBX)))
    clear hBA hBB hNA hNB hBW hBX HBa HBb HNa HNb
    go_wp2_with fail
    go_meet
    exact ⟨A5, c5, A6, c6, rfl, rfl, HFIN⟩
  case rest =>
    obtain ⟨A5, c5, A6, c6, rfl, rfl, HC⟩ := hcut
    clear HL1 HL2 HW1
    have L := lev_of cs.length (by omega) l hl
    have hxs : ∀ W, Below wc.heap.size wc W → W.cell? ⟨w.heap.size, 0, none⟩ = some (.slice A cs.length c) ∧ W.cell? ⟨w.heap.size, 1, none⟩ = some (.int .i64 ms) ∧ W.cell? ⟨w.heap.size, 2, none⟩ = some (.int .i64 n) := fun W hW => by
      have hb := (hW.block w.heap.size (Array.getElem?_eq_some_iff.1 HC.out.2.2.2).1).trans HC.out.2.2.2
      exact ⟨by simp [World.cell?, hb], by simp [World.cell?, hb], by simp [World.cell?, hb]⟩
    obtain ⟨x0, x1, x2⟩ := hxs wc (Below.refl _ _)
    have HXS := Apart0.mk hxs
    obtain ⟨S, hS⟩ : ∃ S, S = lvl cs.length l := ⟨_, rfl⟩
    obtain ⟨T, hT⟩ : ∃ T, T = lvl cs.length (l + 1) := ⟨_, rfl⟩
    have HES := Apart0.mk (show edgesS (scanC cs n) (sortC cs n) cs.length l = edgesAS (scanC cs n) (sortC cs n) cs.length T S by rw [hS, hT]; rfl)
    rw [← hS, ← hT] at L
    have HN5 := Apart0.mk (show NatsAt wc A5 S by rw [hS]; exact HC.out.1)
    have HN6 := Apart0.mk (show NatsAt wc A6 T by rw [hT]; exact HC.out.2.1)
    have HBc := Apart0.mk HC.out.2.2.1
    have hw12 := L.wide
    have LL := Apart0.mk L
    rw [← hS, ← hT]
    clear hS hT HC L hxs
    have hmf : ∀ (fn : Fn) (first cap : Array Value) (w : World), (Instr.makeFunc fn first cap).run Try.prog w = .ok (.func fn first cap) w := fun _ _ _ _ => rfl
    have hsn := store_new wc .nilFunc (.func (.func 82) #[.agg #[.slice A cs.length c, .int .i64 ms, .int .i64 n]] #[]) 93 rfl
    go_wp2_with fail
    obtain ⟨W1, hW1⟩ : ∃ W1, W1 = wc.alloc (.cells #[.func (.func 82) #[.agg #[.slice A cs.length c, .int .i64 ms, .int .i64 n]] #[]] 93) := ⟨_, rfl⟩
    have hB1 : Below wc.heap.size wc W1 := by rw [hW1]; exact (Below.refl _ wc).alloc (Nat.le_refl _) _
    have hc1 : W1.heap[wc.heap.size]? = some (.cells #[.func (.func 82) #[.agg #[.slice A cs.length c, .int .i64 ms, .int .i64 n]] #[]] 93 (0, 0)) := by rw [hW1]; exact World.alloc_heap_new wc _
    rw [← hW1]
    have HB1 := Apart0.mk hB1
    have HC1 := Apart0.mk hc1
    clear hW1 hB1 hc1 hsn x0 x1 x2
    go_loopw [8, 37] (fun v8 vi wr => ∃ i : Nat, vi = .int .i64 (i : Int) ∧ i ≤ S.length ∧ Apart0 (Kd.R (Kd.slice 3 (Kd.int .i64)) 24 wr W1.heap.size (fun _ => True) v8 ((List.range i).map (costRow (scanC cs n) (sortC cs n) cs.length T S)) ∧ Below W1.heap.size W1 wr))
      (fun _ p _ => S.length - (intOf p).toNat)
    case atStart => exact ⟨0, rfl, by omega, ⟨Kd.R_nil _ _ _ _ _, Below.refl _ _⟩⟩
    case round =>
      obtain ⟨i, rfl, hi, HI⟩ := hrel
      by_cases hlt : i < S.length
      · have hd : decide ((i : Int) < (S.length : Int)) = true := dec_lt i S.length hlt
        have hbw : Below wc.heap.size wc wr := HB1.out.trans (HI.out.2.mono HB1.out.size)
        obtain ⟨x0, x1, x2⟩ := HXS.out wr hbw
        have hcb : ∀ W, Below wr.heap.size wr W → W.cell? ⟨wc.heap.size, 0, none⟩ = some (.func (.func 82) #[.agg #[.slice A cs.length c, .int .i64 ms, .int .i64 n]] #[]) := fun W hW => by
          have hs1 := HB1.out.size
          have hlt1 : wc.heap.size < W1.heap.size := (Array.getElem?_eq_some_iff.1 HC1.out).1
          have hb := ((HI.out.2.trans (hW.mono HI.out.2.size)).block wc.heap.size hlt1).trans HC1.out
          simp [World.cell?, hb]
        obtain ⟨ad, rfl, hc⟩ := (HN5.out.below hbw) i hlt
        obtain ⟨s, hs⟩ : ∃ s, s = S.getD i 0 := ⟨_, rfl⟩
        have hsm : s ∈ S := by rw [hs]; exact getD_mem hlt
        obtain ⟨hs16, hpne, hpm⟩ := LL.out.par s hsm
        have hpl := parents_len s cs.length hd4
        have hpc := fun W => parents_n (w := W) (s := s) (d := cs.length) hs16 hd4
        obtain ⟨P, hP⟩ : ∃ P, P = parents s cs.length := ⟨_, rfl⟩
        rw [← hs] at hc
        rw [← hP] at hpne hpm hpl hpc
        have HPC := Apart0.mk hpc
        have HCB := Apart0.mk hcb
        have HPM := Apart0.mk hpm
        have HPNE := Apart0.mk hpne
        have HPE := Apart0.mk (show parents (S.getD i 0) cs.length = P by rw [← hs, hP])
        have HBW := Apart0.mk hbw
        clear hpc hcb hpm hpne hsm hs hP hbw
        go_wp2_with fail
        refine (HPC.out _).mono ?_
        rintro e w2 ⟨A7, c7, rfl, hn7, hb7⟩
        have HN7 := Apart0.mk hn7
        have HB7 := Apart0.mk hb7
        have HBW2 := Apart0.mk (HBW.out.trans (hb7.mono HBW.out.size))
        clear hn7 hb7 HPC
        go_wp2_with fail
        go_loopw [12, 50] (fun v12 vk wr2 => ∃ k : Nat, vk = .int .i64 (k : Int) ∧ k ≤ T.length ∧ Apart0 (Acc w2 3 1 v12 k (rowV (scanC cs n) (sortC cs n) cs.length T S i k) wr2))
          (fun _ p _ => T.length - (intOf p).toNat)
        case atStart => exact ⟨0, rfl, by omega, ⟨Acc.nil _ _ _⟩⟩
        case round =>
          obtain ⟨k, rfl, hk, HA⟩ := hrel
          have hbw2 : Below wc.heap.size wc wr := HBW2.out.trans (HA.out.2.mono HBW2.out.size)
          by_cases hlk : k < T.length
          · have hdk : decide ((k : Int) < (T.length : Int)) = true := dec_lt k T.length hlk
            obtain ⟨ad6, rfl, hc6⟩ := (HN6.out.below hbw2) k hlk
            have hn7 := HN7.out.below HA.out.2
            obtain ⟨y0, y1, y2⟩ := HXS.out wr hbw2
            have hx16 := LL.out.low _ (getD_mem hlk)
            have hcon := fun W (hW : NatsAt W A7 P) => contains_at A7 c7 P ((T.getD k 0 : Nat) : Int) (by omega) W hW
            have hes := entry_scan (sc := scanC cs n) (so := sortC cs n) (d := cs.length) (A := T) (S := S) (i := i) (k := k) hlk
            have hed := entry_dear (sc := scanC cs n) (so := sortC cs n) (d := cs.length) (A := T) (S := S) (i := i) (k := k) hlk
            have HRS := Apart0.mk (rowV_succ (scanC cs n) (sortC cs n) cs.length T S i k)
            rw [HPE.out] at hes hed
            obtain ⟨x, hx⟩ : ∃ x, x = T.getD k 0 := ⟨_, rfl⟩
            rw [← hx] at hc6 hx16 hcon hes hed
            have hac := any_contains P x
            rw [hac] at hcon
            have HBW3 := Apart0.mk hbw2
            cases hb : P.contains x with
            | true =>
              rw [hb] at hcon
              have HE := Apart0.mk (hes hb)
              have HCON := Apart0.mk (hcon wr hn7)
              clear hcon hes hed hn7 hac hx hbw2 hb
              go_wp2_with (go_at_call 80; refine HCON.out.mono ?_; rintro e w' ⟨rfl, rfl⟩)
              have HSC := Apart0.mk (scan_at (w := wr) (c := c) (ms := ms) hx16 HOK.out (by omega : 0 ≤ n ∧ n ≤ 1000000) (HCA.out.below (HBc.out.trans (HBW3.out.mono HBc.out.size))))
              refine HSC.out.mono ?_
              rintro e w9 ⟨rfl, hb9⟩
              have HA9 := Apart0.mk (HA.out.below hb9)
              clear hb9
              rw [← HE.out]
              go_wp2_with (at_builtin; refine wp_app_int rfl _ _ rfl rfl rfl _ (by omega) HA9.out ?_; intro v' w' ha; have HA2 := Apart0.mk ha; clear ha)
              go_roundw
              case rel => exact ⟨k + 1, congrArg _ (Int.natCast_succ k).symm, by omega, ⟨by rw [HRS.out]; exact HA2.out⟩⟩
              case measure => simp only [intOf]; omega
            | false =>
              rw [hb] at hcon
              have HE := Apart0.mk (hed hb)
              have HCON := Apart0.mk (hcon wr hn7)
              clear hcon hes hed hn7 hac hx hbw2 hb
              go_wp2_with (first | (go_at_call 80; refine HCON.out.mono ?_; rintro e w' ⟨rfl, rfl⟩) | (at_builtin; refine wp_app_int rfl _ _ rfl rfl rfl 1000000 (by omega) HA.out ?_; intro v' w' ha; have HA2 := Apart0.mk ha; clear ha))
              go_roundw
              case rel => exact ⟨k + 1, congrArg _ (Int.natCast_succ k).symm, by omega, ⟨by rw [HRS.out, HE.out]; exact HA2.out⟩⟩
              case measure => simp only [intOf]; omega
          · have hdk : decide ((k : Int) < (T.length : Int)) = false := dec_nlt k T.length hlk
            obtain rfl : k = T.length := by omega
            have hcb := HCB.out wr (HB7.out.trans (HA.out.2.mono HB7.out.size))
            have HLE := Apart0.mk (least_at (sortC cs n) 82 (.agg #[.slice A cs.length c, .int .i64 ms, .int .i64 n]) enters82 (w := wr) (A := A7) (c := c7) HPNE.out hpl (HN7.out.below HA.out.2) (fun x hx W hW =>
              sort_at (HPM.out x hx).1 HOK.out H1.out hn (HCA.out.below ((HBc.out.trans (hbw2.mono HBc.out.size)).trans (hW.mono (Nat.le_trans HBc.out.size hbw2.size))))))
            have HO1 := Apart0.mk (show ∀ j, j = i → entry (scanC cs n) (sortC cs n) cs.length T S i (T.length + j) = sortC cs n (leastL (sortC cs n) P) from fun j hj => by
              rw [entry_own hj]; unfold ownP; rw [HPE.out])
            have HO2 := Apart0.mk (show ∀ j, j ≠ i → entry (scanC cs n) (sortC cs n) cs.length T S i (T.length + j) = 1000000 from fun j hj => entry_not hj)
            generalize leastL (sortC cs n) P = r at *
            generalize hO : sortC cs n r = O at *
            have HBW3 := Apart0.mk hbw2
            clear hbw2 hO
            go_wp2_with fail
            refine HLE.out.mono ?_
            rintro e w3 ⟨rfl, hb3⟩
            have HA3 := Apart0.mk (HA.out.below hb3)
            clear hb3 hcb
            go_wp2_with fail
            go_loopw [12, 75] (fun v12 vk wr4 => ∃ k : Nat, vk = .int .i64 (k : Int) ∧ k ≤ S.length ∧ Apart0 (Acc w2 3 1 v12 (T.length + k) (rowV (scanC cs n) (sortC cs n) cs.length T S i (T.length + k)) wr4))
              (fun _ p _ => S.length - (intOf p).toNat)
            case atStart => exact ⟨0, rfl, by omega, HA3⟩
            case round =>
              obtain ⟨k, rfl, hk, HA4⟩ := hrel
              have HRS := Apart0.mk (rowV_succ (scanC cs n) (sortC cs n) cs.length T S i (T.length + k))
              by_cases hlk : k < S.length
              · have hdk : decide ((k : Int) < (S.length : Int)) = true := dec_lt k S.length hlk
                by_cases hki : k = i
                · have hbk : ((k : Int) == (i : Int)) = true := beq_iff_eq.2 (by omega)
                  have hbk2 : (k == i) = true := beq_iff_eq.2 hki
                  have hbk3 : decide (k = i) = true := decide_eq_true hki
                  have HE := Apart0.mk (HO1.out k hki)
                  clear hki
                  go_wp2_with (at_builtin; refine wp_app_int rfl _ _ rfl rfl rfl O (by omega) HA4.out ?_; intro v' w' ha; have HA2 := Apart0.mk ha; clear ha)
                  go_roundw
                  case rel => exact ⟨k + 1, congrArg _ (Int.natCast_succ k).symm, by omega, ⟨by rw [← Nat.add_assoc, HRS.out, HE.out]; exact HA2.out⟩⟩
                  case measure => simp only [intOf]; omega
                · have hbk : ((k : Int) == (i : Int)) = false := beq_eq_false_iff_ne.2 (by omega)
                  have hbk2 : (k == i) = false := beq_eq_false_iff_ne.2 hki
                  have hbk3 : decide (k = i) = false := decide_eq_false hki
                  have HE := Apart0.mk (HO2.out k hki)
                  clear hki
                  go_wp2_with (at_builtin; refine wp_app_int rfl _ _ rfl rfl rfl 1000000 (by omega) HA4.out ?_; intro v' w' ha; have HA2 := Apart0.mk ha; clear ha)
                  go_roundw
                  case rel => exact ⟨k + 1, congrArg _ (Int.natCast_succ k).symm, by omega, ⟨by rw [← Nat.add_assoc, HRS.out, HE.out]; exact HA2.out⟩⟩
                  case measure => simp only [intOf]; omega
              · have hdk : decide ((k : Int) < (S.length : Int)) = false := dec_nlt k S.length hlk
                obtain rfl : k = S.length := by omega
                obtain ⟨A12, c12, rfl⟩ := PrintWords.own_slice HA4.out.1
                have hbA := HB7.out.trans (HA4.out.2.mono HB7.out.size)
                have hRow := HI.out.1
                have hRow2 := Kd.R_below hRow hbA
                have hbW1 := HI.out.2.trans (hbA.mono HI.out.2.size)
                have hlt8 := Kd.R_lt hRow
                have hge12 := own_base_le HA4.out.1
                have hsz7 := HB7.out.size
                have hRi : Kd.R (Kd.int .i64) 3 wr W1.heap.size (fun k => some k = (Value.slice A12 (T.length + S.length) c12).ownBlock) (.slice A12 (T.length + S.length) c12 : Value) (costRow (scanC cs n) (sortC cs n) cs.length T S i) := by
                  refine Kd.R_of_own (h1 := fun _ => rfl) ?_ (fun k hk => hk.symm)
                  have e1 : encs (Value.int .i64) (costRow (scanC cs n) (sortC cs n) cs.length T S i) = rowV (scanC cs n) (sortC cs n) cs.length T S i (T.length + S.length) := by
                    unfold encs costRow rowV; rw [List.map_map]; rfl
                  have e2 : (costRow (scanC cs n) (sortC cs n) cs.length T S i).length = T.length + S.length := by simp [costRow]
                  rw [e1, e2]
                  exact ownsRow_base HA4.out.1 (Nat.le_trans HI.out.2.size hsz7)
                have HRi := Apart0.mk hRi
                have HRow2 := Apart0.mk hRow2
                have HbW1 := Apart0.mk hbW1
                have HNE8 := Apart0.mk (show ∀ k, some k = (Value.slice A12 (T.length + S.length) c12).ownBlock → True ∧ some k ≠ u8.ownBlock from fun k hk => ⟨trivial, fun e => by
                  have g1 := hlt8 k e.symm
                  have g2 := hge12 k hk.symm
                  omega⟩)
                clear hRi hRow hRow2 hbW1 hlt8 hge12 hbA hsz7
                go_wp2_with (at_builtin; go_loud (refine Kd.R_append (Kd.slice 3 (Kd.int .i64)) (w0 := W1) W1.heap.size rfl (.tmp 89) (.tmp 91) 37 24 (.slice none 0 0) 24 rfl Try.underlying37 info24 rfl (by decide) (by omega) u8 ((List.range i).map (costRow (scanC cs n) (sortC cs n) cs.length T S)) (costRow (scanC cs n) (sortC cs n) cs.length T S i) [(.slice A12 (T.length + S.length) c12 : Value)] (fun _ => True) (fun k => some k = (Value.slice A12 (T.length + S.length) c12).ownBlock) rfl rfl ?aP HNE8.out (fun _ _ => trivial) ?aO ?aB ?aS ?aL ?_))
                case aP => exact Kd.M_row HRi.out
                case aO => exact HRow2.out
                case aB => exact HbW1.out
                case aS => exact HbW1.out.size
                case aL => rw [List.length_map, List.length_range]; omega
                intro v1 wq ho hb hg hat
                have HIn := Apart0.mk (And.intro ho hb)
                clear ho hb hg hat
                go_wp2_with fail
                go_roundw
                case rel => exact ⟨i + 1, congrArg _ (Int.natCast_succ i).symm, by omega, ⟨by rw [List.range_succ, List.map_append]; exact HIn.out.1, HIn.out.2⟩⟩
                case measure => simp only [intOf]; omega
      · have hd : decide ((i : Int) < (S.length : Int)) = false := dec_nlt i S.length hlt
        obtain rfl : i = S.length := by omega
        have hch := choice (cheap_of H1.out hn) LL.out
        obtain ⟨M, hM⟩ : ∃ M, M = costM (scanC cs n) (sortC cs n) cs.length T S := ⟨_, rfl⟩
        have hMR : Kd.R (Kd.slice 3 (Kd.int .i64)) 24 wr W1.heap.size (fun _ => True) u8 M := by rw [hM]; exact HI.out.1
        obtain ⟨A8, c8, rfl, hc8, hC8⟩ := Kd.R_reads hMR
        obtain ⟨ks, hk1, hk2, hk3, hk4, hk5⟩ := hch
        rw [← hM] at hk1
        have HAS := Apart0.mk (show edgesS (scanC cs n) (sortC cs n) cs.length l = (List.range S.length).map (fun i => edgeAt (sortC cs n) cs.length T S i (ks.getD i 0)) by
          rw [HES.out]
          unfold edgesAS
          rw [← hM, hk1]
          refine List.map_congr_left (fun i hi => ?_)
          have hi' := List.mem_range.1 hi
          congr 1
          simp [show i < ks.length by omega])
        have hca := Mat.assign_calls A8 c8 M wr hC8 hc8
        have HCA2 := Apart0.mk hca
        have HK1 := Apart0.mk hk1
        have HK4 := Apart0.mk hk4
        have HBr := Apart0.mk HI.out.2
        clear hMR hC8 hca hk1 hk5 hM HES hk3 hk4 HI
        go_wp2_with fail
        refine HCA2.out.mono ?_
        rintro e W9 ⟨v0, rfl, hR0, hb9⟩
        obtain ⟨A9, c9, rfl, hn9⟩ := nats_ints HK1.out hR0
        have HN9 := Apart0.mk hn9
        have HB9 := Apart0.mk ((HB1.out.trans (HBr.out.mono HB1.out.size)).trans (hb9.mono (Nat.le_trans HB1.out.size HBr.out.size)))
        have HCO := Apart0.mk (show ∀ W, Below W9.heap.size W9 W → W.cell? ⟨wc.heap.size, 0, none⟩ = some (.func (.func 82) #[.agg #[.slice A cs.length c, .int .i64 ms, .int .i64 n]] #[]) from fun W hW => by
          have hlt1 : wc.heap.size < W1.heap.size := (Array.getElem?_eq_some_iff.1 HC1.out).1
          have hb := (((HBr.out.trans (hb9.mono HBr.out.size)).trans (hW.mono (Nat.le_trans HBr.out.size hb9.size))).block wc.heap.size hlt1).trans HC1.out
          simp [World.cell?, hb])
        generalize (Mat.assign M).2.1 = q1 at *
        generalize (Mat.assign M).2.2 = q2 at *
        clear hR0 hb9 hn9 HCA2 HK1
        rw [hk2]
        go_wp2_with fail
        go_loopw [21, 102] (fun v21 vi wr => ∃ i : Nat, vi = .int .i64 (i : Int) ∧ i ≤ S.length ∧ Apart0 (Acc W9 49 3 v21 i (edCells ((List.range i).map fun i => edgeAt (sortC cs n) cs.length T S i (ks.getD i 0))) wr))
          (fun _ p _ => S.length - (intOf p).toNat)
        case atStart => exact ⟨0, rfl, by omega, ⟨Acc.nil _ _ _⟩⟩
        case round =>
          obtain ⟨i, rfl, hi, HA⟩ := hrel
          by_cases hlt : i < S.length
          · have hd : decide ((i : Int) < (S.length : Int)) = true := dec_lt i S.length hlt
            have hbw : Below wc.heap.size wc wr := HB9.out.trans (HA.out.2.mono HB9.out.size)
            obtain ⟨y0, y1, y2⟩ := HXS.out wr hbw
            have hcb := HCO.out wr HA.out.2
            obtain ⟨ad, rfl, hc⟩ := (HN5.out.below hbw) i hlt
            obtain ⟨ad9, rfl, hc9⟩ := (HN9.out.below HA.out.2) i (by omega)
            obtain ⟨s, hs⟩ : ∃ s, s = S.getD i 0 := ⟨_, rfl⟩
            have hsm : s ∈ S := by rw [hs]; exact getD_mem hlt
            obtain ⟨hs16, hpne, hpm⟩ := LL.out.par s hsm
            have hkm := HK4.out _ (getD_mem (l := ks) (by omega : i < ks.length))
            obtain ⟨k, hk⟩ : ∃ k, k = ks.getD i 0 := ⟨_, rfl⟩
            have HEA := Apart0.mk (show (List.range (i + 1)).map (fun i => edgeAt (sortC cs n) cs.length T S i (ks.getD i 0)) = (List.range i).map (fun i => edgeAt (sortC cs n) cs.length T S i (ks.getD i 0)) ++ [edgeAt (sortC cs n) cs.length T S i k] by
              rw [List.range_succ, List.map_append, hk]; rfl)
            rw [← hs] at hc
            rw [← hk] at hc9 hkm
            have HBW := Apart0.mk hbw
            by_cases hkT : k < T.length
            · have hdk : decide ((k : Int) < (T.length : Int)) = true := dec_lt k T.length hkT
              obtain ⟨ad6, rfl, hc6⟩ := (HN6.out.below hbw) k hkT
              obtain ⟨x, hx⟩ : ∃ x, x = T.getD k 0 := ⟨_, rfl⟩
              rw [← hx] at hc6
              have hc6' := Lib.cell?_alloc_some (.cells #[.int .i64 (s : Int), .int .i64 0, .bool true] 49) hc6
              have HED := Apart0.mk (show edgeAt (sortC cs n) cs.length T S i k = ⟨(s : Int), (x : Int), true⟩ by unfold edgeAt; rw [if_pos hkT, hs, hx])
              have HAw := Apart0.mk (HA.out.below ((Below.refl _ wr).alloc (Nat.le_refl _) (.cells #[.int .i64 (s : Int), .int .i64 (x : Int), .bool true] 49)))
              clear hs hk hx hbw hsm hpne hpm
              go_wp2_with (at_builtin; refine wp_app_edge rfl _ _ rfl rfl _ (World.size_alloc _ _) rfl (s : Int) (x : Int) true (by omega) HAw.out ?_; intro v' w' ha; have HA2 := Apart0.mk ha; clear ha)
              go_roundw
              case rel => exact ⟨i + 1, congrArg _ (Int.natCast_succ i).symm, by omega, ⟨by rw [HEA.out, HED.out]; unfold edCells; rw [List.flatMap_append]; exact HA2.out⟩⟩
              case measure => simp only [intOf]; omega
            · have hdk : decide ((k : Int) < (T.length : Int)) = false := dec_nlt k T.length hkT
              have HED := Apart0.mk (show edgeAt (sortC cs n) cs.length T S i k = ⟨(s : Int), (leastL (sortC cs n) (parents s cs.length) : Nat), false⟩ by unfold edgeAt ownP; rw [if_neg hkT, hs])
              have hpl := parents_len s cs.length hd4
              obtain ⟨P, hP⟩ : ∃ P, P = parents s cs.length := ⟨_, rfl⟩
              have hpc := fun W => parents_n (w := W) (s := s) (d := cs.length) hs16 hd4
              rw [← hP] at hpne hpm hpl hpc HED
              have HPC := Apart0.mk hpc
              have hle := fun A7 c7 W (hW : Below wr.heap.size wr W) (hN : NatsAt W A7 P) => least_at (sortC cs n) 82 (.agg #[.slice A cs.length c, .int .i64 ms, .int .i64 n]) enters82 (w := W) (A := A7) (c := c7) hpne hpl hN (fun x hx V hV =>
                sort_at (hpm x hx).1 HOK.out H1.out hn (HCA.out.below ((HBc.out.trans (hbw.mono HBc.out.size)).trans ((hW.trans (hV.mono hW.size)).mono (Nat.le_trans HBc.out.size hbw.size)))))
              generalize leastL (sortC cs n) P = r at *
              generalize sortC cs n r = O at *
              have HLE := Apart0.mk hle
              clear hs hk hbw hsm hpc hle hpne hpm hP
              go_wp2_with fail
              have hB0 : Below wr.heap.size wr (wr.alloc (.cells #[.int .i64 (s : Int), .int .i64 0, .bool false] 49)) := (Below.refl _ wr).alloc (Nat.le_refl _) _
              have hbx : (wr.alloc (.cells #[.int .i64 (s : Int), .int .i64 0, .bool false] 49)).heap[wr.heap.size]? = some (.cells #[.int .i64 (s : Int), .int .i64 0, .bool false] 49 (0, 0)) := World.alloc_heap_new wr _
              have hsz0 : (wr.alloc (.cells #[.int .i64 (s : Int), .int .i64 0, .bool false] 49)).heap.size = wr.heap.size + 1 := by simp
              generalize wr.alloc (.cells #[.int .i64 (s : Int), .int .i64 0, .bool false] 49) = W0 at *
              have x0 := PrintWords.pw_cell_below hB0 y0
              have xc := PrintWords.pw_cell_below hB0 hcb
              have xs' := PrintWords.pw_cell_below hB0 hc
              have HBX := Apart0.mk hbx
              have HB0 := Apart0.mk hB0
              have n0 : (⟨w.heap.size, 0, none⟩ : Addr).block ≠ (⟨wr.heap.size, 1, none⟩ : Addr).block := Nat.ne_of_lt (cell_lt y0)
              have n1 : (⟨wc.heap.size, 0, none⟩ : Addr).block ≠ (⟨wr.heap.size, 1, none⟩ : Addr).block := Nat.ne_of_lt (cell_lt hcb)
              have n2 : (ad.add i).block ≠ (⟨wr.heap.size, 1, none⟩ : Addr).block := Nat.ne_of_lt (cell_lt hc)
              have N0 := Apart0.mk n0
              have N1 := Apart0.mk n1
              have N2 := Apart0.mk n2
              clear hbx hB0 y0 y1 y2 hcb hc n0 n1 n2
              go_region_held3 (fun w' => w'.cell? ⟨w.heap.size, 0, none⟩ = some (.slice A cs.length c) ∧ w'.cell? ⟨wc.heap.size, 0, none⟩ = some (.func (.func 82) #[.agg #[.slice A cs.length c, .int .i64 ms, .int .i64 n]] #[]) ∧ w'.cell? (ad.add i) = some (.int .i64 (s : Int))) (first | go_keep | exact ⟨cell_far N0.out (by assumption), cell_far N1.out (by assumption), cell_far N2.out (by assumption)⟩)
                (first
                  | ((with_reducible refine (HPC.out _).mono ?_); rintro e wA ⟨A7, c7, rfl, hn', hb'⟩; have z0 := PrintWords.pw_cell_below hb' (a := ⟨w.heap.size, 0, none⟩) (by assumption); have z1 := PrintWords.pw_cell_below hb' (a := ⟨wc.heap.size, 0, none⟩) (by assumption); have z2 := PrintWords.pw_cell_below hb' (a := ad.add i) (by assumption); have HNa := Apart0.mk hn'; have HBa := Apart0.mk (show Below W0.heap.size W0 wA from ((Below.refl _ W0).drew).trans hb'); clear hn' hb')
                  | ((with_reducible refine (HLE.out _ _ _ (HB0.out.trans (HBa.out.mono HB0.out.size)) HNa.out).mono ?_); rintro e wB ⟨rfl, hb'⟩; have z0 := PrintWords.pw_cell_below hb' (a := ⟨w.heap.size, 0, none⟩) (by assumption); have z1 := PrintWords.pw_cell_below hb' (a := ⟨wc.heap.size, 0, none⟩) (by assumption); have z2 := PrintWords.pw_cell_below hb' (a := ad.add i) (by assumption); have hbb := HBa.out.trans (hb'.mono HBa.out.size); have hblk := (hbb.block wr.heap.size (by omega)).trans HBX.out; have z3 : wB.cell? ⟨wr.heap.size, 1, none⟩ = some (.int .i64 0) := (by simp [World.cell?, hblk]); have z4 : wB.frozen? ⟨wr.heap.size, 1, none⟩ = false := (by simp [World.frozen?, hblk]); have HBb := Apart0.mk hbb; have HBK := Apart0.mk hblk; clear hb' hbb hblk))
              have hE5 := setCell_same' (i := 1) HBK.out (.int .i64 (r : Int))
              have q0 : (wB.setCell ⟨wr.heap.size, 1, none⟩ (.int .i64 (r : Int))).cell? ⟨wr.heap.size, 0, none⟩ = some (.int .i64 (s : Int)) := by simp [World.cell?, hE5]
              have q1' : (wB.setCell ⟨wr.heap.size, 1, none⟩ (.int .i64 (r : Int))).cell? ⟨wr.heap.size, 1, none⟩ = some (.int .i64 (r : Int)) := by simp [World.cell?, hE5]
              have q2' : (wB.setCell ⟨wr.heap.size, 1, none⟩ (.int .i64 (r : Int))).cell? ⟨wr.heap.size, 2, none⟩ = some (.bool false) := by simp [World.cell?, hE5]
              have HA5 := Apart0.mk (HA.out.below ((HB0.out.trans (HBb.out.mono HB0.out.size)).setCell (p := ⟨wr.heap.size, 1, none⟩) (Nat.le_refl _) (.int .i64 (r : Int))))
              clear hE5
              go_wp2_with (at_builtin; refine wp_app_edge rfl _ _ rfl rfl wB.heap.size (by simp) rfl (s : Int) (r : Int) false (by omega) HA5.out ?_; intro v' w' ha; have HA2 := Apart0.mk ha; clear ha)
              go_roundw
              case rel => exact ⟨i + 1, congrArg _ (Int.natCast_succ i).symm, by omega, ⟨by rw [HEA.out, HED.out]; unfold edCells; rw [List.flatMap_append]; exact HA2.out⟩⟩
              case measure => simp only [intOf]; omega
          · have hd : decide ((i : Int) < (S.length : Int)) = false := dec_nlt i S.length hlt
            obtain rfl : i = S.length := by omega
            go_wp2_with fail
            go_ret
            refine ⟨u21, rfl, ?_, (HBc.out.trans (HB9.out.mono HBc.out.size)).trans (HA.out.2.mono (Nat.le_trans HBc.out.size HB9.out.size))⟩
            rw [HAS.out, List.length_map, List.length_range]
            exact ownsRow_base HA.out.1 (Nat.le_trans HBc.out.size HB9.out.size)
end Go.Proofs.Ytlplaidcdocbmaa.Srt
end
section
namespace Go.Proofs.Ytlplaidcdocbmaa.Srt
open Go.RowKit Go.Shelf Go.Proofs.Ytlplaidcdocbmaa.Core
open Go.Proofs.YtlplaidcdocbmaaW.PrintWords (Kd encs)
open Go.Proofs.YtlplaidcdocbmaaW
set_option linter.unusedVariables false
set_option linter.unusedSimpArgs false
theorem edCells_len (es : List Ed) : (edCells es).length = es.length * 3 := by
  unfold edCells
  induction es with
  | nil => rfl
  | cons e es ih => rw [List.flatMap_cons, List.length_append, ih]; simp; omega
theorem edCells_one (es : List Ed) : ∀ u ∈ edCells es, u.oneCell' = true := by
  intro u hu
  obtain ⟨e, _, he⟩ := List.mem_flatMap.1 hu
  simp only [List.mem_cons, List.not_mem_nil, or_false] at he
  rcases he with rfl | rfl | rfl <;> rfl
theorem edCells_append (a b : List Ed) : edCells (a ++ b) = edCells a ++ edCells b := by unfold edCells; rw [List.flatMap_append]
theorem eds_any {w : World} {base : Nat} {v : Value} {es : List Ed} (h : w.ownsRow base 49 3 v es.length (edCells es)) (hne : es ≠ []) : ∃ g c, v = .slice (some ⟨g, 0, none⟩) es.length c ∧ ∀ j u, (edCells es)[j]? = some u → w.cell? ((⟨g, 0, none⟩ : Addr).add j) = some u := by
  rcases h.2 with ⟨rfl, h0⟩ | ⟨g, cap, cur, rfl, _⟩
  · exact absurd (List.length_eq_zero_iff.1 h0) hne
  · refine ⟨g, cap, rfl, fun j u hj => ?_⟩
    have hlt := (List.getElem?_eq_some_iff.1 hj).1
    rw [edCells_len] at hlt
    rw [Addr.add_lit, Nat.zero_add]
    exact (h.cellAt j hlt).trans hj
section
variable {ops : Array Oper} {rest : List Oper} {o : Oper} {a : Act} {Q : Exit → Act → World → Prop}
theorem wp_app_edges (hgd : o.guard = none) (s x : Operand) (ho : o.op = .call { callee := .builtin .append, args := #[s, x], argTypes := #[43, 43] }) {W0 W : World} {v : Value} {n : Nat} {xs : List Value} (hs : a.eval s = v)
    (es : List Ed) {g c : Nat} (hx : a.eval x = .slice (some ⟨g, 0, none⟩) es.length c) (hn : n ≤ 1000) (hm : es.length ≤ 1000) (hcells : ∀ j u, (edCells es)[j]? = some u → W.cell? ((⟨g, 0, none⟩ : Addr).add j) = some u) (HA : Acc W0 49 3 v n xs W)
    (h : ∀ v' w', Acc W0 49 3 v' (n + es.length) (xs ++ edCells es) w' → wpList Try.prog ops Q rest (a.put o.dst v') w') : wpList Try.prog ops Q (o :: rest) a W := by
  obtain ⟨i0, hi, hz0, hz1, hz2⟩ := info_parts info49
  refine wpList_append_own _ hgd s x 43 ho W0.heap.size 49 i0 (.agg #[.int .i64 0, .int .i64 0, .bool false]) 3 24 Try.underlying43 hi hz0 hz1 hz2 rfl (by decide) v n xs hs HA.1 ⟨g, 0, none⟩ es.length c (edCells es) hx (edCells_len es) hcells (edCells_one es) (by unfold maxLen; omega) (by omega) HA.2.size ?_
  intro v' w' hown hgrow _
  exact h v' w' (HA.append hown hgrow)
end
def planJ (sc so : Nat → Int) (d j : Nat) : List Ed := ⟨((2 ^ d - 1 : Nat) : Int), -1, false⟩ :: ((List.range d).reverse.take j).flatMap (edgesS sc so d)
theorem planJ_succ (sc so : Nat → Int) (d j : Nat) (h : j < d) : planJ sc so d (j + 1) = planJ sc so d j ++ edgesS sc so d (d - 1 - j) := by
  have hl : j < (List.range d).reverse.length := by simpa using h
  unfold planJ
  rw [List.take_succ_eq_append_getElem hl, List.flatMap_append, List.cons_append]
  congr 2
  simp
theorem planJ_all (sc so : Nat → Int) (d : Nat) : planJ sc so d d = planS sc so d := by
  unfold planJ planS
  rw [List.take_of_length_le (by simp)]
theorem edgesS_len (sc so : Nat → Int) (d l : Nat) : (edgesS sc so d l).length = (lvl d l).length := by simp [edgesS, edgesAS]
theorem planJ_len (sc so : Nat → Int) (d : Nat) (hd : d < 5) : ∀ j, j ≤ d → (planJ sc so d j).length ≤ 1 + 6 * j
  | 0, _ => by simp [planJ]
  | j + 1, h => by
    have ih := planJ_len sc so d hd j (by omega)
    have h2 := (lvl_fin1 d hd (d - 1 - j) (by omega)).2.1
    rw [planJ_succ sc so d j (by omega), List.length_append, edgesS_len]
    omega
theorem top_wrap : ∀ d : Nat, d < 5 → wrap64 (wrap64 ((2 : Int) ^ d) - 1) = ((2 ^ d - 1 : Nat) : Int) := by decide +kernel
set_option maxRecDepth 100000 in
set_option maxHeartbeats 4000000 in
theorem plan_at {w : World} {A : Option Addr} {c : Nat} {cs : List Int} {ms n : Int} (hok : okCards cs = true) (h1 : ∀ x ∈ cs, 1 ≤ x) (hn : 0 ≤ n ∧ n ≤ 300) (hca : CardsAt w A cs) :
    Calls Try.prog 55 #[.agg #[.slice A cs.length c, .int .i64 ms], .int .i64 n] w fun e w' =>
      ∃ v : Value, e = .returned v ∧ w'.ownsRow w.heap.size 49 3 v (planS (scanC cs n) (sortC cs n) cs.length).length (edCells (planS (scanC cs n) (sortC cs n) cs.length)) ∧ Below w.heap.size w w' := by
  have hd4 := okCards_len hok
  have HOK := Apart0.mk hok
  have HCA := Apart0.mk hca
  have H1 := Apart0.mk h1
  clear hok hca h1
  go_enter Try.func55, Try.ntmps55
  go_wp2_with fail
  rw [top_wrap cs.length (by omega)]
  obtain ⟨top, htop⟩ : ∃ top, top = 2 ^ cs.length - 1 := ⟨_, rfl⟩
  rw [← htop]
  obtain ⟨W0, hW0⟩ : ∃ W0, W0 = (w.alloc (.cells #[.slice A cs.length c, .int .i64 ms] 33)).alloc (.cells #[.slice A cs.length c, .int .i64 ms, .int .i64 n] 76) := ⟨_, rfl⟩
  have hsz0 : W0.heap.size = w.heap.size + 1 + 1 := by rw [hW0]; simp
  have hB0 : Below w.heap.size w W0 := by rw [hW0]; exact ((Below.refl _ w).alloc (Nat.le_refl _) _).alloc (by simp only [World.size_alloc]; omega) _
  have hp0 : W0.heap[w.heap.size + 1]? = some (.cells #[.slice A cs.length c, .int .i64 ms, .int .i64 n] 76 (0, 0)) := by
    rw [hW0]; have := World.alloc_heap_new (w.alloc (.cells #[.slice A cs.length c, .int .i64 ms] 33)) (.cells #[.slice A cs.length c, .int .i64 ms, .int .i64 n] 76); simpa using this
  rw [← hW0]
  have hlit := World.ownsRow_lit (base := W0.heap.size) (e := 49) (size := 3) W0 #[.int .i64 (top : Int), .int .i64 (-1), .bool false] 1 (Nat.le_refl _) (by unfold maxLen; omega) rfl
  have HA0 := Apart0.mk (show Acc W0 49 3 (.slice (some ⟨w.heap.size + 1 + 1, 0, none⟩) 1 1) (planJ (scanC cs n) (sortC cs n) cs.length 0).length (edCells (planJ (scanC cs n) (sortC cs n) cs.length 0)) (W0.alloc (.cells #[.int .i64 (top : Int), .int .i64 (-1), .bool false] 49)) from by
    rw [← hsz0]
    refine ⟨?_, (Below.refl _ W0).alloc (Nat.le_refl _) _⟩
    have e : edCells (planJ (scanC cs n) (sortC cs n) cs.length 0) = [.int .i64 (top : Int), .int .i64 (-1), .bool false] := by rw [htop]; simp [planJ, edCells]
    rw [e]
    simpa [planJ] using hlit)
  have HB0 := Apart0.mk hB0
  have HP0 := Apart0.mk hp0
  have HPL := Apart0.mk (planJ_len (scanC cs n) (sortC cs n) cs.length (by omega))
  have HPS := Apart0.mk (planJ_succ (scanC cs n) (sortC cs n) cs.length)
  have HPA := Apart0.mk (planJ_all (scanC cs n) (sortC cs n) cs.length)
  clear hW0 hB0 hp0 hlit htop
  go_loopw [7, 8] (fun v7 v8 wr => ∃ j : Nat, v8 = .int .i64 ((cs.length : Int) - 1 - (j : Int)) ∧ j ≤ cs.length ∧ Apart0 (Acc W0 49 3 v7 (planJ (scanC cs n) (sortC cs n) cs.length j).length (edCells (planJ (scanC cs n) (sortC cs n) cs.length j)) wr))
    (fun _ p _ => (intOf p + 1).toNat)
  case atStart => exact ⟨0, by simp, by omega, HA0⟩
  case round =>
    obtain ⟨j, rfl, hj, HA⟩ := hrel
    by_cases hlt : j < cs.length
    · have hd : decide (0 ≤ (cs.length : Int) - 1 - (j : Int)) = true := decide_eq_true (by omega)
      obtain ⟨l, hl⟩ : ∃ l : Nat, l = cs.length - 1 - j := ⟨_, rfl⟩
      have hle : (cs.length : Int) - 1 - (j : Int) = (l : Int) := by omega
      rw [hle] at hd ⊢
      have hblk := (HA.out.2.block (w.heap.size + 1) (by omega)).trans HP0.out
      have y0 : wr.cell? ⟨w.heap.size + 1, 0, none⟩ = some (.slice A cs.length c) := by simp [World.cell?, hblk]
      have y1 : wr.cell? ⟨w.heap.size + 1, 1, none⟩ = some (.int .i64 ms) := by simp [World.cell?, hblk]
      have y2 : wr.cell? ⟨w.heap.size + 1, 2, none⟩ = some (.int .i64 n) := by simp [World.cell?, hblk]
      have HE := Apart0.mk (edges_at (w := wr) (A := A) (c := c) (ms := ms) (l := l) HOK.out H1.out hn (by omega) (HCA.out.below (HB0.out.trans (HA.out.2.mono HB0.out.size))))
      have hpl := HPL.out j (by omega)
      have hps := HPS.out j hlt
      rw [← hl] at hps
      have hel := edgesS_len (scanC cs n) (sortC cs n) cs.length l
      have hlv := lvl_fin1 cs.length (by omega) l (by omega)
      have hene : edgesS (scanC cs n) (sortC cs n) cs.length l ≠ [] := by intro e; rw [e] at hel; simp at hel; omega
      have hem : (edgesS (scanC cs n) (sortC cs n) cs.length l).length ≤ 1000 := by omega
      have hwl : wrap64 ((l : Int) - 1) = (cs.length : Int) - 1 - ((j + 1 : Nat) : Int) := by unfold wrap64; omega
      have HWL := Apart0.mk hwl
      have HPS2 := Apart0.mk hps
      have HENE := Apart0.mk hene
      generalize edgesS (scanC cs n) (sortC cs n) cs.length l = E at *
      generalize hPJ : planJ (scanC cs n) (sortC cs n) cs.length j = PJ at *
      have HLJ := Apart0.mk hl
      have hlc : l < cs.length := by omega
      clear hps hel hlv hene hwl hle hblk hPJ hl
      go_wp2_with fail
      (with_reducible refine HE.out.mono ?_)
      rintro e w2 ⟨v2, rfl, h2, hb2⟩
      obtain ⟨g2, c2, rfl, hcells⟩ := eds_any h2 HENE.out
      have HA2 := Apart0.mk (HA.out.below hb2)
      have HC2 := Apart0.mk hcells
      clear h2 hb2 hcells
      go_wp2_with (at_builtin; refine wp_app_edges rfl _ _ rfl rfl E rfl (by omega) hem HC2.out HA2.out ?_; intro v' w' ha; have HA3 := Apart0.mk ha; clear ha)
      go_roundw
      case rel => exact ⟨j + 1, by first | exact congrArg (Value.int .i64) HWL.out | exact congrArg (Value.int .i64) (by have := HLJ.out; omega), by omega, ⟨by rw [HPS2.out, List.length_append, edCells_append]; exact HA3.out⟩⟩
      case measure => have := HLJ.out; simp only [intOf]; omega
    · have hd : decide (0 ≤ (cs.length : Int) - 1 - (j : Int)) = false := decide_eq_false (by omega)
      obtain rfl : j = cs.length := by omega
      have hpl := HPL.out cs.length (by omega)
      have HA2 := Apart0.mk (show Acc W0 49 3 u7 (planS (scanC cs n) (sortC cs n) cs.length).length (edCells (planS (scanC cs n) (sortC cs n) cs.length)) wr by rw [← HPA.out]; exact HA.out)
      have hcl := clone_edges HA2.out.1 (by rw [← HPA.out]; omega) (edCells_one _)
      have HCL := Apart0.mk hcl
      clear hcl hpl
      go_wp2_with fail
      refine HCL.out.mono ?_
      rintro e w9 ⟨v9, rfl, h91, h92⟩
      have HF := Apart0.mk (And.intro (ownsRow_base h91 (Nat.le_trans HB0.out.size HA2.out.2.size)) ((HB0.out.trans (HA2.out.2.mono HB0.out.size)).trans (h92.mono (Nat.le_trans HB0.out.size HA2.out.2.size))))
      clear h91 h92
      go_wp2_with fail
      go_ret
      exact ⟨v9, rfl, HF.out⟩
end Go.Proofs.Ytlplaidcdocbmaa.Srt
end
section
namespace Go.Proofs.Ytlplaidcdocbmaa.Srt
open Go.RowKit Go.Shelf Go.Proofs.Ytlplaidcdocbmaa.Core Go.Proofs.YtlplaidcdocbmaaW
set_option linter.unusedVariables false
set_option linter.unusedSimpArgs false
def EdsAt (w : World) (A : Option Addr) (es : List Ed) : Prop := ∀ i : Nat, i < es.length → ∃ ad, A = some ad ∧ w.cell? (ad.add (i * 3)) = some (.int .i64 (es.getD i ⟨0, 0, false⟩).set) ∧
  w.cell? ⟨(ad.add (i * 3)).block, (ad.add (i * 3)).off + 1, none⟩ = some (.int .i64 (es.getD i ⟨0, 0, false⟩).par) ∧ w.cell? ⟨(ad.add (i * 3)).block, (ad.add (i * 3)).off + 2, none⟩ = some (.bool (es.getD i ⟨0, 0, false⟩).scan)
theorem EdsAt.below {w w' : World} {A : Option Addr} {es : List Ed} (h : EdsAt w A es) (hb : Below w.heap.size w w') : EdsAt w' A es := fun i hi => by
  obtain ⟨ad, e, h1, h2, h3⟩ := h i hi
  exact ⟨ad, e, (hb.cell (cell_lt h1)).trans h1, (hb.cell (cell_lt h2)).trans h2, (hb.cell (cell_lt h3)).trans h3⟩
theorem costE_bd {sc so : Nat → Int} (C : Cheap sc so) (e : Ed) (h : e.par < 0 ∨ ∃ p : Nat, e.par = (p : Int) ∧ p < 16) : 0 ≤ costE sc so e ∧ costE sc so e ≤ 3000 := by
  unfold costE
  rcases h with h | ⟨p, hp, h16⟩
  · rw [if_pos h]; omega
  · rw [if_neg (by omega), hp, Int.toNat_natCast]
    have := C p h16
    split <;> omega
theorem costP_bd {sc so : Nat → Int} (C : Cheap sc so) : ∀ (l : List Ed), (∀ e ∈ l, e.par < 0 ∨ ∃ p : Nat, e.par = (p : Int) ∧ p < 16) → 0 ≤ costP sc so l ∧ costP sc so l ≤ 3000 * (l.length : Int)
  | [], _ => by simp [costP]
  | e :: l, h => by
    have h1 := costE_bd C e (h e (by simp))
    have h2 := costP_bd C l (fun x hx => h x (by simp [hx]))
    have e1 : costP sc so (e :: l) = costE sc so e + costP sc so l := by unfold costP; rw [List.map_cons, List.sum_cons]
    rw [e1, List.length_cons]
    omega
theorem costP_snoc (sc so : Nat → Int) (l : List Ed) (e : Ed) : costP sc so (l ++ [e]) = costP sc so l + costE sc so e := by
  unfold costP; rw [List.map_append, List.sum_append]; simp
theorem take_snoc' {α : Type} (l : List α) (d : α) (i : Nat) (h : i < l.length) : l.take (i + 1) = l.take i ++ [l.getD i d] := by
  have hg : l.getD i d = l[i] := by simp [h]
  rw [hg]; exact List.take_succ_eq_append_getElem h
set_option maxRecDepth 100000 in
set_option maxHeartbeats 4000000 in
theorem cost_at {w : World} {A : Option Addr} {c : Nat} {cs : List Int} {ms n : Int} {Ae : Option Addr} {ce : Nat} {es : List Ed} (hok : okCards cs = true) (h1 : ∀ x ∈ cs, 1 ≤ x) (hn : 0 ≤ n ∧ n ≤ 300) (hca : CardsAt w A cs) (hes : EdsAt w Ae es) (hel : es.length ≤ 1000)
    (hp : ∀ e ∈ es, e.par < 0 ∨ ∃ p : Nat, e.par = (p : Int) ∧ p < 16) :
    Calls Try.prog 56 #[.agg #[.slice A cs.length c, .int .i64 ms], .int .i64 n, .slice Ae es.length ce] w fun e w' => e = .returned (.int .i64 (costP (scanC cs n) (sortC cs n) es)) ∧ Below w.heap.size w w' := by
  have hmf : ∀ (fn : Fn) (first cap : Array Value) (w : World), (Instr.makeFunc fn first cap).run Try.prog w = .ok (.func fn first cap) w := fun _ _ _ _ => rfl
  have HC := Apart0.mk (cheap_of h1 hn)
  have HOK := Apart0.mk hok
  have HCA := Apart0.mk hca
  have H1 := Apart0.mk h1
  have HES := Apart0.mk hes
  have HPA := Apart0.mk hp
  clear hok hca h1 hes hp
  go_enter Try.func56, Try.ntmps56
  go_wp2_with fail
  obtain ⟨W0, hW0⟩ : ∃ W0, W0 = (w.alloc (.cells #[.slice A cs.length c, .int .i64 ms] 33)).alloc (.cells #[.slice A cs.length c, .int .i64 ms, .int .i64 n] 76) := ⟨_, rfl⟩
  have hsz0 : W0.heap.size = w.heap.size + 1 + 1 := by rw [hW0]; simp
  have hB0 : Below w.heap.size w W0 := by rw [hW0]; exact ((Below.refl _ w).alloc (Nat.le_refl _) _).alloc (by simp only [World.size_alloc]; omega) _
  have hp0 : W0.heap[w.heap.size + 1]? = some (.cells #[.slice A cs.length c, .int .i64 ms, .int .i64 n] 76 (0, 0)) := by
    rw [hW0]; have := World.alloc_heap_new (w.alloc (.cells #[.slice A cs.length c, .int .i64 ms] 33)) (.cells #[.slice A cs.length c, .int .i64 ms, .int .i64 n] 76); simpa using this
  rw [← hW0]
  have HB0 := Apart0.mk hB0
  have HP0 := Apart0.mk hp0
  clear hW0 hB0 hp0
  go_loopw [8, 17] (fun v8 v17 wr => ∃ (i : Nat) (z : Int), v17 = .int .i64 (i : Int) ∧ v8 = .int .i64 z ∧ i ≤ es.length ∧ Apart0 (z = costP (scanC cs n) (sortC cs n) (es.take i) ∧ Below W0.heap.size W0 wr))
    (fun _ p _ => es.length - (intOf p).toNat)
  case atStart => exact ⟨0, 0, rfl, rfl, by omega, ⟨rfl, Below.refl _ _⟩⟩
  case round =>
    obtain ⟨i, z, rfl, rfl, hi, HI⟩ := hrel
    have hbw := HI.out.2
    by_cases hlt : i < es.length
    · have hd : decide ((i : Int) < (es.length : Int)) = true := dec_lt i es.length hlt
      obtain ⟨ad, rfl, c0, c1, c2⟩ := (HES.out.below (HB0.out.trans (hbw.mono HB0.out.size))) i hlt
      have hz := costP_bd HC.out (es.take i) (fun e he => HPA.out e (List.mem_of_mem_take he))
      rw [← HI.out.1, List.length_take] at hz
      have hem : es.getD i ⟨0, 0, false⟩ ∈ es := by rw [getD_of_lt es i _ hlt]; exact List.getElem_mem hlt
      have hep := HPA.out _ hem
      have heb := costE_bd HC.out _ hep
      have hsn := costP_snoc (scanC cs n) (sortC cs n) (es.take i) (es.getD i ⟨0, 0, false⟩)
      rw [← take_snoc' es ⟨0, 0, false⟩ i hlt, ← HI.out.1] at hsn
      obtain ⟨e, he⟩ : ∃ e, e = es.getD i ⟨0, 0, false⟩ := ⟨_, rfl⟩
      rw [← he] at c0 c1 c2 hep heb hsn
      obtain ⟨e1, e2, e3⟩ := e
      dsimp only at c0 c1 c2 hep
      have hblk := (hbw.block (w.heap.size + 1) (by omega)).trans HP0.out
      have y0 : wr.cell? ⟨w.heap.size + 1, 0, none⟩ = some (.slice A cs.length c) := by simp [World.cell?, hblk]
      have y1 : wr.cell? ⟨w.heap.size + 1, 1, none⟩ = some (.int .i64 ms) := by simp [World.cell?, hblk]
      have y2 : wr.cell? ⟨w.heap.size + 1, 2, none⟩ = some (.int .i64 n) := by simp [World.cell?, hblk]
      have hB1 : Below wr.heap.size wr (wr.alloc (.cells #[.int .i64 e1, .int .i64 e2, .bool e3] 49)) := (Below.refl _ wr).alloc (Nat.le_refl _) _
      have hbA := HB0.out.trans ((hbw.trans (hB1.mono hbw.size)).mono HB0.out.size)
      have z0 := PrintWords.pw_cell_below hB1 y0
      have z1 := PrintWords.pw_cell_below hB1 y1
      have z2 := PrintWords.pw_cell_below hB1 y2
      have HSN := Apart0.mk hsn
      have HBW := Apart0.mk (hbw.trans (hB1.mono hbw.size))
      have HBA := Apart0.mk hbA
      clear hem he hsn hblk hbw hB1 hbA HI y0 y1 y2
      rcases hep with hneg | ⟨p, rfl, hp16⟩
      · have hd2 : decide (0 ≤ e2) = false := decide_eq_false (by omega)
        have HE := Apart0.mk (show costE (scanC cs n) (sortC cs n) ⟨e1, e2, e3⟩ = 0 by unfold costE; rw [if_pos hneg])
        cases e3 with
        | true =>
          go_wp2_with fail
          go_roundw
          case rel => exact ⟨i + 1, z, congrArg _ (Int.natCast_succ i).symm, rfl, by omega, ⟨by rw [HSN.out, HE.out]; omega, HBW.out⟩⟩
          case measure => simp only [intOf]; omega
        | false =>
          go_wp2_with fail
          go_roundw
          case rel => exact ⟨i + 1, z, congrArg _ (Int.natCast_succ i).symm, rfl, by omega, ⟨by rw [HSN.out, HE.out]; omega, HBW.out⟩⟩
          case measure => simp only [intOf]; omega
      · have hd2 : decide (0 ≤ (p : Int)) = true := decide_eq_true (by omega)
        cases e3 with
        | true =>
          have HE := Apart0.mk (show costE (scanC cs n) (sortC cs n) ⟨e1, (p : Int), true⟩ = scanC cs n p by unfold costE; rw [if_neg (by show ¬ (p : Int) < 0; omega), if_pos rfl]; rfl)
          have HCL := Apart0.mk (scan_at (c := c) (ms := ms) hp16 HOK.out (by omega : 0 ≤ n ∧ n ≤ 1000000) (HCA.out.below HBA.out))
          rw [HE.out] at heb
          generalize scanC cs n p = y at *
          have HW := Apart0.mk (show wrap64 (z + y) = z + y by unfold wrap64; omega)
          go_wp2_with fail
          (with_reducible refine HCL.out.mono ?_)
          rintro e w2 ⟨rfl, hb2⟩
          have HB2 := Apart0.mk (HBW.out.trans (hb2.mono HBW.out.size))
          clear hb2
          go_wp2_with fail
          go_roundw
          case rel => exact ⟨i + 1, z + y, congrArg _ (Int.natCast_succ i).symm, by first | rfl | exact congrArg (Value.int .i64) HW.out, by omega, ⟨by rw [HSN.out, HE.out], HB2.out⟩⟩
          case measure => simp only [intOf]; omega
        | false =>
          have HE := Apart0.mk (show costE (scanC cs n) (sortC cs n) ⟨e1, (p : Int), false⟩ = sortC cs n p by unfold costE; rw [if_neg (by show ¬ (p : Int) < 0; omega), if_neg (by simp)]; rfl)
          have HCL := Apart0.mk (sort_at (c := c) (ms := ms) hp16 HOK.out H1.out hn (HCA.out.below HBA.out))
          rw [HE.out] at heb
          generalize sortC cs n p = y at *
          have HW := Apart0.mk (show wrap64 (z + y) = z + y by unfold wrap64; omega)
          go_wp2_with fail
          (with_reducible refine HCL.out.mono ?_)
          rintro e w2 ⟨rfl, hb2⟩
          have HB2 := Apart0.mk (HBW.out.trans (hb2.mono HBW.out.size))
          clear hb2
          go_wp2_with fail
          go_roundw
          case rel => exact ⟨i + 1, z + y, congrArg _ (Int.natCast_succ i).symm, by first | rfl | exact congrArg (Value.int .i64) HW.out, by omega, ⟨by rw [HSN.out, HE.out], HB2.out⟩⟩
          case measure => simp only [intOf]; omega
    · have hd : decide ((i : Int) < (es.length : Int)) = false := dec_nlt i es.length hlt
      obtain rfl : i = es.length := by omega
      have HF := Apart0.mk (show z = costP (scanC cs n) (sortC cs n) es by rw [HI.out.1, List.take_length])
      have HB := Apart0.mk (HB0.out.trans (hbw.mono HB0.out.size))
      clear hbw HI
      go_wp2_with fail
      go_ret
      exact ⟨by rw [← HF.out]; rfl, HB.out⟩
end Go.Proofs.Ytlplaidcdocbmaa.Srt
end
section
namespace Go.Proofs.Ytlplaidcdocbmaa.Srt
open Go.Proofs.Ytlplaidcdocbmaa.Core Go.Proofs.Ytlplaidcdocbmaa.Mat
set_option linter.unusedVariables false
set_option linter.unusedSimpArgs false
def okE (d i : Nat) (e : Ed) : Bool := (e.set == (((sets d).getD i 0 : Nat) : Int)) && (if i = 0 then e.par == -1 && !e.scan else (parents ((sets d).getD i 0) d).any fun p => ((p : Nat) : Int) == e.par)
def rightGo (d : Nat) : Nat → List Int → List Ed → Bool
  | _, _, [] => true
  | i, seen, e :: r => okE d i e && !(e.scan && seen.contains e.par) && rightGo d (i + 1) (if e.scan then seen ++ [e.par] else seen) r
def rightS (d : Nat) (o : List Ed) : Bool := (o.length == (sets d).length) && rightGo d 0 [] o
theorem okE_pos {d i : Nat} (hi : i ≠ 0) (e : Ed) : okE d i e = true ↔ e.set = (((sets d).getD i 0 : Nat) : Int) ∧ ∃ p : Nat, e.par = (p : Int) ∧ p ∈ parents e.set.toNat d := by
  unfold okE
  rw [if_neg hi, Bool.and_eq_true, beq_iff_eq, List.any_eq_true]
  constructor
  · rintro ⟨h1, p, h2, h3⟩
    rw [beq_iff_eq] at h3
    exact ⟨h1, p, h3.symm, by rw [h1]; simpa using h2⟩
  · rintro ⟨h1, p, h2, h3⟩
    refine ⟨h1, p, ?_, by rw [beq_iff_eq]; exact h2.symm⟩
    rw [h1] at h3
    simpa using h3
theorem rightGo_iff (d : Nat) : ∀ (r : List Ed) (i : Nat) (seen : List Int), i ≠ 0 → i + r.length = (sets d).length →
    (rightGo d i seen r = true ↔ RightAt d ((sets d).drop i) r ∧ ∀ x ∈ (r.filter (·.scan)).map (·.par), x ∉ seen)
  | [], i, seen, hi, hl => by
    have : (sets d).drop i = [] := List.drop_eq_nil_of_le (by simp at hl; omega)
    rw [this]
    simp [rightGo, RightAt]
  | e :: r, i, seen, hi, hl => by
    simp only [List.length_cons] at hl
    have hlt : i < (sets d).length := by omega
    have ih := rightGo_iff d r (i + 1) (if e.scan then seen ++ [e.par] else seen) (by omega) (by omega)
    rw [List.drop_eq_getElem_cons hlt]
    have hg : (sets d).getD i 0 = (sets d)[i] := getD_of_lt _ _ _ hlt
    simp only [rightGo, Bool.and_eq_true]
    rw [okE_pos hi, ih, hg]
    cases hs : e.scan with
    | true =>
      simp only [if_true, Bool.true_and, Bool.not_eq_true', List.contains_eq_mem, decide_eq_false_iff_not]
      unfold RightAt
      rw [List.map_cons, List.map_cons, List.filter_cons_of_pos (by simpa using hs), List.map_cons, List.nodup_cons]
      constructor
      · rintro ⟨⟨⟨h1, h2⟩, h3⟩, ⟨h4, h5, h6⟩, h7⟩
        refine ⟨⟨by rw [h1, h4], fun x hx => ?_, fun hm => ?_, h6⟩, fun x hx => ?_⟩
        · rcases List.mem_cons.1 hx with rfl | hx
          · exact h2
          · exact h5 x hx
        · exact h7 _ hm (by simp)
        · rcases List.mem_cons.1 hx with rfl | hx
          · exact h3
          · exact fun hm => h7 x hx (by simp [hm])
      · rintro ⟨⟨h1, h2, h3, h4⟩, h5⟩
        obtain ⟨h1a, h1b⟩ := List.cons.inj h1
        refine ⟨⟨⟨h1a, h2 e (by simp)⟩, h5 _ (by simp)⟩, ⟨h1b, fun x hx => h2 x (by simp [hx]), h4⟩, fun x hx => ?_⟩
        intro hm
        rcases List.mem_append.1 hm with hm | hm
        · exact h5 x (by simp only [List.mem_cons]; exact .inr hx) hm
        · simp only [List.mem_singleton] at hm
          subst hm
          exact h3 hx
    | false =>
      simp only [Bool.false_and, Bool.not_false, and_true, Bool.false_eq_true, if_false]
      unfold RightAt
      rw [List.map_cons, List.map_cons, List.filter_cons_of_neg (by simpa using hs)]
      constructor
      · rintro ⟨⟨h1, h2⟩, ⟨h4, h5, h6⟩, h7⟩
        refine ⟨⟨by rw [h1, h4], fun x hx => ?_, h6⟩, h7⟩
        rcases List.mem_cons.1 hx with rfl | hx
        · exact h2
        · exact h5 x hx
      · rintro ⟨⟨h1, h2, h4⟩, h5⟩
        obtain ⟨h1a, h1b⟩ := List.cons.inj h1
        exact ⟨⟨h1a, h2 e (by simp)⟩, ⟨h1b, fun x hx => h2 x (by simp [hx]), h4⟩, h5⟩
theorem rightS_iff (d : Nat) (hd : d < 5) (o : List Ed) : rightS d o = true ↔ RightPlan d o := by
  have hs := sets_levels d hd
  have hlen : (sets d).length = (belowS d d).length + 1 := by rw [hs]; rfl
  have hdrop : (sets d).drop 1 = belowS d d := by rw [hs]; rfl
  unfold rightS RightPlan
  cases o with
  | nil =>
    constructor
    · intro h
      rw [Bool.and_eq_true, beq_iff_eq] at h
      simp only [List.length_nil] at h
      omega
    · rintro ⟨e0, r, h, _⟩; cases h
  | cons e r =>
    rw [Bool.and_eq_true, beq_iff_eq, List.length_cons]
    have hz : (sets d).getD 0 0 = 2 ^ d - 1 := by rw [hs]; rfl
    have hok : okE d 0 e = true ↔ e.set = ((2 ^ d - 1 : Nat) : Int) ∧ e.par = -1 ∧ e.scan = false := by
      unfold okE
      rw [if_pos rfl, hz, Bool.and_eq_true, beq_iff_eq, Bool.and_eq_true, beq_iff_eq, Bool.not_eq_true']
    constructor
    · rintro ⟨h1, h2⟩
      simp only [rightGo, Bool.and_eq_true] at h2
      obtain ⟨⟨h3, h4⟩, h5⟩ := h2
      obtain ⟨k1, k2, k3⟩ := hok.1 h3
      rw [k3] at h5
      have := ((rightGo_iff d r 1 [] (by omega) (by omega)).1 h5).1
      rw [hdrop] at this
      exact ⟨e, r, rfl, k1, k2, k3, this⟩
    · rintro ⟨e0, r', h, k1, k2, k3, k4⟩
      obtain ⟨rfl, rfl⟩ := List.cons.inj h
      have hl : r.length = (belowS d d).length := by have := congrArg List.length k4.1; simpa using this
      refine ⟨by omega, ?_⟩
      simp only [rightGo, Bool.and_eq_true]
      refine ⟨⟨hok.2 ⟨k1, k2, k3⟩, by simp [k3]⟩, ?_⟩
      rw [k3]
      exact (rightGo_iff d r 1 [] (by omega) (by omega)).2 ⟨by rw [hdrop]; exact k4, fun x _ => by simp⟩
def bitsL (d s : Nat) : List Nat := (List.range d).filter fun i => s.testBit i
def orderS (o : List Ed) (d : Nat) : Nat → Nat → List Nat
  | 0, s => bitsL d s
  | f + 1, s => match o.find? fun e => e.scan && e.par == (s : Int) with
    | some e => orderS o d f e.set.toNat ++ bitsL d (s - e.set.toNat)
    | none => bitsL d s
def ordersS (o : List Ed) (d : Nat) : List (List Nat) := o.map fun e => orderS o d 5 e.set.toNat
end Go.Proofs.Ytlplaidcdocbmaa.Srt
end
