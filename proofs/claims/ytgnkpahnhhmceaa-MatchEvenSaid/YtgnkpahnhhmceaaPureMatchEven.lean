/- The pure statement under MatchEven: where all costs are one the first columns go, in order. -/
import Derived.Test.YtgnkpahnhhmceaaPMatchEvenx1
import Derived.Test.YtgnkpahnhhmceaaCore12
namespace Go.Proofs.Ytgnkpahnhhmceaa.Pure
open Go.RowKit Go.Proofs.Ytgnkpahnhhmceaa.PMatchEven Go.Proofs.YtgnkpahnhhmceaaW.PrintWords Go.Proofs.YtgnkpahnhhmceaaW.PrintLast Go.Proofs.Ytgnkpahnhhmceaa.Core
set_option linter.unusedVariables false
set_option linter.unusedSimpArgs false

theorem row_const {m : Nat} {w : Int} (h0 : 0 ≤ w) (h1 : w ≤ 1000000) : GoodRow m (List.replicate m w) := by
  refine ⟨by simp, fun k => ?_⟩
  by_cases hk : k < m
  · simp [hk, h0, h1]
  · rw [List.getD_eq_getElem?_getD, List.getElem?_eq_none (by simp; omega)]
    simp
theorem good_const {m n : Nat} {w : Int} (h0 : 0 ≤ w) (h1 : w ≤ 1000000) : Core.Good m (List.replicate n (List.replicate m w)) := by
  intro r hr
  rw [List.eq_of_mem_replicate hr]
  exact row_const (m := m) h0 h1
theorem get_const {m k : Nat} {w : Int} (hk : k < m) : (List.replicate m w).getD k 0 = w := by simp [hk]
theorem best_const {m : Nat} {w : Int} (h0 : 0 ≤ w) (h1 : w ≤ 1000000) : ∀ (j s : Nat), j ≤ 12 → j ≤ frees m s → best (List.replicate j (List.replicate m w)) s = (j : Int) * w
  | 0, s, _, _ => by simp [best]
  | j + 1, s, hj, hf => by
    have hlt := feas m (List.replicate (j + 1) (List.replicate m w)) s (by simpa using hj) (good_const (m := m) h0 h1) (by simpa using hf)
    rw [List.replicate_succ] at hlt ⊢
    rcases best_attained (m := m) (List.replicate j (List.replicate m w)) s (row_const (m := m) h0 h1) with h | ⟨k, hk, hfk, h⟩
    · omega
    · have hp := frees_put (m := m) hk hfk
      have ih := best_const (m := m) h0 h1 j (s ||| 2 ^ k) (by omega) (by omega)
      rw [h, ih, get_const (m := m) hk, Int.natCast_add, Int.add_mul]
      omega
theorem ones_put (i : Nat) : (2 ^ i - 1) ||| 2 ^ i = 2 ^ (i + 1) - 1 := by
  apply Nat.eq_of_testBit_eq
  intro j
  rw [testBit_put, Nat.testBit_two_pow_sub_one, Nat.testBit_two_pow_sub_one]
  by_cases h : i = j
  · subst h; simp
  · by_cases h2 : j < i <;> simp [h, h2] <;> omega
theorem frees_ones {m : Nat} : ∀ (i : Nat), i ≤ m → frees m (2 ^ i - 1) + i = m
  | 0, _ => by simp [frees_zero]
  | i + 1, h => by
    have ih := frees_ones (m := m) i (by omega)
    have hp := frees_put (m := m) (s := 2 ^ i - 1) (k := i) (by omega) (by rw [Nat.testBit_two_pow_sub_one]; simp)
    rw [ones_put] at hp
    omega
theorem pick_const {m : Nat} {w : Int} (h0 : 0 ≤ w) (h1 : w ≤ 1000000) : ∀ (j i : Nat), j ≤ 12 → i + j ≤ m → pick (List.replicate j (List.replicate m w)) (2 ^ i - 1) = (List.range' i j).map (fun k : Nat => (k : Int))
  | 0, i, _, _ => by simp [pick]
  | j + 1, i, hj, hij => by
    have hfr := frees_ones (m := m) i (by omega)
    have hlt := feas m (List.replicate (j + 1) (List.replicate m w)) (2 ^ i - 1) (by simpa using hj) (good_const (m := m) h0 h1) (by simp; omega)
    have hb := best_const (m := m) h0 h1 (j + 1) (2 ^ i - 1) hj (by omega)
    rw [List.replicate_succ] at hlt hb ⊢
    obtain ⟨k, hfk, hk, hf, he, hmin⟩ := find_hit (row_const (m := m) h0 h1) hlt
    have hki : k = i := by
      rw [Nat.testBit_two_pow_sub_one] at hf
      have hik : ¬ k < i := by simpa using hf
      rcases Nat.lt_or_ge i k with h | h
      · have hi := hmin i h
        have hfi : (2 ^ i - 1).testBit i = false := by rw [Nat.testBit_two_pow_sub_one]; simp
        have hp := frees_put (m := m) (s := 2 ^ i - 1) (k := i) (by omega) hfi
        have hbi := best_const (m := m) h0 h1 j ((2 ^ i - 1) ||| 2 ^ i) (by omega) (by omega)
        have : hit (List.replicate m w) (best (List.replicate j (List.replicate m w))) (best (List.replicate m w :: List.replicate j (List.replicate m w)) (2 ^ i - 1)) (2 ^ i - 1) i = true := by
          simp only [hit, Bool.and_eq_true]
          refine ⟨by simp [hfi], decide_eq_true ?_⟩
          rw [hb, hbi, get_const (m := m) (by omega), Int.natCast_add, Int.add_mul]
          omega
        rw [this] at hi
        cases hi
      · omega
    subst hki
    rw [pick_cons (row_const (m := m) h0 h1) hfk, ones_put, pick_const h0 h1 j (k + 1) (by omega) (by omega), List.range'_succ]
    rfl

theorem me_l2 {n : Nat} (hn : n ≤ 12) : ∀ (d i : Nat), i + d = n → ∃ K, hypercubelaw9_MatchEven.l2 K (n : Int) ((List.range' 0 n).map (fun k : Nat => (k : Int))) (i : Int) = some true := by
  intro d
  induction d with
  | zero =>
    intro i hi
    refine ⟨1, ?_⟩
    simp only [hypercubelaw9_MatchEven.l2]
    rw [if_neg (by omega)]
  | succ d ih =>
    intro i hi
    obtain ⟨K, h⟩ := ih (i + 1) (by omega)
    have hi1 := Aside0.mk (show wrap64 ((i : Int) + 1) = ((i + 1 : Nat) : Int) by rw [Core.wrap_small _ (by omega) (by omega)]; omega)
    have hr : rd ((List.range' 0 n).map (fun k : Nat => (k : Int))) (i : Int) = (i : Int) := by
      rw [rd_nat]
      simp [List.getElem?_range', show i < n by omega]
    refine ⟨K + 1, ?_⟩
    simp only [hypercubelaw9_MatchEven.l2]
    rw [if_pos (by omega), if_pos (by omega), if_pos (by simp; omega), if_pos hr, hi1.out]
    exact h

section
variable {n m : Nat} {w : Int}
theorem me_l1 (hn : n ≤ 6) (hm : m ≤ 11) {i : Nat} (hi : i < n) (hnext : ∃ K, hypercubelaw9_MatchEven.l0 K (n : Int) (m : Int) w (List.replicate (i + 1) (List.replicate m w)) ((i + 1 : Nat) : Int) = some true) :
    ∀ (d k : Nat), k + d = m → ∃ K, hypercubelaw9_MatchEven.l1 K (n : Int) (m : Int) w (List.replicate i (List.replicate m w)) (i : Int) (List.replicate k w) (k : Int) = some true := by
  have hi1 := Aside0.mk (show wrap64 ((i : Int) + 1) = ((i + 1 : Nat) : Int) by rw [Core.wrap_small _ (by omega) (by omega)]; omega)
  intro d
  induction d with
  | zero =>
    intro k hk
    obtain rfl : k = m := by omega
    obtain ⟨K, h⟩ := hnext
    refine ⟨K + 1, ?_⟩
    simp only [hypercubelaw9_MatchEven.l1]
    rw [if_neg (by omega), if_pos (by simp; omega), hi1.out, ← List.replicate_succ']
    exact h
  | succ d ih =>
    intro k hk
    obtain ⟨K, h⟩ := ih (k + 1) (by omega)
    have hk1 := Aside0.mk (show wrap64 ((k : Int) + 1) = ((k + 1 : Nat) : Int) by rw [Core.wrap_small _ (by omega) (by omega)]; omega)
    refine ⟨K + 1, ?_⟩
    simp only [hypercubelaw9_MatchEven.l1]
    rw [if_pos (by omega), if_pos (by simp; omega), hk1.out, ← List.replicate_succ']
    exact h
theorem me_l0 (hn : n ≤ 6) (hm : m ≤ 11) (hnm : n ≤ m) (h0 : 0 ≤ w) (h1 : w ≤ 1000000) :
    ∀ (d i : Nat), i + d = n → ∃ K, hypercubelaw9_MatchEven.l0 K (n : Int) (m : Int) w (List.replicate i (List.replicate m w)) (i : Int) = some true := by
  intro d
  induction d with
  | zero =>
    intro i hi
    obtain rfl : i = n := by omega
    obtain ⟨K, h⟩ := me_l2 (n := i) (by omega) i 0 (by omega)
    refine ⟨K + 2, ?_⟩
    have hr : right (List.replicate i (List.replicate m w)) = true := right_of (m := m) (by simp; omega) (by omega) (by simpa using hnm) (fun r hr => by
      rw [List.eq_of_mem_replicate hr]
      refine ⟨by simp, fun v hv => ?_⟩
      rw [List.eq_of_mem_replicate hv]
      exact ⟨h0, h1⟩)
    have hb := best_const (m := m) h0 h1 i 0 (by omega) (by rw [frees_zero]; exact hnm)
    have hp := pick_const (m := m) h0 h1 i 0 (by omega) (by omega)
    have hw : wrap64 ((i : Int) * w) = (i : Int) * w := by
      have h2 : (i : Int) * w ≤ 6 * 1000000 := Int.mul_le_mul (by omega) h1 h0 (by decide)
      have h3 : 0 ≤ (i : Int) * w := Int.mul_nonneg (by omega) h0
      exact Core.wrap_small _ (by omega) (by omega)
    simp only [hypercubelaw9_MatchEven.l0, hypercubelaw9_MatchEven.j2]
    unfold PMatchEven.match_Assign.f assign
    rw [if_neg (by omega), if_pos hr]
    simp only [Option.bind_some, if_true]
    rw [hb, hw, if_pos rfl]
    simp only [show (2 : Nat) ^ 0 - 1 = 0 from rfl] at hp
    rw [hp]
    have hlen : ((((List.range' 0 i).map (fun k : Nat => (k : Int))).length : Int) != (i : Int)) = false := by simp
    rw [hlen]
    simp only [Bool.false_eq_true, if_false]
    exact h
  | succ d ih =>
    intro i hi
    obtain ⟨K, h⟩ := me_l1 hn hm (i := i) (by omega) (ih (i + 1) (by omega)) m 0 (by omega)
    refine ⟨K + 1, ?_⟩
    simp only [hypercubelaw9_MatchEven.l0]
    rw [if_pos (by omega)]
    exact h
end
theorem MatchEven : hypercubelaw9_MatchEven.Pure := by
  intro a0 a1 a2 _ _ _
  obtain ⟨n, hn, hn0, hn1⟩ := within_f a0 7 (by decide) (by decide)
  obtain ⟨p, hp, hp0, hp1⟩ := within_f a1 6 (by decide) (by decide)
  obtain ⟨w, hw, hw0, hw1⟩ := within_f a2 1000001 (by decide) (by decide)
  obtain ⟨n', rfl⟩ := Int.eq_ofNat_of_zero_le hn0
  obtain ⟨p', rfl⟩ := Int.eq_ofNat_of_zero_le hp0
  have hs := Aside0.mk (show wrap64 ((n' : Int) + (p' : Int)) = ((n' + p' : Nat) : Int) by rw [Core.wrap_small _ (by omega) (by omega)]; omega)
  obtain ⟨K, h⟩ := me_l0 (n := n') (m := n' + p') (w := w) (by omega) (by omega) (by omega) hw0 (by omega) n' 0 (by omega)
  refine ⟨K, ?_⟩
  unfold hypercubelaw9_MatchEven.f hypercubelaw9_known.f PMatchEven.hypercubelaw9_within.f
  simp only [Option.bind_some, if_true]
  rw [hn]
  simp only [Option.bind_some]
  rw [hp]
  simp only [Option.bind_some]
  rw [hw]
  simp only [Option.bind_some]
  rw [hs.out]
  exact h
end Go.Proofs.Ytgnkpahnhhmceaa.Pure
