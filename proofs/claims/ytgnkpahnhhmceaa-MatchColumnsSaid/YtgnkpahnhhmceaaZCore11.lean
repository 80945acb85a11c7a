-- Cut by pack.py, a program of this session; not trusted: Lean checks it.
import Derived.Test.YtgnkpahnhhmceaaZCore10
import Derived.Test.YtgnkpahnhhmceaaZCore9
/- The statements' own helpers of chapter 9, as plain lists. -/
namespace Go.Proofs.Ytgnkpahnhhmceaa.Core
open Go.RowKit Go.Proofs.YtgnkpahnhhmceaaW.PrintWords Go.Proofs.YtgnkpahnhhmceaaW.PrintLast Go.Proofs.YtgnkpahnhhmceaaW.PrintMore
set_option linter.unusedVariables false
set_option linter.unusedSimpArgs false

theorem known_f : Kn.hypercubelaw9_known.f = some true := by decide +kernel

theorem known_calls (w : World) : Calls Try.prog 13 #[] w fun e w' => e = .returned (.bool true) ∧ Below w.heap.size w w' := Kn.hypercubelaw9_known.calls true w known_f

theorem within_f (a n : Int) (hn : 0 < n) (h2 : n ≤ 4611686018427387904) : ∃ z, hypercubelaw9_within.f a n = some z ∧ 0 ≤ z ∧ z < n := by
  have h1 := Int.tmod_lt_of_pos a hn
  have h3 := Int.tmod_lt_of_pos (-a) hn
  rw [Int.neg_tmod] at h3
  unfold hypercubelaw9_within.f
  rw [if_neg (by omega)]
  by_cases h : Int.tmod a n < 0
  · refine ⟨Int.tmod a n + n, ?_, by omega, by omega⟩
    rw [if_pos h]
    congr 1
    unfold wrap64
    omega
  · refine ⟨Int.tmod a n, ?_, by omega, by omega⟩
    rw [if_neg h]

def RowC (m : Nat) (r : List Int) : Prop := r.length = m ∧ ∀ v ∈ r, 0 ≤ v ∧ v ≤ 1000000
theorem right_of {m : Nat} {c : List (List Int)} (hc : c.length ≤ 12) (hm : m ≤ 12) (hcm : c.length ≤ m) (h : ∀ r ∈ c, RowC m r) : right c = true := by
  unfold right
  rw [Bool.and_eq_true, decide_eq_true_eq, List.all_eq_true]
  refine ⟨hc, fun r hr => ?_⟩
  have h1 := h r hr
  have h0 : (rdL c 0).length = m := by
    cases c with
    | nil => simp at hr
    | cons a l => exact (h a (by simp)).1
  simp only [rowOk, Bool.and_eq_true, decide_eq_true_eq, List.all_eq_true]
  refine ⟨⟨⟨by rw [h0, h1.1], by rw [h1.1]; exact hm⟩, by rw [h1.1]; exact hcm⟩, fun v hv => ?_⟩
  have := h1.2 v hv
  simp only [okc, Bool.and_eq_true, decide_eq_true_eq]
  exact this

section
variable {P : List (List Int) → Prop} {l2 : List Int} {a3 : Int} {n m : Nat}
theorem costs1_ev (hn : n ≤ 5) (hm : m ≤ 9) {i : Nat} (hi : i < n) {acc : List (List Int)}
    (hnext : ∀ r, RowC m r → ∃ K c, hypercubelaw9_Costs.l0 K l2 a3 (n : Int) (m : Int) (acc ++ [r]) ((i + 1 : Nat) : Int) = some c ∧ P c) (hacc : acc.length ≤ 12) :
    ∀ (d k : Nat) (r : List Int), k + d = m → RowC k r → ∃ K c, hypercubelaw9_Costs.l1 K l2 a3 (n : Int) (m : Int) acc (i : Int) r (k : Int) = some c ∧ P c := by
  have hi1 := Aside0.mk (show wrap64 ((i : Int) + 1) = ((i + 1 : Nat) : Int) by rw [wrap_small _ (by omega) (by omega)]; omega)
  intro d
  induction d with
  | zero =>
    intro k r hk hr
    obtain rfl : k = m := by omega
    obtain ⟨K, c, h, hP⟩ := hnext r hr
    refine ⟨K + 1, c, ?_, hP⟩
    simp only [hypercubelaw9_Costs.l1]
    rw [if_neg (by omega), if_pos (by omega), hi1.out]
    exact h
  | succ d ih =>
    intro k r hk hr
    have hk1 := Aside0.mk (show wrap64 ((k : Int) + 1) = ((k + 1 : Nat) : Int) by rw [wrap_small _ (by omega) (by omega)]; omega)
    obtain ⟨z, hz, hz0, hz1⟩ := within_f a3 50 (by decide) (by decide)
    have hw1 := Aside0.mk (show wrap64 (1 + z) = 1 + z from wrap_small _ (by omega) (by omega))
    obtain ⟨q, hq⟩ : ∃ q, wrap64 ((wrap64 ((i : Int) * (m : Int))) + (k : Int)) = q := ⟨_, rfl⟩
    have hq0 : 0 ≤ q := by
      have hb : i * m ≤ 5 * 9 := Nat.mul_le_mul (by omega) hm
      have e : (i : Int) * (m : Int) = ((i * m : Nat) : Int) := by simp
      rw [e] at hq
      generalize i * m = p at hq hb
      rw [wrap_small (p : Int) (by omega) (by omega), wrap_small _ (by omega) (by omega)] at hq
      omega
    by_cases hlt : q < (l2.length : Int)
    · obtain ⟨y, hy, hy0, hy1⟩ := within_f (rd l2 q) (1 + z) (by omega) (by omega)
      obtain ⟨K, c, h, hP⟩ := ih (k + 1) (r ++ [y]) (by omega) ⟨by simp [hr.1], fun v hv => by
        rcases List.mem_append.1 hv with hv | hv
        · exact hr.2 v hv
        · have : v = y := by simpa using hv
          omega⟩
      refine ⟨K + 1, c, ?_, hP⟩
      simp only [hypercubelaw9_Costs.l1]
      rw [if_pos (by omega), hq, if_pos hlt, if_pos hq0, hz]
      simp only [Option.bind_some]
      rw [hw1.out, hy]
      simp only [Option.bind_some]
      rw [if_pos (by rw [hr.1]; omega), hk1.out]
      exact h
    · obtain ⟨y, hy, hy0, hy1⟩ := within_f (wrap64 ((wrap64 ((i : Int) * 3)) + (k : Int))) (1 + z) (by omega) (by omega)
      obtain ⟨K, c, h, hP⟩ := ih (k + 1) (r ++ [y]) (by omega) ⟨by simp [hr.1], fun v hv => by
        rcases List.mem_append.1 hv with hv | hv
        · exact hr.2 v hv
        · have : v = y := by simpa using hv
          omega⟩
      refine ⟨K + 1, c, ?_, hP⟩
      simp only [hypercubelaw9_Costs.l1]
      rw [if_pos (by omega), hq, if_neg hlt, hz]
      simp only [Option.bind_some]
      rw [hw1.out, hy]
      simp only [Option.bind_some]
      rw [if_pos (by rw [hr.1]; omega), hk1.out]
      exact h

theorem costs0_ev (hn : n ≤ 5) (hm : m ≤ 9) (hfin : ∀ c, c.length = n → (∀ r ∈ c, RowC m r) → P c) :
    ∀ (d i : Nat) (acc : List (List Int)), i + d = n → acc.length = i → (∀ r ∈ acc, RowC m r) → ∃ K c, hypercubelaw9_Costs.l0 K l2 a3 (n : Int) (m : Int) acc (i : Int) = some c ∧ P c := by
  intro d
  induction d with
  | zero =>
    intro i acc hi hl hg
    refine ⟨1, acc, ?_, hfin acc (by omega) hg⟩
    simp only [hypercubelaw9_Costs.l0]
    rw [if_neg (by omega)]
  | succ d ih =>
    intro i acc hi hl hg
    obtain ⟨K, c, h, hP⟩ := costs1_ev (P := P) (l2 := l2) (a3 := a3) (m := m) hn hm (i := i) (by omega) (acc := acc) (fun r hr => ih (i + 1) (acc ++ [r]) (by omega) (by simp [hl]) (fun r' hr' => by
      rcases List.mem_append.1 hr' with h | h
      · exact hg r' h
      · have : r' = r := by simpa using h
        rw [this]; exact hr)) (by omega) m 0 [] (by omega) ⟨rfl, fun v hv => by simp at hv⟩
    refine ⟨K + 1, c, ?_, hP⟩
    simp only [hypercubelaw9_Costs.l0]
    rw [if_pos (by omega)]
    exact h
end

theorem costs_ex (a0 a1 : Int) (l2 : List Int) (a3 : Int) : ∃ c : List (List Int), (∃ K, hypercubelaw9_Costs.f K a0 a1 l2 a3 = some c) ∧ right c = true ∧ ∃ m, m ≤ 9 ∧ c.length ≤ m ∧ c.length ≤ 5 ∧ ∀ r ∈ c, RowC m r := by
  obtain ⟨n, hn, hn0, hn1⟩ := within_f a0 6 (by decide) (by decide)
  obtain ⟨p, hp, hp0, hp1⟩ := within_f a1 5 (by decide) (by decide)
  obtain ⟨n', rfl⟩ := Int.eq_ofNat_of_zero_le hn0
  obtain ⟨p', rfl⟩ := Int.eq_ofNat_of_zero_le hp0
  have hw := Aside0.mk (show wrap64 ((n' : Int) + (p' : Int)) = ((n' + p' : Nat) : Int) by rw [wrap_small _ (by omega) (by omega)]; omega)
  obtain ⟨K, c, h, h1, h2⟩ := costs0_ev (P := fun c => c.length = n' ∧ ∀ r ∈ c, RowC (n' + p') r) (l2 := l2) (a3 := a3) (n := n') (m := n' + p') (by omega) (by omega) (fun c h1 h2 => ⟨h1, h2⟩) n' 0 [] (by omega) rfl (fun r hr => by simp at hr)
  refine ⟨c, ⟨K, ?_⟩, right_of (m := n' + p') (by omega) (by omega) (by omega) h2, n' + p', by omega, by omega, by omega, h2⟩
  unfold hypercubelaw9_Costs.f
  rw [hn]
  simp only [Option.bind_some]
  rw [hp]
  simp only [Option.bind_some]
  rw [hw.out]
  exact h

noncomputable def costs (a0 a1 : Int) (l2 : List Int) (a3 : Int) : List (List Int) := Classical.choose (costs_ex a0 a1 l2 a3)
theorem below_drawn {w w' : World} (h : Drawn0 w w') : Below w.heap.size w w' := by
  obtain ⟨n, rfl⟩ := h
  exact pw_below_drewN (Below.refl _ _) n
end Go.Proofs.Ytgnkpahnhhmceaa.Core
