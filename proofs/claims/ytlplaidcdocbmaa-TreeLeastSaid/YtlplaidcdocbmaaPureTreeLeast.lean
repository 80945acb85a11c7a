/- TreeLeast: its plain side. -/
import Derived.Test.YtlplaidcdocbmaaCore14
import Derived.Test.YtlplaidcdocbmaaCore19
import Derived.Test.YtlplaidcdocbmaaPTreeLeastx4
namespace Go.Proofs.Ytlplaidcdocbmaa.Pure
open Go.RowKit Go.Proofs.Ytlplaidcdocbmaa.PTreeLeast Go.Proofs.YtlplaidcdocbmaaW.PrintWords Go.Proofs.YtlplaidcdocbmaaW.PrintLast Go.Proofs.YtlplaidcdocbmaaW.PrintMore Go.Proofs.Ytlplaidcdocbmaa.Core
set_option linter.unusedVariables false
set_option linter.unusedSimpArgs false
namespace TreeLeastp
theorem within_f (a n : Int) (hn : 0 < n) (h2 : n ≤ 4611686018427387904) : ∃ z : Nat, hypercubelaw11_within.f a n = some (z : Int) ∧ (z : Int) < n := by
  have h1 := Int.tmod_lt_of_pos a hn
  have h3 := Int.tmod_lt_of_pos (-a) hn
  rw [Int.neg_tmod] at h3
  have key : ∃ z : Int, hypercubelaw11_within.f a n = some z ∧ 0 ≤ z ∧ z < n := by
    unfold hypercubelaw11_within.f
    rw [if_neg (by omega)]
    by_cases h : Int.tmod a n < 0
    · refine ⟨Int.tmod a n + n, ?_, by omega, by omega⟩
      rw [if_pos h]
      congr 1
      unfold wrap64
      omega
    · refine ⟨Int.tmod a n, ?_, by omega, by omega⟩
      rw [if_neg h]
  obtain ⟨z, h, h0, hz⟩ := key
  obtain ⟨m, rfl⟩ := Int.eq_ofNat_of_zero_le h0
  exact ⟨m, h, hz⟩

theorem known_f : hypercubelaw11_known.f = some true := by decide +kernel
theorem within1_f (a n : Int) (hn : 0 < n) (h2 : n ≤ 4611686018427387904) : ∃ z, hypercubelaw1_within.f a n = some z ∧ 0 ≤ z ∧ z < n := by
  have h1 := Int.tmod_lt_of_pos a hn
  have h3 := Int.tmod_lt_of_pos (-a) hn
  rw [Int.neg_tmod] at h3
  unfold hypercubelaw1_within.f
  rw [if_neg (by omega)]
  by_cases h : Int.tmod a n < 0
  · refine ⟨Int.tmod a n + n, ?_, by omega, by omega⟩
    rw [if_pos h]
    congr 1
    unfold wrap64
    omega
  · refine ⟨Int.tmod a n, ?_, by omega, by omega⟩
    rw [if_neg h]

theorem facts_step (k : Nat) (a0 d : Int) (l1 : List Int) (i : Int) (cs : List Int) (m : Int) (hd : hypercubelaw1_within.f a0 4 = some d) (h0 : 0 ≤ i) (hi : i ≤ d) (hd3 : d ≤ 3) (hcs : cs.length ≤ 16) :
    ∃ c, 1 ≤ c ∧ c ≤ 5 ∧ hypercubelaw1_Facts.l0 (k + 1) a0 l1 [] i cs m = hypercubelaw1_Facts.l0 k a0 l1 [] (i + 1) (cs ++ [c]) m := by
  have hw : wrap64 (i + 1) = i + 1 := by unfold wrap64; omega
  by_cases hl : i < (l1.length : Int)
  · obtain ⟨z, hz, hz0, hz1⟩ := within1_f (rd l1 i) 5 (by decide) (by decide)
    refine ⟨1 + z, by omega, by omega, ?_⟩
    have hw2 : wrap64 (1 + z) = 1 + z := by unfold wrap64; omega
    simp only [hypercubelaw1_Facts.l0]
    rw [hd]
    simp only [Option.bind_some]
    rw [if_pos hi, if_pos hl, if_pos h0, hz]
    simp only [Option.bind_some]
    rw [if_pos (by omega), hw, hw2]
  · obtain ⟨z, hz, hz0, hz1⟩ := within1_f (wrap64 (i + 2)) 5 (by decide) (by decide)
    refine ⟨1 + z, by omega, by omega, ?_⟩
    have hw2 : wrap64 (1 + z) = 1 + z := by unfold wrap64; omega
    simp only [hypercubelaw1_Facts.l0]
    rw [hd]
    simp only [Option.bind_some]
    rw [if_pos hi, if_neg hl, hz]
    simp only [Option.bind_some]
    rw [if_pos (by omega), hw, hw2]

theorem facts_end (k : Nat) (a0 d : Int) (l1 : List Int) (i : Int) (cs : List Int) (m : Int) (hd : hypercubelaw1_within.f a0 4 = some d) (hi : d < i) (hcs : 0 < cs.length) :
    ∃ b : Bool, hypercubelaw1_Facts.l0 (k + 4) a0 l1 [] i cs m = some (if b then cs.set 0 16 else cs, m, []) := by
  obtain ⟨z, hz, hz0, hz1⟩ := within1_f a0 7 (by decide) (by decide)
  refine ⟨decide (z = 0), ?_⟩
  simp only [hypercubelaw1_Facts.l0]
  rw [hd]
  simp only [Option.bind_some]
  rw [if_neg (by omega), hz]
  simp only [Option.bind_some]
  by_cases h : z = 0
  · rw [if_pos h, if_pos (by omega)]
    simp [hypercubelaw1_Facts.j1, hypercubelaw1_Facts.l1, hypercubelaw1_Facts.j3, h]
  · rw [if_neg h]
    simp [hypercubelaw1_Facts.j1, hypercubelaw1_Facts.l1, hypercubelaw1_Facts.j3, h]

/-- A schema of numbers: one to four cards, each 1 to 16; no rows of no numbers. -/
theorem facts_nil (a0 : Int) (l1 : List Int) (a2 : Int) : ∃ (cs : List Int) (m : Int), hypercubelaw1_Facts.f 8 a0 l1 a2 [] = some (cs, m, []) ∧
    1 ≤ cs.length ∧ cs.length ≤ 4 ∧ (∀ c ∈ cs, 1 ≤ c ∧ c ≤ 16) ∧ 0 ≤ m ∧ m ≤ 2 := by
  obtain ⟨m, hm, hm0, hm1⟩ := within1_f a2 3 (by decide) (by decide)
  obtain ⟨d, hd, hd0, hd1⟩ := within1_f a0 4 (by decide) (by decide)
  have fin : ∀ (k : Nat) (i : Int) (cs : List Int), d < i → 0 < cs.length → cs.length ≤ 4 → (∀ c ∈ cs, 1 ≤ c ∧ c ≤ 5) →
      ∃ (r : List Int), hypercubelaw1_Facts.l0 (k + 4) a0 l1 [] i cs m = some (r, m, []) ∧ 1 ≤ r.length ∧ r.length ≤ 4 ∧ (∀ c ∈ r, 1 ≤ c ∧ c ≤ 16) := by
    intro k i cs h1 h2 h3 h4
    obtain ⟨b, hb⟩ := facts_end k a0 d l1 i cs m hd h1 h2
    refine ⟨_, hb, ?_, ?_, ?_⟩
    · cases b <;> simp <;> omega
    · cases b <;> simp <;> omega
    · intro c hc
      cases b with
      | false =>
        have := h4 c (by simpa using hc)
        omega
      | true =>
        have hc' : c ∈ cs.set 0 16 := by simpa using hc
        rcases List.mem_or_eq_of_mem_set hc' with h | h
        · have := h4 c h
          omega
        · omega
  have all : ∃ (r : List Int), hypercubelaw1_Facts.l0 8 a0 l1 [] 0 [] m = some (r, m, []) ∧ 1 ≤ r.length ∧ r.length ≤ 4 ∧ (∀ c ∈ r, 1 ≤ c ∧ c ≤ 16) := by
    obtain ⟨c0, h00, h01, e0⟩ := facts_step 7 a0 d l1 0 [] m hd (by omega) (by omega) (by omega) (by simp)
    rw [e0]
    by_cases g1 : d < 1
    · exact fin 3 _ _ (by omega) (by simp) (by simp) (by simp; omega)
    obtain ⟨c1, h10, h11, e1⟩ := facts_step 6 a0 d l1 (0 + 1) ([] ++ [c0]) m hd (by omega) (by omega) (by omega) (by simp)
    rw [e1]
    by_cases g2 : d < 2
    · exact fin 2 _ _ (by omega) (by simp) (by simp) (by simp; omega)
    obtain ⟨c2, h20, h21, e2⟩ := facts_step 5 a0 d l1 (0 + 1 + 1) ([] ++ [c0] ++ [c1]) m hd (by omega) (by omega) (by omega) (by simp)
    rw [e2]
    by_cases g3 : d < 3
    · exact fin 1 _ _ (by omega) (by simp) (by simp) (by simp; omega)
    obtain ⟨c3, h30, h31, e3⟩ := facts_step 4 a0 d l1 (0 + 1 + 1 + 1) ([] ++ [c0] ++ [c1] ++ [c2]) m hd (by omega) (by omega) (by omega) (by simp)
    rw [e3]
    exact fin 0 _ _ (by omega) (by simp) (by simp) (by simp; omega)
  obtain ⟨r, hr, h1, h2, h3⟩ := all
  refine ⟨r, m, ?_, h1, h2, h3, hm0, by omega⟩
  unfold hypercubelaw1_Facts.f
  rw [hm]
  simp only [Option.bind_some]
  exact hr

theorem facts_of (K : Nat) (hK : 8 ≤ K) (a0 : Int) (l1 : List Int) : ∃ (cs : List Int) (m : Int), hypercubelaw1_Facts.f K a0 l1 0 [] = some (cs, m, []) ∧ 1 ≤ cs.length ∧ cs.length ≤ 4 ∧ (∀ c ∈ cs, 1 ≤ c ∧ c ≤ 16) ∧ okCards cs = true := by
  obtain ⟨cs, m, h, h1, h2, h3, _⟩ := facts_nil a0 l1 0
  exact ⟨cs, m, at_rounds (fun k => hypercubelaw1_Facts.mono _ _ _ _ k) hK h, h1, h2, h3, okCards_of h2 (fun x hx => ⟨by have := h3 x hx; omega, (h3 x hx).2⟩)⟩
theorem refsize_l (cs : List Int) (m n : Int) (s : Nat) (hs : s < 16) (hok : okCards cs = true) : ∀ (d i : Nat), i + d = cs.length → ∀ k, hypercuberef8_Size.l0 (k + d + 1) n s (upTo cs s i) (i : Int) cs m = some (sizeI cs n s)
  | 0, i, hi, k => by
    have hlen := okCards_len hok
    have e : i = cs.length := by omega
    subst e
    simp only [hypercuberef8_Size.l0]
    rw [if_neg (by omega), mn_eq, upTo_end]
  | d + 1, i, hi, k => by
    have hlen := okCards_len hok
    have ih := refsize_l cs m n s hs hok d (i + 1) (by omega) k
    obtain ⟨b1, b2⟩ := bit_fin s hs i (by omega)
    have bd := upTo_bd cs s (i + 1) hok (by omega)
    have hn1 := Aside0.mk (next_fin i (by omega))
    show hypercuberef8_Size.l0 ((k + d + 1) + 1) n s (upTo cs s i) (i : Int) cs m = _
    generalize k + d + 1 = K at *
    simp only [hypercuberef8_Size.l0]
    rw [if_pos (by omega), if_pos b1]
    cases hb : s.testBit i with
    | true =>
      rw [hb] at b2
      rw [if_pos (of_decide_eq_true b2), if_pos (by omega), hn1.out, rdn]
      rw [upTo_yes cs s i hb] at bd ih
      rw [w64 _ (by omega) (by omega)]
      exact ih
    | false =>
      rw [hb] at b2
      rw [if_neg (of_decide_eq_false b2), hn1.out]
      rw [upTo_no cs s i hb] at ih
      exact ih
theorem refsize_f (cs : List Int) (m n : Int) (s : Nat) (hs : s < 16) (hok : okCards cs = true) : hypercuberef8_Size.f 20 cs m n s = some (sizeI cs n s) := by
  have hlen := okCards_len hok
  have h := refsize_l cs m n s hs hok cs.length 0 (by omega) (19 - cs.length)
  rw [show 19 - cs.length + cs.length + 1 = 20 by omega] at h
  exact h
theorem par_ref : ∀ d : Nat, d < 5 → ∀ s : Nat, s < 2 ^ d → hypercuberef8_Parents.f 40 (s : Int) (d : Int) = some (ofN (parents s d)) := by decide +kernel
theorem par_none : ∀ d : Nat, d < 5 → parents ((sets d).getD 0 0) d = [] := by decide +kernel
theorem par_fin : ∀ d : Nat, d < 5 → ∀ s : Nat, s < 2 ^ d → ∀ p ∈ parents s d, p < 16 := by decide +kernel
theorem refsize_k (q : Nat) (hq : 20 ≤ q) (cs : List Int) (m n : Int) (s : Nat) (hs : s < 16) (hok : okCards cs = true) : hypercuberef8_Size.f q cs m n s = some (sizeI cs n s) := at_rounds (fun k => hypercuberef8_Size.mono _ _ _ _ k) hq (refsize_f cs m n s hs hok)
theorem rd_ofN (P : List Nat) (j : Nat) (h : j < P.length) : rd (ofN P) (j : Int) = ((P[j] : Nat) : Int) := by
  rw [rdn]; simp [ofN, List.getD_eq_getElem?_getD, h]
theorem ofN_len (P : List Nat) : (ofN P).length = P.length := by simp [ofN]
theorem w64n (j : Nat) (h : j ≤ 1000) : wrap64 ((j : Int) + 1) = ((j + 1 : Nat) : Int) := next_fin j h
theorem sets_bd (d : Nat) (hd : d < 5) : (sets d).length = 2 ^ d ∧ (sets d).length ≤ 16 := ⟨(sets_fin d hd).1, by rw [(sets_fin d hd).1]; exact pow16 d (by omega)⟩
theorem rd_plan (cs : List Int) (n : Int) (i : Nat) (hi : i < (sets cs.length).length) : rd_T49 (planL S49.mk cs n) (i : Int) = ⟨(((sets cs.length).getD i 0 : Nat) : Int), parentT cs n i, false⟩ := by
  unfold rd_T49 planL
  simp [List.getD_eq_getElem?_getD, hi]
theorem plan_len (cs : List Int) (n : Int) : (planL S49.mk cs n).length = (sets cs.length).length := by simp [planL]
theorem least_props (f : Nat → Int) : ∀ (n : Nat) (P : List Nat), P.length = n → P.Pairwise (· < ·) → ∀ p ∈ P, f (leastL f P) < f p ∨ (f (leastL f P) = f p ∧ leastL f P ≤ p)
  | 0, P, hl, _, p, hp => by rw [List.length_eq_zero_iff.1 hl] at hp; exact absurd hp (by simp)
  | n + 1, P, hl, hw, p, hp => by
    have hne : P ≠ [] := by intro e; rw [e] at hl; simp at hl
    obtain ⟨Q, y, rfl⟩ : ∃ Q y, P = Q ++ [y] := ⟨P.dropLast, P.getLast hne, (List.dropLast_concat_getLast hne).symm⟩
    obtain ⟨w1, w2, w3⟩ := List.pairwise_append.1 hw
    by_cases hq : Q = []
    · subst hq
      have : p = y := by simpa using hp
      subst this
      exact .inr ⟨by rw [leastL_one], by rw [leastL_one]; exact Nat.le_refl _⟩
    · have ih := least_props f n Q (by simpa using hl) w1
      have hb := leastL_mem f Q hq
      have hby := w3 _ hb y (by simp)
      rw [leastL_snoc f Q y hq]
      rcases List.mem_append.1 hp with h | h
      · rcases ih p h with h1 | ⟨h1, h2⟩
        · by_cases hc : f y < f (leastL f Q)
          · rw [if_pos hc]; left; omega
          · rw [if_neg hc]; left; exact h1
        · by_cases hc : f y < f (leastL f Q)
          · rw [if_pos hc]; left; omega
          · rw [if_neg hc]; right; exact ⟨h1, h2⟩
      · have : p = y := by simpa using h
        subst this
        by_cases hc : f p < f (leastL f Q)
        · rw [if_pos hc]; right; exact ⟨rfl, Nat.le_refl _⟩
        · rw [if_neg hc]
          by_cases he : f (leastL f Q) = f p
          · right; exact ⟨he, by omega⟩
          · left; omega
theorem parents_up (s d : Nat) : (parents s d).Pairwise (· < ·) := List.Pairwise.filter _ List.pairwise_lt_range
theorem loop2 (cs : List Int) (m n : Int) (hok : okCards cs = true) (X : List S49) (i : Nat) (hi : i < X.length) (b : Nat) (hb : (rd_T49 X (i : Int)).f1 = (b : Int)) (P : List Nat) (hP : ∀ p ∈ P, p < 16) (hPl : P.length ≤ 16)
    (hpr : ∀ p ∈ P, sizeI cs n (b : Int) < sizeI cs n (p : Int) ∨ (sizeI cs n (b : Int) = sizeI cs n (p : Int) ∧ b ≤ p)) :
    ∀ (d j : Nat), j + d = P.length → ∀ K, 20 ≤ K → hypercubelaw11_TreeLeast.l2 (K + d + 1) n X (i : Int) (ofN P) (sizeI cs n (b : Int)) (j : Int) cs m = hypercubelaw11_TreeLeast.l0 K n X (wrap64 ((i : Int) + 1)) cs m
  | 0, j, hj, K, hK => by
    simp only [Nat.add_zero, hypercubelaw11_TreeLeast.l2]
    rw [if_neg (by rw [ofN_len]; omega)]
  | d + 1, j, hj, K, hK => by
    have hlt : j < P.length := by omega
    have ih := loop2 cs m n hok X i hi b hb P hP hPl hpr d (j + 1) (by omega) K hK
    have hr := rd_ofN P j hlt
    have hpj := hP P[j] (List.getElem_mem hlt)
    have hpp := hpr P[j] (List.getElem_mem hlt)
    have hn1 := Aside0.mk (w64n j (by omega))
    have hKd : ∃ q, q = K + d + 1 ∧ 20 ≤ q := ⟨_, rfl, by omega⟩
    rw [show K + (d + 1) + 1 = (K + d + 1) + 1 by omega]
    obtain ⟨q, hq, hq20⟩ := hKd
    rw [← hq] at ih ⊢
    simp only [hypercubelaw11_TreeLeast.l2]
    rw [if_pos (by rw [ofN_len]; omega), if_pos (by omega), hr, refsize_k q hq20 cs m n P[j] hpj hok, Option.bind_some, if_neg (by omega), hn1.out]
    by_cases he : sizeI cs n ((P[j] : Nat) : Int) = sizeI cs n (b : Int)
    · rw [if_pos he, if_pos (by omega), if_pos (by omega), hb, if_neg (by omega)]; exact ih
    · rw [if_neg he]; exact ih
theorem loop1 (cs : List Int) (m n : Int) (hok : okCards cs = true) (X : List S49) (i : Nat) (hi : i < X.length) (b : Nat) (hb16 : b < 16) (hb : (rd_T49 X (i : Int)).f1 = (b : Int)) (P : List Nat) (hbP : b ∈ P) (hPl : P.length ≤ 16) :
    ∀ (d j : Nat), j + d = P.length → ∀ K, 20 ≤ K → hypercubelaw11_TreeLeast.l1 (K + d + 1) n X (i : Int) (ofN P) (decide (b ∈ P.take j)) (j : Int) cs m = hypercubelaw11_TreeLeast.l2 K n X (i : Int) (ofN P) (sizeI cs n (b : Int)) 0 cs m
  | 0, j, hj, K, hK => by
    have e : j = P.length := by omega
    subst e
    rw [List.take_length]
    simp only [Nat.add_zero, hypercubelaw11_TreeLeast.l1]
    rw [if_neg (by rw [ofN_len]; omega), if_pos (decide_eq_true hbP), if_pos (by omega), if_pos (by omega), hb, refsize_k K hK cs m n b hb16 hok, Option.bind_some]
  | d + 1, j, hj, K, hK => by
    have hlt : j < P.length := by omega
    have ih := loop1 cs m n hok X i hi b hb16 hb P hbP hPl d (j + 1) (by omega) K hK
    have hr := rd_ofN P j hlt
    have htk : P.take (j + 1) = P.take j ++ [P[j]] := List.take_succ_eq_append_getElem hlt
    have hn1 := Aside0.mk (w64n j (by omega))
    rw [htk] at ih
    rw [show K + (d + 1) + 1 = (K + d + 1) + 1 by omega]
    generalize K + d + 1 = q at *
    simp only [hypercubelaw11_TreeLeast.l1]
    rw [if_pos (by rw [ofN_len]; omega), hn1.out]
    by_cases hm : b ∈ P.take j
    · rw [if_pos (decide_eq_true hm)]
      rw [show decide (b ∈ P.take j ++ [P[j]]) = true from decide_eq_true (List.mem_append_left _ hm)] at ih
      exact ih
    · rw [if_neg (by simpa using hm), if_pos (by omega), if_pos (by omega), if_pos (by omega), hr, hb]
      rw [show decide (b ∈ P.take j ++ [P[j]]) = (((P[j] : Nat) : Int) == (b : Int)) by
        rw [Bool.eq_iff_iff, decide_eq_true_iff, beq_iff_eq]
        constructor
        · intro h
          rcases List.mem_append.1 h with h | h
          · exact absurd h hm
          · have := List.mem_singleton.1 h; omega
        · intro h
          exact List.mem_append_right _ (List.mem_singleton.2 (by omega))] at ih
      exact ih
theorem shl_fin : ∀ d : Nat, d < 5 → 0 ≤ IntKind.u64.wrap (d : Int) ∧ shl .i64 1 (IntKind.u64.wrap (d : Int)) = ((2 ^ d : Nat) : Int) := by decide +kernel
theorem outer (cs : List Int) (m n : Int) (hok : okCards cs = true) (hd : cs.length < 5) :
    ∀ (d i : Nat), i + d = (sets cs.length).length → ∃ k0, ∀ k, k0 ≤ k → hypercubelaw11_TreeLeast.l0 k n (planL S49.mk cs n) (i : Int) cs m = some true
  | 0, i, hi => by
    obtain ⟨u1, u2⟩ := shl_fin cs.length hd
    obtain ⟨s1, s2⟩ := sets_bd cs.length hd
    refine ⟨1, fun k hk => ?_⟩
    obtain ⟨k', rfl⟩ : ∃ k', k = k' + 1 := ⟨k - 1, by omega⟩
    simp only [hypercubelaw11_TreeLeast.l0]
    rw [if_neg (by rw [plan_len]; omega), if_pos u1, u2, plan_len, s1]
    simp
  | d + 1, i, hi => by
    obtain ⟨k0, ih⟩ := outer cs m n hok hd d (i + 1) (by omega)
    obtain ⟨u1, u2⟩ := shl_fin cs.length hd
    obtain ⟨s1, s2⟩ := sets_bd cs.length hd
    have hlt : i < (sets cs.length).length := by omega
    have hs := (sets_fin cs.length hd).2 i (by omega)
    have hrd := rd_plan cs n i hlt
    have hlen := plan_len cs n
    have hpl := parents_len ((sets cs.length).getD i 0) cs.length (by omega)
    have hpm := par_fin cs.length hd ((sets cs.length).getD i 0) hs.1
    have hpr := par_ref cs.length hd ((sets cs.length).getD i 0) hs.1
    have hup := parents_up ((sets cs.length).getD i 0) cs.length
    have hp0 := par_none cs.length hd
    have hn1 := Aside0.mk (w64n i (by omega))
    have hne : decide ((((sets cs.length).getD i 0 : Nat) : Int) ≥ ((2 ^ cs.length : Nat) : Int)) = false := decide_eq_false (by have := hs.1; omega)
    refine ⟨k0 + 200, fun k hk => ?_⟩
    have hl2 : ∀ b : Nat, (rd_T49 (planL S49.mk cs n) (i : Int)).f1 = (b : Int) → _ := fun b hb => loop2 cs m n hok (planL S49.mk cs n) i (by rw [hlen]; exact hlt) b hb (parents ((sets cs.length).getD i 0) cs.length) hpm hpl
    have hl1 : ∀ b : Nat, b < 16 → (rd_T49 (planL S49.mk cs n) (i : Int)).f1 = (b : Int) → _ := fun b hb16 hb => loop1 cs m n hok (planL S49.mk cs n) i (by rw [hlen]; exact hlt) b hb16 hb (parents ((sets cs.length).getD i 0) cs.length)
    have hpar : parentT cs n i = if i = 0 then -1 else ((leastL (fun p => sizeI cs n p) (parents ((sets cs.length).getD i 0) cs.length) : Nat) : Int) := rfl
    have hi0 : i = 0 → parents ((sets cs.length).getD i 0) cs.length = [] := fun h => by rw [h]; exact hp0
    have hi1 := hs.2
    generalize parents ((sets cs.length).getD i 0) cs.length = P at *
    obtain ⟨K, rfl⟩ : ∃ K, k = ((K + P.length + 1) + P.length + 1) + 1 + 1 := ⟨k - 2 * P.length - 4, by omega⟩
    have i1 := ih ((K + P.length + 1) + P.length + 1) (by omega)
    have i2 := ih K (by omega)
    have h3 : hypercuberef8_Parents.f ((K + P.length + 1) + P.length + 1) (((sets cs.length).getD i 0 : Nat) : Int) (cs.length : Int) = some (ofN P) := at_rounds (fun k => hypercuberef8_Parents.mono _ _ k) (by omega) hpr
    have g2 := fun b hb h => hl2 b hb h P.length 0 (by omega) K (by omega)
    have g1 := fun b h16 hb hm => hl1 b h16 hb hm hpl P.length 0 (by omega) (K + P.length + 1) (by omega)
    generalize (K + P.length + 1) + P.length + 1 = q at *
    have hj : hypercubelaw11_TreeLeast.j1 (q + 1) n (planL S49.mk cs n) (i : Int) false cs m = some true := by
      simp only [hypercubelaw11_TreeLeast.j1]
      rw [if_neg (by simp), if_pos (by omega), if_pos (by rw [hlen]; omega), hrd]
      dsimp only
      rw [h3, Option.bind_some, hn1.out]
      by_cases h0 : i = 0
      · rw [if_pos (by rw [ofN_len, hi0 h0]; rfl), if_pos (by rw [hpar, if_pos h0])]
        exact i1
      · have hne := hi1 h0
        have hm := leastL_mem (fun p => sizeI cs n p) P hne
        have hb : (rd_T49 (planL S49.mk cs n) (i : Int)).f1 = ((leastL (fun p => sizeI cs n p) P : Nat) : Int) := by rw [hrd]; dsimp only; rw [hpar, if_neg h0]
        have hlp : P.length ≠ 0 := fun e => hne (List.length_eq_zero_iff.1 e)
        rw [if_neg (by rw [ofN_len]; omega)]
        have r1 := g1 _ (hpm _ hm) hb hm
        have r2 := g2 _ hb (least_props (fun p => sizeI cs n p) P.length P rfl hup)
        rw [hn1.out] at r2
        exact (r1.trans r2).trans i2
    generalize q + 1 = q1 at *
    simp only [hypercubelaw11_TreeLeast.l0]
    rw [if_pos (by rw [hlen]; omega), if_pos (by omega), hrd]
    dsimp only
    rw [if_neg (by simp), if_neg (by omega), if_pos u1, u2, hne]
    exact hj
end TreeLeastp
open TreeLeastp
theorem TreeLeast : hypercubelaw11_TreeLeast.Pure := by
  intro a0 l1 a2 _ _ _ _ _
  obtain ⟨z, hz, hzl⟩ := TreeLeastp.within_f a2 301 (by decide) (by decide)
  obtain ⟨cs, m, hF, c1, c4, cr, hok⟩ := TreeLeastp.facts_of 8 (Nat.le_refl _) a0 l1
  obtain ⟨k1, h1⟩ := TreeLeastp.outer cs m (z : Int) hok (by omega) (sets cs.length).length 0 (by omega)
  refine ⟨k1 + 100, ?_⟩
  have e1 := h1 (k1 + 100) (by omega)
  have e0 : hypercubelaw1_Facts.f (k1 + 100) a0 l1 0 [] = some (cs, m, []) := at_rounds (fun k => hypercubelaw1_Facts.mono _ _ _ _ k) (by omega) hF
  have e4 : tree_Plan.f cs m (z : Int) = some (planL S49.mk cs (z : Int)) := by
    unfold tree_Plan.f; rw [if_pos ⟨hok, by omega, by omega⟩]
  unfold hypercubelaw11_TreeLeast.f
  rw [TreeLeastp.known_f, Option.bind_some, if_pos rfl, e0, Option.bind_some, hz, Option.bind_some]
  dsimp only
  rw [e4, Option.bind_some]
  exact e1

end Go.Proofs.Ytlplaidcdocbmaa.Pure
