/- TreeAll: its plain side. -/
import Derived.Test.YtlplaidcdocbmaaCore14
import Derived.Test.YtlplaidcdocbmaaCore19
import Derived.Test.YtlplaidcdocbmaaPTreeAllx9
namespace Go.Proofs.Ytlplaidcdocbmaa.Pure
open Go.RowKit Go.Proofs.Ytlplaidcdocbmaa.PTreeAll Go.Proofs.YtlplaidcdocbmaaW.PrintWords Go.Proofs.YtlplaidcdocbmaaW.PrintLast Go.Proofs.YtlplaidcdocbmaaW.PrintMore Go.Proofs.Ytlplaidcdocbmaa.Core
set_option linter.unusedVariables false
set_option linter.unusedSimpArgs false
namespace TreeAllp
theorem within_f (a n : Int) (hn : 0 < n) (h2 : n ≤ 4611686018427387904) : ∃ z : Nat, hypercubelaw11_within.f a n = some (z : Int) ∧ (z : Int) < n := by
  have h1 := Int.tmod_lt_of_pos a hn
  have h3 := Int.tmod_lt_of_pos (-a) hn
  rw [Int.neg_tmod] at h3
  have key : ∃ z : Int, hypercubelaw11_within.f a n = some z ∧ 0 ≤ z ∧ z < n := by
    unfold hypercubelaw11_within.f
    rw [if_neg (by omega)]
    by_cases h : Int.tmod a n < 0
    · refine ⟨Int.tmod a n + n, ?_, by omega, by omega⟩
      rw [if_pos h]
      congr 1
      unfold wrap64
      omega
    · refine ⟨Int.tmod a n, ?_, by omega, by omega⟩
      rw [if_neg h]
  obtain ⟨z, h, h0, hz⟩ := key
  obtain ⟨m, rfl⟩ := Int.eq_ofNat_of_zero_le h0
  exact ⟨m, h, hz⟩

theorem known_f : hypercubelaw11_known.f = some true := by decide +kernel
theorem within1_f (a n : Int) (hn : 0 < n) (h2 : n ≤ 4611686018427387904) : ∃ z, hypercubelaw1_within.f a n = some z ∧ 0 ≤ z ∧ z < n := by
  have h1 := Int.tmod_lt_of_pos a hn
  have h3 := Int.tmod_lt_of_pos (-a) hn
  rw [Int.neg_tmod] at h3
  unfold hypercubelaw1_within.f
  rw [if_neg (by omega)]
  by_cases h : Int.tmod a n < 0
  · refine ⟨Int.tmod a n + n, ?_, by omega, by omega⟩
    rw [if_pos h]
    congr 1
    unfold wrap64
    omega
  · refine ⟨Int.tmod a n, ?_, by omega, by omega⟩
    rw [if_neg h]

theorem facts_step (k : Nat) (a0 d : Int) (l1 : List Int) (i : Int) (cs : List Int) (m : Int) (hd : hypercubelaw1_within.f a0 4 = some d) (h0 : 0 ≤ i) (hi : i ≤ d) (hd3 : d ≤ 3) (hcs : cs.length ≤ 16) :
    ∃ c, 1 ≤ c ∧ c ≤ 5 ∧ hypercubelaw1_Facts.l0 (k + 1) a0 l1 [] i cs m = hypercubelaw1_Facts.l0 k a0 l1 [] (i + 1) (cs ++ [c]) m := by
  have hw : wrap64 (i + 1) = i + 1 := by unfold wrap64; omega
  by_cases hl : i < (l1.length : Int)
  · obtain ⟨z, hz, hz0, hz1⟩ := within1_f (rd l1 i) 5 (by decide) (by decide)
    refine ⟨1 + z, by omega, by omega, ?_⟩
    have hw2 : wrap64 (1 + z) = 1 + z := by unfold wrap64; omega
    simp only [hypercubelaw1_Facts.l0]
    rw [hd]
    simp only [Option.bind_some]
    rw [if_pos hi, if_pos hl, if_pos h0, hz]
    simp only [Option.bind_some]
    rw [if_pos (by omega), hw, hw2]
  · obtain ⟨z, hz, hz0, hz1⟩ := within1_f (wrap64 (i + 2)) 5 (by decide) (by decide)
    refine ⟨1 + z, by omega, by omega, ?_⟩
    have hw2 : wrap64 (1 + z) = 1 + z := by unfold wrap64; omega
    simp only [hypercubelaw1_Facts.l0]
    rw [hd]
    simp only [Option.bind_some]
    rw [if_pos hi, if_neg hl, hz]
    simp only [Option.bind_some]
    rw [if_pos (by omega), hw, hw2]

theorem facts_end (k : Nat) (a0 d : Int) (l1 : List Int) (i : Int) (cs : List Int) (m : Int) (hd : hypercubelaw1_within.f a0 4 = some d) (hi : d < i) (hcs : 0 < cs.length) :
    ∃ b : Bool, hypercubelaw1_Facts.l0 (k + 4) a0 l1 [] i cs m = some (if b then cs.set 0 16 else cs, m, []) := by
  obtain ⟨z, hz, hz0, hz1⟩ := within1_f a0 7 (by decide) (by decide)
  refine ⟨decide (z = 0), ?_⟩
  simp only [hypercubelaw1_Facts.l0]
  rw [hd]
  simp only [Option.bind_some]
  rw [if_neg (by omega), hz]
  simp only [Option.bind_some]
  by_cases h : z = 0
  · rw [if_pos h, if_pos (by omega)]
    simp [hypercubelaw1_Facts.j1, hypercubelaw1_Facts.l1, hypercubelaw1_Facts.j3, h]
  · rw [if_neg h]
    simp [hypercubelaw1_Facts.j1, hypercubelaw1_Facts.l1, hypercubelaw1_Facts.j3, h]

/-- A schema of numbers: one to four cards, each 1 to 16; no rows of no numbers. -/
theorem facts_nil (a0 : Int) (l1 : List Int) (a2 : Int) : ∃ (cs : List Int) (m : Int), hypercubelaw1_Facts.f 8 a0 l1 a2 [] = some (cs, m, []) ∧
    1 ≤ cs.length ∧ cs.length ≤ 4 ∧ (∀ c ∈ cs, 1 ≤ c ∧ c ≤ 16) ∧ 0 ≤ m ∧ m ≤ 2 := by
  obtain ⟨m, hm, hm0, hm1⟩ := within1_f a2 3 (by decide) (by decide)
  obtain ⟨d, hd, hd0, hd1⟩ := within1_f a0 4 (by decide) (by decide)
  have fin : ∀ (k : Nat) (i : Int) (cs : List Int), d < i → 0 < cs.length → cs.length ≤ 4 → (∀ c ∈ cs, 1 ≤ c ∧ c ≤ 5) →
      ∃ (r : List Int), hypercubelaw1_Facts.l0 (k + 4) a0 l1 [] i cs m = some (r, m, []) ∧ 1 ≤ r.length ∧ r.length ≤ 4 ∧ (∀ c ∈ r, 1 ≤ c ∧ c ≤ 16) := by
    intro k i cs h1 h2 h3 h4
    obtain ⟨b, hb⟩ := facts_end k a0 d l1 i cs m hd h1 h2
    refine ⟨_, hb, ?_, ?_, ?_⟩
    · cases b <;> simp <;> omega
    · cases b <;> simp <;> omega
    · intro c hc
      cases b with
      | false =>
        have := h4 c (by simpa using hc)
        omega
      | true =>
        have hc' : c ∈ cs.set 0 16 := by simpa using hc
        rcases List.mem_or_eq_of_mem_set hc' with h | h
        · have := h4 c h
          omega
        · omega
  have all : ∃ (r : List Int), hypercubelaw1_Facts.l0 8 a0 l1 [] 0 [] m = some (r, m, []) ∧ 1 ≤ r.length ∧ r.length ≤ 4 ∧ (∀ c ∈ r, 1 ≤ c ∧ c ≤ 16) := by
    obtain ⟨c0, h00, h01, e0⟩ := facts_step 7 a0 d l1 0 [] m hd (by omega) (by omega) (by omega) (by simp)
    rw [e0]
    by_cases g1 : d < 1
    · exact fin 3 _ _ (by omega) (by simp) (by simp) (by simp; omega)
    obtain ⟨c1, h10, h11, e1⟩ := facts_step 6 a0 d l1 (0 + 1) ([] ++ [c0]) m hd (by omega) (by omega) (by omega) (by simp)
    rw [e1]
    by_cases g2 : d < 2
    · exact fin 2 _ _ (by omega) (by simp) (by simp) (by simp; omega)
    obtain ⟨c2, h20, h21, e2⟩ := facts_step 5 a0 d l1 (0 + 1 + 1) ([] ++ [c0] ++ [c1]) m hd (by omega) (by omega) (by omega) (by simp)
    rw [e2]
    by_cases g3 : d < 3
    · exact fin 1 _ _ (by omega) (by simp) (by simp) (by simp; omega)
    obtain ⟨c3, h30, h31, e3⟩ := facts_step 4 a0 d l1 (0 + 1 + 1 + 1) ([] ++ [c0] ++ [c1] ++ [c2]) m hd (by omega) (by omega) (by omega) (by simp)
    rw [e3]
    exact fin 0 _ _ (by omega) (by simp) (by simp) (by simp; omega)
  obtain ⟨r, hr, h1, h2, h3⟩ := all
  refine ⟨r, m, ?_, h1, h2, h3, hm0, by omega⟩
  unfold hypercubelaw1_Facts.f
  rw [hm]
  simp only [Option.bind_some]
  exact hr

theorem facts_of (K : Nat) (hK : 8 ≤ K) (a0 : Int) (l1 : List Int) : ∃ (cs : List Int) (m : Int), hypercubelaw1_Facts.f K a0 l1 0 [] = some (cs, m, []) ∧ 1 ≤ cs.length ∧ cs.length ≤ 4 ∧ (∀ c ∈ cs, 1 ≤ c ∧ c ≤ 16) ∧ okCards cs = true := by
  obtain ⟨cs, m, h, h1, h2, h3, _⟩ := facts_nil a0 l1 0
  exact ⟨cs, m, at_rounds (fun k => hypercubelaw1_Facts.mono _ _ _ _ k) hK h, h1, h2, h3, okCards_of h2 (fun x hx => ⟨by have := h3 x hx; omega, (h3 x hx).2⟩)⟩
theorem refsize_l (cs : List Int) (m n : Int) (s : Nat) (hs : s < 16) (hok : okCards cs = true) : ∀ (d i : Nat), i + d = cs.length → ∀ k, hypercuberef8_Size.l0 (k + d + 1) n s (upTo cs s i) (i : Int) cs m = some (sizeI cs n s)
  | 0, i, hi, k => by
    have hlen := okCards_len hok
    have e : i = cs.length := by omega
    subst e
    simp only [hypercuberef8_Size.l0]
    rw [if_neg (by omega), mn_eq, upTo_end]
  | d + 1, i, hi, k => by
    have hlen := okCards_len hok
    have ih := refsize_l cs m n s hs hok d (i + 1) (by omega) k
    obtain ⟨b1, b2⟩ := bit_fin s hs i (by omega)
    have bd := upTo_bd cs s (i + 1) hok (by omega)
    have hn1 := Aside0.mk (next_fin i (by omega))
    show hypercuberef8_Size.l0 ((k + d + 1) + 1) n s (upTo cs s i) (i : Int) cs m = _
    generalize k + d + 1 = K at *
    simp only [hypercuberef8_Size.l0]
    rw [if_pos (by omega), if_pos b1]
    cases hb : s.testBit i with
    | true =>
      rw [hb] at b2
      rw [if_pos (of_decide_eq_true b2), if_pos (by omega), hn1.out, rdn]
      rw [upTo_yes cs s i hb] at bd ih
      rw [w64 _ (by omega) (by omega)]
      exact ih
    | false =>
      rw [hb] at b2
      rw [if_neg (of_decide_eq_false b2), hn1.out]
      rw [upTo_no cs s i hb] at ih
      exact ih
theorem refsize_f (cs : List Int) (m n : Int) (s : Nat) (hs : s < 16) (hok : okCards cs = true) : hypercuberef8_Size.f 20 cs m n s = some (sizeI cs n s) := by
  have hlen := okCards_len hok
  have h := refsize_l cs m n s hs hok cs.length 0 (by omega) (19 - cs.length)
  rw [show 19 - cs.length + cs.length + 1 = 20 by omega] at h
  exact h
theorem sets_ref : ∀ d : Nat, d < 5 → hypercuberef8_Sets.f 100 (d : Int) = some (ofN (sets d)) := by decide +kernel
theorem par_ref : ∀ d : Nat, d < 5 → ∀ s : Nat, s < 2 ^ d → hypercuberef8_Parents.f 40 (s : Int) (d : Int) = some (ofN (parents s d)) := by decide +kernel
theorem par_none : ∀ d : Nat, d < 5 → parents ((sets d).getD 0 0) d = [] := by decide +kernel
theorem par_fin : ∀ d : Nat, d < 5 → ∀ s : Nat, s < 2 ^ d → ∀ p ∈ parents s d, p < 16 := by decide +kernel
theorem refsize_k (q : Nat) (hq : 20 ≤ q) (cs : List Int) (m n : Int) (s : Nat) (hs : s < 16) (hok : okCards cs = true) : hypercuberef8_Size.f q cs m n s = some (sizeI cs n s) := at_rounds (fun k => hypercuberef8_Size.mono _ _ _ _ k) hq (refsize_f cs m n s hs hok)
def bestT (f : Nat → Int) (P : List Nat) : Int := if P = [] then -1 else ((leastL f P : Nat) : Int)
theorem rd_ofN (P : List Nat) (j : Nat) (h : j < P.length) : rd (ofN P) (j : Int) = ((P[j] : Nat) : Int) := by
  rw [rdn]; simp [ofN, List.getD_eq_getElem?_getD, h]
theorem ofN_len (P : List Nat) : (ofN P).length = P.length := by simp [ofN]
theorem w64n (j : Nat) (h : j ≤ 1000) : wrap64 ((j : Int) + 1) = ((j + 1 : Nat) : Int) := next_fin j h
theorem inner (cs : List Int) (m n : Int) (hok : okCards cs = true) (x5 : Int) (x6 : List Int) (x7 : List S49) (i : Nat) (hi6 : i < x6.length) (h7 : x7.length < 1000) (P : List Nat) (hP : ∀ p ∈ P, p < 16) (hPl : P.length ≤ 16) :
    ∀ (d j : Nat), j + d = P.length → ∀ K, 20 ≤ K →
      hypercuberef11_Plan.l1 (K + d + 1) n x5 x6 x7 (i : Int) (ofN P) (bestT (fun p => sizeI cs n p) (P.take j)) (j : Int) cs m =
        hypercuberef11_Plan.l0 K n x5 x6 (x7 ++ [(⟨rd x6 (i : Int), bestT (fun p => sizeI cs n p) P, false⟩ : S49)]) (wrap64 ((i : Int) + 1)) cs m
  | 0, j, hj, K, hK => by
    have e : j = P.length := by omega
    subst e
    rw [List.take_length]
    simp only [Nat.add_zero, hypercuberef11_Plan.l1]
    rw [if_neg (by rw [ofN_len]; omega), if_pos (by omega), if_pos (by omega), if_pos (by omega)]
  | d + 1, j, hj, K, hK => by
    have hlt : j < P.length := by omega
    have ih := inner cs m n hok x5 x6 x7 i hi6 h7 P hP hPl d (j + 1) (by omega) K hK
    have hr := rd_ofN P j hlt
    have hpj := hP P[j] (List.getElem_mem hlt)
    have htk : P.take (j + 1) = P.take j ++ [P[j]] := List.take_succ_eq_append_getElem hlt
    have hn1 := Aside0.mk (w64n j (by omega))
    have hKd : ∃ q, q = K + d + 1 ∧ 20 ≤ q := ⟨_, rfl, by omega⟩
    rw [show K + (d + 1) + 1 = (K + d + 1) + 1 by omega]
    obtain ⟨q, hq, hq20⟩ := hKd
    rw [← hq] at ih ⊢
    simp only [hypercuberef11_Plan.l1]
    rw [if_pos (by rw [ofN_len]; omega)]
    by_cases h0 : j = 0
    · subst h0
      rw [if_pos (by simp [bestT]), if_pos (by omega), hn1.out, hr]
      rw [htk] at ih
      have e1 : bestT (fun p => sizeI cs n p) (P.take 0 ++ [P[0]]) = ((P[0] : Nat) : Int) := by
        unfold bestT; rw [if_neg (by simp), List.take_zero, leastL_one]
      rw [e1] at ih
      exact ih
    · have hne : P.take j ≠ [] := by intro e; have := congrArg List.length e; rw [List.length_take] at this; simp only [List.length_nil] at this; omega
      have hbm : leastL (fun p => sizeI cs n p) (P.take j) < 16 := hP _ (List.mem_of_mem_take (leastL_mem _ _ hne))
      have e0 : bestT (fun p => sizeI cs n p) (P.take j) = ((leastL (fun p => sizeI cs n p) (P.take j) : Nat) : Int) := if_neg hne
      have e1 : bestT (fun p => sizeI cs n p) (P.take (j + 1)) = ((leastL (fun p => sizeI cs n p) (P.take j ++ [P[j]]) : Nat) : Int) := by
        rw [htk]; unfold bestT; rw [if_neg (List.append_ne_nil_of_right_ne_nil _ (List.cons_ne_nil _ _))]
      rw [e1, leastL_snoc _ _ _ hne] at ih
      rw [e0]
      generalize leastL (fun p => sizeI cs n p) (P.take j) = b at *
      rw [if_neg (by omega), if_pos (by omega), hr, refsize_k q hq20 cs m n P[j] hpj hok, Option.bind_some, refsize_k q hq20 cs m n b hbm hok, Option.bind_some, hn1.out]
      by_cases hc : sizeI cs n ((P[j] : Nat) : Int) < sizeI cs n (b : Int)
      · rw [if_pos hc]; rw [if_pos hc] at ih; exact ih
      · rw [if_neg hc]; rw [if_neg hc] at ih; exact ih
theorem sets_bd (d : Nat) (hd : d < 5) : (sets d).length = 2 ^ d ∧ (sets d).length ≤ 16 := ⟨(sets_fin d hd).1, by rw [(sets_fin d hd).1]; exact pow16 d (by omega)⟩
theorem parent_best (cs : List Int) (n : Int) (hd : cs.length < 5) (i : Nat) (hi : i < (sets cs.length).length) : parentT cs n i = bestT (fun p => sizeI cs n p) (parents ((sets cs.length).getD i 0) cs.length) := by
  unfold parentT bestT
  obtain ⟨e, h⟩ := sets_fin cs.length hd
  by_cases h0 : i = 0
  · subst h0
    rw [if_pos rfl, if_pos (par_none cs.length hd)]
  · rw [if_neg h0, if_neg ((h i (by omega)).2 h0)]
def planP (cs : List Int) (n : Int) (i : Nat) : List S49 := (List.range i).map fun i => S49.mk (((sets cs.length).getD i 0 : Nat) : Int) (parentT cs n i) false
theorem planP_succ (cs : List Int) (n : Int) (i : Nat) : planP cs n (i + 1) = planP cs n i ++ [(⟨(((sets cs.length).getD i 0 : Nat) : Int), parentT cs n i, false⟩ : S49)] := by
  unfold planP; rw [List.range_succ, List.map_append]; rfl
theorem planP_len (cs : List Int) (n : Int) (i : Nat) : (planP cs n i).length = i := by simp [planP]
theorem outer (cs : List Int) (m n : Int) (hok : okCards cs = true) (hd : cs.length < 5) :
    ∀ (d i : Nat), i + d = (sets cs.length).length → ∃ k0, ∀ k, k0 ≤ k → hypercuberef11_Plan.l0 k n (cs.length : Int) (ofN (sets cs.length)) (planP cs n i) (i : Int) cs m = some (planL S49.mk cs n)
  | 0, i, hi => by
    refine ⟨1, fun k hk => ?_⟩
    obtain ⟨k', rfl⟩ : ∃ k', k = k' + 1 := ⟨k - 1, by omega⟩
    simp only [hypercuberef11_Plan.l0]
    rw [if_neg (by rw [ofN_len]; omega)]
    have e : i = (sets cs.length).length := by omega
    rw [e]; rfl
  | d + 1, i, hi => by
    obtain ⟨k0, ih⟩ := outer cs m n hok hd d (i + 1) (by omega)
    obtain ⟨s1, s2⟩ := sets_bd cs.length hd
    have hlt : i < (sets cs.length).length := by omega
    have hs := ((sets_fin cs.length hd).2 i (by omega)).1
    have hr : rd (ofN (sets cs.length)) (i : Int) = (((sets cs.length).getD i 0 : Nat) : Int) := by rw [rdn]; simp [ofN, List.getD_eq_getElem?_getD, hlt]
    have hpb := parent_best cs n hd i hlt
    have hpl := parents_len ((sets cs.length).getD i 0) cs.length (by omega)
    have hpm := par_fin cs.length hd ((sets cs.length).getD i 0) hs
    have hpr := par_ref cs.length hd ((sets cs.length).getD i 0) hs
    have hin := inner cs m n hok (cs.length : Int) (ofN (sets cs.length)) (planP cs n i) i (by rw [ofN_len]; exact hlt) (by rw [planP_len]; omega) (parents ((sets cs.length).getD i 0) cs.length) hpm hpl
    have hn1 := Aside0.mk (w64n i (by omega))
    rw [planP_succ, hpb, ← hr] at ih
    rw [← hr] at hpr
    generalize parents ((sets cs.length).getD i 0) cs.length = P at *
    refine ⟨k0 + 100, fun k hk => ?_⟩
    obtain ⟨K, rfl⟩ : ∃ K, k = (K + P.length + 1) + 1 := ⟨k - P.length - 2, by omega⟩
    have h1 := hin P.length 0 (by omega) K (by omega)
    have h2 := ih K (by omega)
    have h3 : hypercuberef8_Parents.f (K + P.length + 1) (rd (ofN (sets cs.length)) (i : Int)) (cs.length : Int) = some (ofN P) := at_rounds (fun k => hypercuberef8_Parents.mono _ _ k) (by omega) hpr
    rw [hn1.out] at h1
    simp only [hypercuberef11_Plan.l0]
    rw [if_pos (by rw [ofN_len]; omega), if_pos (by omega), h3, Option.bind_some]
    exact h1.trans h2
theorem refplan_f (cs : List Int) (m n : Int) (hok : okCards cs = true) (hd : cs.length < 5) : ∃ k0, ∀ k, k0 ≤ k → hypercuberef11_Plan.f k cs m n = some (planL S49.mk cs n) := by
  obtain ⟨k0, h⟩ := outer cs m n hok hd (sets cs.length).length 0 (by omega)
  refine ⟨k0 + 100, fun k hk => ?_⟩
  unfold hypercuberef11_Plan.f
  rw [show hypercuberef8_Sets.f k (cs.length : Int) = some (ofN (sets cs.length)) from at_rounds (fun k => hypercuberef8_Sets.mono _ k) (by omega) (sets_ref cs.length hd), Option.bind_some]
  exact h k (by omega)
theorem in_l0 (P : List Nat) (v : Nat) (hl : P.length ≤ 16) : ∀ (d j : Nat), j + d = P.length → v ∈ P.drop j → ∀ K, hypercuberef10_in.l0 (K + d + 1) (ofN P) (v : Int) (j : Int) = some true
  | 0, j, hj, hv, K => by rw [List.drop_eq_nil_of_le (by omega)] at hv; exact absurd hv (by simp)
  | d + 1, j, hj, hv, K => by
    have hlt : j < P.length := by omega
    have hr := rd_ofN P j hlt
    have hn1 := Aside0.mk (w64n j (by omega))
    rw [List.drop_eq_getElem_cons hlt] at hv
    have ih := in_l0 P v hl d (j + 1) (by omega)
    rw [show K + (d + 1) + 1 = (K + d + 1) + 1 by omega]
    have ih2 := fun hv => ih hv K
    generalize K + d + 1 = q at *
    simp only [hypercuberef10_in.l0]
    rw [if_pos (by rw [ofN_len]; omega), if_pos (by omega), hr, hn1.out]
    by_cases he : P[j] = v
    · rw [if_pos (by omega)]
    · rw [if_neg (by omega)]
      rcases List.mem_cons.1 hv with h | h
      · exact absurd h.symm he
      · exact ih2 h
theorem in_f (P : List Nat) (v : Nat) (hl : P.length ≤ 16) (hv : v ∈ P) (k : Nat) (hk : 17 ≤ k) : hypercuberef10_in.f k (ofN P) (v : Int) = some true := by
  unfold hypercuberef10_in.f
  have := in_l0 P v hl P.length 0 (by omega) (by simpa using hv) (k - P.length - 1)
  rw [show k - P.length - 1 + P.length + 1 = k by omega] at this
  exact this
theorem rd_plan (cs : List Int) (n : Int) (i : Nat) (hi : i < (sets cs.length).length) : rd_T49 (planL S49.mk cs n) (i : Int) = ⟨(((sets cs.length).getD i 0 : Nat) : Int), parentT cs n i, false⟩ := by
  unfold rd_T49 planL
  simp [List.getD_eq_getElem?_getD, hi]
theorem plan_len (cs : List Int) (n : Int) : (planL S49.mk cs n).length = (sets cs.length).length := by simp [planL]
theorem right_l0 (cs : List Int) (n : Int) (hd : cs.length < 5) : ∀ (d i : Nat), i + d = (sets cs.length).length → ∃ k0, ∀ k, k0 ≤ k → hypercuberef10_Right.l0 k (planL S49.mk cs n) (cs.length : Int) (ofN (sets cs.length)) [] (i : Int) = some true
  | 0, i, hi => by
    refine ⟨1, fun k hk => ?_⟩
    obtain ⟨k', rfl⟩ : ∃ k', k = k' + 1 := ⟨k - 1, by omega⟩
    simp only [hypercuberef10_Right.l0]
    rw [if_neg (by rw [plan_len]; omega)]
  | d + 1, i, hi => by
    obtain ⟨k0, ih⟩ := right_l0 cs n hd d (i + 1) (by omega)
    obtain ⟨s1, s2⟩ := sets_bd cs.length hd
    have hlt : i < (sets cs.length).length := by omega
    have hs := (sets_fin cs.length hd).2 i (by omega)
    have hr : rd (ofN (sets cs.length)) (i : Int) = (((sets cs.length).getD i 0 : Nat) : Int) := by rw [rdn]; simp [ofN, List.getD_eq_getElem?_getD, hlt]
    have hrd := rd_plan cs n i hlt
    have hpl := parents_len ((sets cs.length).getD i 0) cs.length (by omega)
    have hpr := par_ref cs.length hd ((sets cs.length).getD i 0) hs.1
    have hn1 := Aside0.mk (w64n i (by omega))
    refine ⟨k0 + 100, fun k hk => ?_⟩
    obtain ⟨K, rfl⟩ : ∃ K, k = (K + 1) + 1 := ⟨k - 2, by omega⟩
    have h3 : hypercuberef8_Parents.f (K + 1) (((sets cs.length).getD i 0 : Nat) : Int) (cs.length : Int) = some (ofN (parents ((sets cs.length).getD i 0) cs.length)) := at_rounds (fun k => hypercuberef8_Parents.mono _ _ k) (by omega) hpr
    have i1 := ih (K + 1) (by omega)
    have i2 := ih K (by omega)
    have hlen := plan_len cs n
    have hq : 17 ≤ K + 1 := by omega
    have hjj : hypercuberef10_Right.j1 (K + 1) (planL S49.mk cs n) (cs.length : Int) (ofN (sets cs.length)) [] (i : Int) false (((sets cs.length).getD i 0 : Nat) : Int) (parentT cs n i) false = some true := by
      simp only [hypercuberef10_Right.j1]
      rw [if_neg (by simp), if_neg (by simp), hn1.out]
      exact i2
    generalize K + 1 = q at *
    simp only [hypercuberef10_Right.l0]
    rw [if_pos (by rw [hlen]; omega), if_pos (by omega), if_pos (by rw [ofN_len]; omega), hrd]
    dsimp only
    rw [if_pos hr.symm]
    by_cases h0 : i = 0
    · rw [if_pos (by omega), if_pos (by unfold parentT; rw [if_pos h0]), if_neg (by simp), hn1.out]
      exact i1
    · have hp : parentT cs n i = ((leastL (fun p => sizeI cs n p) (parents ((sets cs.length).getD i 0) cs.length) : Nat) : Int) := if_neg h0
      have hm := leastL_mem (fun p => sizeI cs n p) _ (hs.2 h0)
      rw [if_neg (by omega), h3, Option.bind_some, hp, in_f _ _ hpl hm q hq, Option.bind_some, if_pos rfl, if_neg (by simp), ← hp]
      exact hjj
theorem right_f (cs : List Int) (n : Int) (hd : cs.length < 5) : ∃ k0, ∀ k, k0 ≤ k → hypercuberef10_Right.f k (planL S49.mk cs n) (cs.length : Int) = some true := by
  obtain ⟨k0, h⟩ := right_l0 cs n hd (sets cs.length).length 0 (by omega)
  refine ⟨k0 + 100, fun k hk => ?_⟩
  unfold hypercuberef10_Right.f
  rw [show hypercuberef8_Sets.f k (cs.length : Int) = some (ofN (sets cs.length)) from at_rounds (fun k => hypercuberef8_Sets.mono _ k) (by omega) (sets_ref cs.length hd), Option.bind_some, if_pos (by rw [plan_len, ofN_len])]
  exact h k (by omega)
theorem same_l0 (x : List S49) (hx : x.length ≤ 1000) : ∀ (d k i : Nat), i + d = x.length → hypercuberef10_Same.l0 (k + d + 1) x x (i : Int) = some true
  | 0, k, i, h => by
    simp only [hypercuberef10_Same.l0]
    rw [if_neg (by omega)]
  | d + 1, k, i, h => by
    have ih := same_l0 x hx d k (i + 1) (by omega)
    have hw : wrap64 ((i : Int) + 1) = ((i + 1 : Nat) : Int) := by unfold wrap64; omega
    rw [show k + (d + 1) + 1 = (k + d + 1) + 1 by omega]
    generalize k + d + 1 = K at *
    simp only [hypercuberef10_Same.l0]
    rw [if_pos (by omega), if_pos (by omega), if_pos (by omega), if_neg (by simp), hw]
    exact ih
theorem same_f (x : List S49) (hx : x.length ≤ 16) (k : Nat) (hk : 17 ≤ k) : hypercuberef10_Same.f k x x = some true := by
  unfold hypercuberef10_Same.f
  rw [if_pos rfl]
  have := same_l0 x (by omega) x.length (k - x.length - 1) 0 (by omega)
  rw [show k - x.length - 1 + x.length + 1 = k by omega] at this
  exact this
end TreeAllp
open TreeAllp
theorem TreeAll : hypercubelaw11_TreeAll.Pure := by
  intro a0 l1 a2 _ _ _ _ _
  obtain ⟨z, hz, hzl⟩ := TreeAllp.within_f a2 301 (by decide) (by decide)
  obtain ⟨cs, m, hF, c1, c4, cr, hok⟩ := TreeAllp.facts_of 8 (Nat.le_refl _) a0 l1
  obtain ⟨k1, h1⟩ := TreeAllp.refplan_f cs m (z : Int) hok (by omega)
  obtain ⟨k2, h2⟩ := TreeAllp.right_f cs (z : Int) (by omega)
  have hlen : (planL S49.mk cs (z : Int)).length ≤ 16 := by rw [TreeAllp.plan_len]; exact (TreeAllp.sets_bd cs.length (by omega)).2
  refine ⟨k1 + k2 + 100, ?_⟩
  have e1 := h1 (k1 + k2 + 100) (by omega)
  have e2 := h2 (k1 + k2 + 100) (by omega)
  have e3 := TreeAllp.same_f (planL S49.mk cs (z : Int)) hlen (k1 + k2 + 100) (by omega)
  have e0 : hypercubelaw1_Facts.f (k1 + k2 + 100) a0 l1 0 [] = some (cs, m, []) := at_rounds (fun k => hypercubelaw1_Facts.mono _ _ _ _ k) (by omega) hF
  have e4 : tree_Plan.f cs m (z : Int) = some (planL S49.mk cs (z : Int)) := by
    unfold tree_Plan.f; rw [if_pos ⟨hok, by omega, by omega⟩]
  unfold hypercubelaw11_TreeAll.f
  rw [TreeAllp.known_f, Option.bind_some, if_pos rfl, e0, Option.bind_some, hz, Option.bind_some]
  dsimp only
  rw [e4, Option.bind_some, e1, Option.bind_some, e3, Option.bind_some, if_pos rfl, e2, Option.bind_some]

end Go.Proofs.Ytlplaidcdocbmaa.Pure
