/- LatticeCosts: its plain side. -/
import Derived.Test.YtlplaidcdocbmaaCore13
import Derived.Test.YtlplaidcdocbmaaPLatticeCostsx4
namespace Go.Proofs.Ytlplaidcdocbmaa.Pure
open Go.RowKit Go.Proofs.Ytlplaidcdocbmaa.PLatticeCosts Go.Proofs.YtlplaidcdocbmaaW.PrintWords Go.Proofs.YtlplaidcdocbmaaW.PrintLast Go.Proofs.YtlplaidcdocbmaaW.PrintMore Go.Proofs.Ytlplaidcdocbmaa.Core
set_option linter.unusedVariables false
set_option linter.unusedSimpArgs false
namespace LatticeCostsp
theorem within_f (a n : Int) (hn : 0 < n) (h2 : n ≤ 4611686018427387904) : ∃ z : Nat, hypercubelaw8_within.f a n = some (z : Int) ∧ (z : Int) < n := by
  have h1 := Int.tmod_lt_of_pos a hn
  have h3 := Int.tmod_lt_of_pos (-a) hn
  rw [Int.neg_tmod] at h3
  have key : ∃ z : Int, hypercubelaw8_within.f a n = some z ∧ 0 ≤ z ∧ z < n := by
    unfold hypercubelaw8_within.f
    rw [if_neg (by omega)]
    by_cases h : Int.tmod a n < 0
    · refine ⟨Int.tmod a n + n, ?_, by omega, by omega⟩
      rw [if_pos h]
      congr 1
      unfold wrap64
      omega
    · refine ⟨Int.tmod a n, ?_, by omega, by omega⟩
      rw [if_neg h]
  obtain ⟨z, h, h0, hz⟩ := key
  obtain ⟨m, rfl⟩ := Int.eq_ofNat_of_zero_le h0
  exact ⟨m, h, hz⟩

theorem known_f : hypercubelaw8_known.f = some true := by decide +kernel
theorem within1_f (a n : Int) (hn : 0 < n) (h2 : n ≤ 4611686018427387904) : ∃ z, hypercubelaw1_within.f a n = some z ∧ 0 ≤ z ∧ z < n := by
  have h1 := Int.tmod_lt_of_pos a hn
  have h3 := Int.tmod_lt_of_pos (-a) hn
  rw [Int.neg_tmod] at h3
  unfold hypercubelaw1_within.f
  rw [if_neg (by omega)]
  by_cases h : Int.tmod a n < 0
  · refine ⟨Int.tmod a n + n, ?_, by omega, by omega⟩
    rw [if_pos h]
    congr 1
    unfold wrap64
    omega
  · refine ⟨Int.tmod a n, ?_, by omega, by omega⟩
    rw [if_neg h]

theorem facts_step (k : Nat) (a0 d : Int) (l1 : List Int) (i : Int) (cs : List Int) (m : Int) (hd : hypercubelaw1_within.f a0 4 = some d) (h0 : 0 ≤ i) (hi : i ≤ d) (hd3 : d ≤ 3) (hcs : cs.length ≤ 16) :
    ∃ c, 1 ≤ c ∧ c ≤ 5 ∧ hypercubelaw1_Facts.l0 (k + 1) a0 l1 [] i cs m = hypercubelaw1_Facts.l0 k a0 l1 [] (i + 1) (cs ++ [c]) m := by
  have hw : wrap64 (i + 1) = i + 1 := by unfold wrap64; omega
  by_cases hl : i < (l1.length : Int)
  · obtain ⟨z, hz, hz0, hz1⟩ := within1_f (rd l1 i) 5 (by decide) (by decide)
    refine ⟨1 + z, by omega, by omega, ?_⟩
    have hw2 : wrap64 (1 + z) = 1 + z := by unfold wrap64; omega
    simp only [hypercubelaw1_Facts.l0]
    rw [hd]
    simp only [Option.bind_some]
    rw [if_pos hi, if_pos hl, if_pos h0, hz]
    simp only [Option.bind_some]
    rw [if_pos (by omega), hw, hw2]
  · obtain ⟨z, hz, hz0, hz1⟩ := within1_f (wrap64 (i + 2)) 5 (by decide) (by decide)
    refine ⟨1 + z, by omega, by omega, ?_⟩
    have hw2 : wrap64 (1 + z) = 1 + z := by unfold wrap64; omega
    simp only [hypercubelaw1_Facts.l0]
    rw [hd]
    simp only [Option.bind_some]
    rw [if_pos hi, if_neg hl, hz]
    simp only [Option.bind_some]
    rw [if_pos (by omega), hw, hw2]

theorem facts_end (k : Nat) (a0 d : Int) (l1 : List Int) (i : Int) (cs : List Int) (m : Int) (hd : hypercubelaw1_within.f a0 4 = some d) (hi : d < i) (hcs : 0 < cs.length) :
    ∃ b : Bool, hypercubelaw1_Facts.l0 (k + 4) a0 l1 [] i cs m = some (if b then cs.set 0 16 else cs, m, []) := by
  obtain ⟨z, hz, hz0, hz1⟩ := within1_f a0 7 (by decide) (by decide)
  refine ⟨decide (z = 0), ?_⟩
  simp only [hypercubelaw1_Facts.l0]
  rw [hd]
  simp only [Option.bind_some]
  rw [if_neg (by omega), hz]
  simp only [Option.bind_some]
  by_cases h : z = 0
  · rw [if_pos h, if_pos (by omega)]
    simp [hypercubelaw1_Facts.j1, hypercubelaw1_Facts.l1, hypercubelaw1_Facts.j3, h]
  · rw [if_neg h]
    simp [hypercubelaw1_Facts.j1, hypercubelaw1_Facts.l1, hypercubelaw1_Facts.j3, h]

/-- A schema of numbers: one to four cards, each 1 to 16; no rows of no numbers. -/
theorem facts_nil (a0 : Int) (l1 : List Int) (a2 : Int) : ∃ (cs : List Int) (m : Int), hypercubelaw1_Facts.f 8 a0 l1 a2 [] = some (cs, m, []) ∧
    1 ≤ cs.length ∧ cs.length ≤ 4 ∧ (∀ c ∈ cs, 1 ≤ c ∧ c ≤ 16) ∧ 0 ≤ m ∧ m ≤ 2 := by
  obtain ⟨m, hm, hm0, hm1⟩ := within1_f a2 3 (by decide) (by decide)
  obtain ⟨d, hd, hd0, hd1⟩ := within1_f a0 4 (by decide) (by decide)
  have fin : ∀ (k : Nat) (i : Int) (cs : List Int), d < i → 0 < cs.length → cs.length ≤ 4 → (∀ c ∈ cs, 1 ≤ c ∧ c ≤ 5) →
      ∃ (r : List Int), hypercubelaw1_Facts.l0 (k + 4) a0 l1 [] i cs m = some (r, m, []) ∧ 1 ≤ r.length ∧ r.length ≤ 4 ∧ (∀ c ∈ r, 1 ≤ c ∧ c ≤ 16) := by
    intro k i cs h1 h2 h3 h4
    obtain ⟨b, hb⟩ := facts_end k a0 d l1 i cs m hd h1 h2
    refine ⟨_, hb, ?_, ?_, ?_⟩
    · cases b <;> simp <;> omega
    · cases b <;> simp <;> omega
    · intro c hc
      cases b with
      | false =>
        have := h4 c (by simpa using hc)
        omega
      | true =>
        have hc' : c ∈ cs.set 0 16 := by simpa using hc
        rcases List.mem_or_eq_of_mem_set hc' with h | h
        · have := h4 c h
          omega
        · omega
  have all : ∃ (r : List Int), hypercubelaw1_Facts.l0 8 a0 l1 [] 0 [] m = some (r, m, []) ∧ 1 ≤ r.length ∧ r.length ≤ 4 ∧ (∀ c ∈ r, 1 ≤ c ∧ c ≤ 16) := by
    obtain ⟨c0, h00, h01, e0⟩ := facts_step 7 a0 d l1 0 [] m hd (by omega) (by omega) (by omega) (by simp)
    rw [e0]
    by_cases g1 : d < 1
    · exact fin 3 _ _ (by omega) (by simp) (by simp) (by simp; omega)
    obtain ⟨c1, h10, h11, e1⟩ := facts_step 6 a0 d l1 (0 + 1) ([] ++ [c0]) m hd (by omega) (by omega) (by omega) (by simp)
    rw [e1]
    by_cases g2 : d < 2
    · exact fin 2 _ _ (by omega) (by simp) (by simp) (by simp; omega)
    obtain ⟨c2, h20, h21, e2⟩ := facts_step 5 a0 d l1 (0 + 1 + 1) ([] ++ [c0] ++ [c1]) m hd (by omega) (by omega) (by omega) (by simp)
    rw [e2]
    by_cases g3 : d < 3
    · exact fin 1 _ _ (by omega) (by simp) (by simp) (by simp; omega)
    obtain ⟨c3, h30, h31, e3⟩ := facts_step 4 a0 d l1 (0 + 1 + 1 + 1) ([] ++ [c0] ++ [c1] ++ [c2]) m hd (by omega) (by omega) (by omega) (by simp)
    rw [e3]
    exact fin 0 _ _ (by omega) (by simp) (by simp) (by simp; omega)
  obtain ⟨r, hr, h1, h2, h3⟩ := all
  refine ⟨r, m, ?_, h1, h2, h3, hm0, by omega⟩
  unfold hypercubelaw1_Facts.f
  rw [hm]
  simp only [Option.bind_some]
  exact hr

theorem facts_of (K : Nat) (hK : 8 ≤ K) (a0 : Int) (l1 : List Int) : ∃ (cs : List Int) (m : Int), hypercubelaw1_Facts.f K a0 l1 0 [] = some (cs, m, []) ∧ 1 ≤ cs.length ∧ cs.length ≤ 4 ∧ (∀ c ∈ cs, 1 ≤ c ∧ c ≤ 16) ∧ okCards cs = true := by
  obtain ⟨cs, m, h, h1, h2, h3, _⟩ := facts_nil a0 l1 0
  exact ⟨cs, m, at_rounds (fun k => hypercubelaw1_Facts.mono _ _ _ _ k) hK h, h1, h2, h3, okCards_of h2 (fun x hx => ⟨by have := h3 x hx; omega, (h3 x hx).2⟩)⟩
theorem size_f (cs : List Int) (m n s : Int) (hok : okCards cs = true) (hn : 0 ≤ n ∧ n ≤ 1000000) (hs : 0 ≤ s ∧ s < 16) : lattice_Size.f cs m n s = some (sizeI cs n s) := by
  unfold lattice_Size.f
  rw [if_pos ⟨hok, hn, hs⟩]
theorem scan_f (cs : List Int) (m n s : Int) (hok : okCards cs = true) (hn : 0 ≤ n ∧ n ≤ 1000000) (hs : 0 ≤ s ∧ s < 16) : lattice_Scan.f cs m n s = some (sizeI cs n s) := by
  unfold lattice_Scan.f
  rw [size_f cs m n s hok hn hs, Option.bind_some]
theorem sort_f (k : Nat) (cs : List Int) (m n s : Int) (hok : okCards cs = true) (h1 : ∀ x ∈ cs, 1 ≤ x) (hn : 0 ≤ n ∧ n ≤ 300) (hs : 0 ≤ s ∧ s < 16) : lattice_Sort.f k cs m n s = some (sortI (sizeI cs n s)) := by
  obtain ⟨b1, b2, _⟩ := sizeI_bd cs h1 n s hn.1
  unfold lattice_Sort.f
  rw [size_f cs m n s hok (by omega) hs, Option.bind_some]
  generalize sizeI cs n s = z at *
  obtain ⟨l1, l2, l3, l4⟩ := sort_bd b1 (by omega)
  rw [u64_small b1 (by omega)]
  unfold bits_Len.f
  rw [if_pos b1, if_pos (by omega), Option.bind_some]
  unfold sortI at *
  generalize z * lenI z = q at *
  have e1 : wrap64 q = q := by unfold wrap64; omega
  have e2 : wrap64 (z + q) = z + q := by unfold wrap64; omega
  rw [e1, e2]
theorem refsize_l (cs : List Int) (m n : Int) (s : Nat) (hs : s < 16) (hok : okCards cs = true) : ∀ (d i : Nat), i + d = cs.length → ∀ k, hypercuberef8_Size.l0 (k + d + 1) n s (upTo cs s i) (i : Int) cs m = some (sizeI cs n s)
  | 0, i, hi, k => by
    have hlen := okCards_len hok
    have e : i = cs.length := by omega
    subst e
    simp only [hypercuberef8_Size.l0]
    rw [if_neg (by omega), mn_eq, upTo_end]
  | d + 1, i, hi, k => by
    have hlen := okCards_len hok
    have ih := refsize_l cs m n s hs hok d (i + 1) (by omega) k
    obtain ⟨b1, b2⟩ := bit_fin s hs i (by omega)
    have bd := upTo_bd cs s (i + 1) hok (by omega)
    have hn1 := Aside0.mk (next_fin i (by omega))
    show hypercuberef8_Size.l0 ((k + d + 1) + 1) n s (upTo cs s i) (i : Int) cs m = _
    generalize k + d + 1 = K at *
    simp only [hypercuberef8_Size.l0]
    rw [if_pos (by omega), if_pos b1]
    cases hb : s.testBit i with
    | true =>
      rw [hb] at b2
      rw [if_pos (of_decide_eq_true b2), if_pos (by omega), hn1.out, rdn]
      rw [upTo_yes cs s i hb] at bd ih
      rw [w64 _ (by omega) (by omega)]
      exact ih
    | false =>
      rw [hb] at b2
      rw [if_neg (of_decide_eq_false b2), hn1.out]
      rw [upTo_no cs s i hb] at ih
      exact ih
theorem refsize_f (cs : List Int) (m n : Int) (s : Nat) (hs : s < 16) (hok : okCards cs = true) : hypercuberef8_Size.f 20 cs m n s = some (sizeI cs n s) := by
  have hlen := okCards_len hok
  have h := refsize_l cs m n s hs hok cs.length 0 (by omega) (19 - cs.length)
  rw [show 19 - cs.length + cs.length + 1 = 20 by omega] at h
  exact h
theorem refsort_l : ∀ z : Nat, z < 301 → hypercuberef8_Sort.l0 20 z 0 z = some (sortI z) := by decide +kernel
theorem refsort_f (cs : List Int) (m n : Int) (s : Nat) (hs : s < 16) (hok : okCards cs = true) (h1 : ∀ x ∈ cs, 1 ≤ x) (hn : 0 ≤ n ∧ n ≤ 300) : hypercuberef8_Sort.f 20 cs m n s = some (sortI (sizeI cs n s)) := by
  obtain ⟨b1, b2, _⟩ := sizeI_bd cs h1 n s hn.1
  unfold hypercuberef8_Sort.f
  rw [refsize_f cs m n s hs hok, Option.bind_some]
  generalize sizeI cs n s = z at *
  obtain ⟨k, rfl⟩ := Int.eq_ofNat_of_zero_le b1
  exact refsort_l k (by omega)
end LatticeCostsp
open LatticeCostsp
theorem LatticeCosts : hypercubelaw8_LatticeCosts.Pure := by
  intro a0 l1 a2 a3 _ _ _ _ _ _
  obtain ⟨cs, m, hf, c1, c2, c3, hok⟩ := facts_of 20 (by decide) a0 l1
  obtain ⟨p1, p2⟩ := pw16 cs.length c2
  have hp := pow16 cs.length c2
  have hp0 := Nat.two_pow_pos cs.length
  obtain ⟨s, hs, us⟩ := within_f a3 (shl .i64 1 (IntKind.u64.wrap (cs.length : Int))) (by rw [p2]; omega) (by rw [p2]; omega)
  obtain ⟨n, hn, un⟩ := within_f a2 301 (by decide) (by decide)
  rw [p2] at us
  have hs16 : 0 ≤ (s : Int) ∧ (s : Int) < 16 := by omega
  have hn3 : 0 ≤ (n : Int) ∧ (n : Int) ≤ 300 := by omega
  have h1 : ∀ x ∈ cs, 1 ≤ x := fun x hx => (c3 x hx).1
  obtain ⟨b1, b2, b3⟩ := sizeI_bd cs h1 n s (by omega)
  have eS := size_f cs m n s hok (by omega) hs16
  have eC := scan_f cs m n s hok (by omega) hs16
  have eT := sort_f 20 cs m n s hok h1 hn3 hs16
  have eR := refsort_f cs m n s (by omega) hok h1 hn3
  refine ⟨20, ?_⟩
  unfold hypercubelaw8_LatticeCosts.f
  rw [known_f, Option.bind_some, if_pos rfl, hf, Option.bind_some, if_pos p1, hs, Option.bind_some, hn, Option.bind_some, eC, Option.bind_some, eT, Option.bind_some, eS, Option.bind_some, if_pos rfl, eR]
  generalize sizeI cs n s = z at *
  obtain ⟨g1, g2, g3, g4⟩ := sort_bd b1 (by omega)
  rw [w64 (10 * z) (by omega) (by omega), if_pos g4]
  by_cases hz : z = 0
  · rw [if_pos hz, Option.bind_some]
    simp
  · obtain ⟨d1, d2, d3⟩ := sort_div (z := z) (by omega) (by omega)
    have hd := Int.tdiv_le_self (b := z) (show 0 ≤ sortI z by omega)
    rw [if_neg hz, if_pos d1, w64 _ (by omega) (by omega), if_pos d2, Option.bind_some]
    simp

end Go.Proofs.Ytlplaidcdocbmaa.Pure
