-- Cut by pack.py, a program of this session; not trusted: Lean checks it.
import Derived.Test.YtlplaidcdocbmaaZCore13
import Derived.Test.YtlplaidcdocbmaaZPLatticeAllx5
/- LatticeAll: its plain side. -/
namespace Go.Proofs.Ytlplaidcdocbmaa.Pure
open Go.RowKit Go.Proofs.Ytlplaidcdocbmaa.PLatticeAll Go.Proofs.YtlplaidcdocbmaaW.PrintWords Go.Proofs.YtlplaidcdocbmaaW.PrintLast Go.Proofs.YtlplaidcdocbmaaW.PrintMore Go.Proofs.Ytlplaidcdocbmaa.Core
set_option linter.unusedVariables false
set_option linter.unusedSimpArgs false
set_option linter.unusedSectionVars false
namespace LatticeAllp
theorem within_f (a n : Int) (hn : 0 < n) (h2 : n ≤ 4611686018427387904) : ∃ z : Nat, hypercubelaw8_within.f a n = some (z : Int) ∧ (z : Int) < n := by
  have h1 := Int.tmod_lt_of_pos a hn
  have h3 := Int.tmod_lt_of_pos (-a) hn
  rw [Int.neg_tmod] at h3
  have key : ∃ z : Int, hypercubelaw8_within.f a n = some z ∧ 0 ≤ z ∧ z < n := by
    unfold hypercubelaw8_within.f
    rw [if_neg (by omega)]
    by_cases h : Int.tmod a n < 0
    · refine ⟨Int.tmod a n + n, ?_, by omega, by omega⟩
      rw [if_pos h]
      congr 1
      unfold wrap64
      omega
    · refine ⟨Int.tmod a n, ?_, by omega, by omega⟩
      rw [if_neg h]
  obtain ⟨z, h, h0, hz⟩ := key
  obtain ⟨m, rfl⟩ := Int.eq_ofNat_of_zero_le h0
  exact ⟨m, h, hz⟩

theorem known_f : hypercubelaw8_known.f = some true := by decide +kernel
theorem within1_f (a n : Int) (hn : 0 < n) (h2 : n ≤ 4611686018427387904) : ∃ z, hypercubelaw1_within.f a n = some z ∧ 0 ≤ z ∧ z < n := by
  have h1 := Int.tmod_lt_of_pos a hn
  have h3 := Int.tmod_lt_of_pos (-a) hn
  rw [Int.neg_tmod] at h3
  unfold hypercubelaw1_within.f
  rw [if_neg (by omega)]
  by_cases h : Int.tmod a n < 0
  · refine ⟨Int.tmod a n + n, ?_, by omega, by omega⟩
    rw [if_pos h]
    congr 1
    unfold wrap64
    omega
  · refine ⟨Int.tmod a n, ?_, by omega, by omega⟩
    rw [if_neg h]

theorem facts_step (k : Nat) (a0 d : Int) (l1 : List Int) (i : Int) (cs : List Int) (m : Int) (hd : hypercubelaw1_within.f a0 4 = some d) (h0 : 0 ≤ i) (hi : i ≤ d) (hd3 : d ≤ 3) (hcs : cs.length ≤ 16) :
    ∃ c, 1 ≤ c ∧ c ≤ 5 ∧ hypercubelaw1_Facts.l0 (k + 1) a0 l1 [] i cs m = hypercubelaw1_Facts.l0 k a0 l1 [] (i + 1) (cs ++ [c]) m := by
  have hw : wrap64 (i + 1) = i + 1 := by unfold wrap64; omega
  by_cases hl : i < (l1.length : Int)
  · obtain ⟨z, hz, hz0, hz1⟩ := within1_f (rd l1 i) 5 (by decide) (by decide)
    refine ⟨1 + z, by omega, by omega, ?_⟩
    have hw2 : wrap64 (1 + z) = 1 + z := by unfold wrap64; omega
    simp only [hypercubelaw1_Facts.l0]
    rw [hd]
    simp only [Option.bind_some]
    rw [if_pos hi, if_pos hl, if_pos h0, hz]
    simp only [Option.bind_some]
    rw [if_pos (by omega), hw, hw2]
  · obtain ⟨z, hz, hz0, hz1⟩ := within1_f (wrap64 (i + 2)) 5 (by decide) (by decide)
    refine ⟨1 + z, by omega, by omega, ?_⟩
    have hw2 : wrap64 (1 + z) = 1 + z := by unfold wrap64; omega
    simp only [hypercubelaw1_Facts.l0]
    rw [hd]
    simp only [Option.bind_some]
    rw [if_pos hi, if_neg hl, hz]
    simp only [Option.bind_some]
    rw [if_pos (by omega), hw, hw2]

theorem facts_end (k : Nat) (a0 d : Int) (l1 : List Int) (i : Int) (cs : List Int) (m : Int) (hd : hypercubelaw1_within.f a0 4 = some d) (hi : d < i) (hcs : 0 < cs.length) :
    ∃ b : Bool, hypercubelaw1_Facts.l0 (k + 4) a0 l1 [] i cs m = some (if b then cs.set 0 16 else cs, m, []) := by
  obtain ⟨z, hz, hz0, hz1⟩ := within1_f a0 7 (by decide) (by decide)
  refine ⟨decide (z = 0), ?_⟩
  simp only [hypercubelaw1_Facts.l0]
  rw [hd]
  simp only [Option.bind_some]
  rw [if_neg (by omega), hz]
  simp only [Option.bind_some]
  by_cases h : z = 0
  · rw [if_pos h, if_pos (by omega)]
    simp [hypercubelaw1_Facts.j1, hypercubelaw1_Facts.l1, hypercubelaw1_Facts.j3, h]
  · rw [if_neg h]
    simp [hypercubelaw1_Facts.j1, hypercubelaw1_Facts.l1, hypercubelaw1_Facts.j3, h]

/-- A schema of numbers: one to four cards, each 1 to 16; no rows of no numbers. -/
theorem facts_nil (a0 : Int) (l1 : List Int) (a2 : Int) : ∃ (cs : List Int) (m : Int), hypercubelaw1_Facts.f 8 a0 l1 a2 [] = some (cs, m, []) ∧
    1 ≤ cs.length ∧ cs.length ≤ 4 ∧ (∀ c ∈ cs, 1 ≤ c ∧ c ≤ 16) ∧ 0 ≤ m ∧ m ≤ 2 := by
  obtain ⟨m, hm, hm0, hm1⟩ := within1_f a2 3 (by decide) (by decide)
  obtain ⟨d, hd, hd0, hd1⟩ := within1_f a0 4 (by decide) (by decide)
  have fin : ∀ (k : Nat) (i : Int) (cs : List Int), d < i → 0 < cs.length → cs.length ≤ 4 → (∀ c ∈ cs, 1 ≤ c ∧ c ≤ 5) →
      ∃ (r : List Int), hypercubelaw1_Facts.l0 (k + 4) a0 l1 [] i cs m = some (r, m, []) ∧ 1 ≤ r.length ∧ r.length ≤ 4 ∧ (∀ c ∈ r, 1 ≤ c ∧ c ≤ 16) := by
    intro k i cs h1 h2 h3 h4
    obtain ⟨b, hb⟩ := facts_end k a0 d l1 i cs m hd h1 h2
    refine ⟨_, hb, ?_, ?_, ?_⟩
    · cases b <;> simp <;> omega
    · cases b <;> simp <;> omega
    · intro c hc
      cases b with
      | false =>
        have := h4 c (by simpa using hc)
        omega
      | true =>
        have hc' : c ∈ cs.set 0 16 := by simpa using hc
        rcases List.mem_or_eq_of_mem_set hc' with h | h
        · have := h4 c h
          omega
        · omega
  have all : ∃ (r : List Int), hypercubelaw1_Facts.l0 8 a0 l1 [] 0 [] m = some (r, m, []) ∧ 1 ≤ r.length ∧ r.length ≤ 4 ∧ (∀ c ∈ r, 1 ≤ c ∧ c ≤ 16) := by
    obtain ⟨c0, h00, h01, e0⟩ := facts_step 7 a0 d l1 0 [] m hd (by omega) (by omega) (by omega) (by simp)
    rw [e0]
    by_cases g1 : d < 1
    · exact fin 3 _ _ (by omega) (by simp) (by simp) (by simp; omega)
    obtain ⟨c1, h10, h11, e1⟩ := facts_step 6 a0 d l1 (0 + 1) ([] ++ [c0]) m hd (by omega) (by omega) (by omega) (by simp)
    rw [e1]
    by_cases g2 : d < 2
    · exact fin 2 _ _ (by omega) (by simp) (by simp) (by simp; omega)
    obtain ⟨c2, h20, h21, e2⟩ := facts_step 5 a0 d l1 (0 + 1 + 1) ([] ++ [c0] ++ [c1]) m hd (by omega) (by omega) (by omega) (by simp)
    rw [e2]
    by_cases g3 : d < 3
    · exact fin 1 _ _ (by omega) (by simp) (by simp) (by simp; omega)
    obtain ⟨c3, h30, h31, e3⟩ := facts_step 4 a0 d l1 (0 + 1 + 1 + 1) ([] ++ [c0] ++ [c1] ++ [c2]) m hd (by omega) (by omega) (by omega) (by simp)
    rw [e3]
    exact fin 0 _ _ (by omega) (by simp) (by simp) (by simp; omega)
  obtain ⟨r, hr, h1, h2, h3⟩ := all
  refine ⟨r, m, ?_, h1, h2, h3, hm0, by omega⟩
  unfold hypercubelaw1_Facts.f
  rw [hm]
  simp only [Option.bind_some]
  exact hr

theorem facts_of (K : Nat) (hK : 8 ≤ K) (a0 : Int) (l1 : List Int) : ∃ (cs : List Int) (m : Int), hypercubelaw1_Facts.f K a0 l1 0 [] = some (cs, m, []) ∧ 1 ≤ cs.length ∧ cs.length ≤ 4 ∧ (∀ c ∈ cs, 1 ≤ c ∧ c ≤ 16) ∧ okCards cs = true := by
  obtain ⟨cs, m, h, h1, h2, h3, _⟩ := facts_nil a0 l1 0
  exact ⟨cs, m, at_rounds (fun k => hypercubelaw1_Facts.mono _ _ _ _ k) hK h, h1, h2, h3, okCards_of h2 (fun x hx => ⟨by have := h3 x hx; omega, (h3 x hx).2⟩)⟩
theorem size_f (cs : List Int) (m n s : Int) (hok : okCards cs = true) (hn : 0 ≤ n ∧ n ≤ 1000000) (hs : 0 ≤ s ∧ s < 16) : lattice_Size.f cs m n s = some (sizeI cs n s) := by
  unfold lattice_Size.f
  rw [if_pos ⟨hok, hn, hs⟩]
theorem scan_f (cs : List Int) (m n s : Int) (hok : okCards cs = true) (hn : 0 ≤ n ∧ n ≤ 1000000) (hs : 0 ≤ s ∧ s < 16) : lattice_Scan.f cs m n s = some (sizeI cs n s) := by
  unfold lattice_Scan.f
  rw [size_f cs m n s hok hn hs, Option.bind_some]
theorem sort_f (k : Nat) (cs : List Int) (m n s : Int) (hok : okCards cs = true) (h1 : ∀ x ∈ cs, 1 ≤ x) (hn : 0 ≤ n ∧ n ≤ 300) (hs : 0 ≤ s ∧ s < 16) : lattice_Sort.f k cs m n s = some (sortI (sizeI cs n s)) := by
  obtain ⟨b1, b2, _⟩ := sizeI_bd cs h1 n s hn.1
  unfold lattice_Sort.f
  rw [size_f cs m n s hok (by omega) hs, Option.bind_some]
  generalize sizeI cs n s = z at *
  obtain ⟨l1, l2, l3, l4⟩ := sort_bd b1 (by omega)
  rw [u64_small b1 (by omega)]
  unfold bits_Len.f
  rw [if_pos b1, if_pos (by omega), Option.bind_some]
  unfold sortI at *
  generalize z * lenI z = q at *
  have e1 : wrap64 q = q := by unfold wrap64; omega
  have e2 : wrap64 (z + q) = z + q := by unfold wrap64; omega
  rw [e1, e2]
theorem refsize_l (cs : List Int) (m n : Int) (s : Nat) (hs : s < 16) (hok : okCards cs = true) : ∀ (d i : Nat), i + d = cs.length → ∀ k, hypercuberef8_Size.l0 (k + d + 1) n s (upTo cs s i) (i : Int) cs m = some (sizeI cs n s)
  | 0, i, hi, k => by
    have hlen := okCards_len hok
    have e : i = cs.length := by omega
    subst e
    simp only [hypercuberef8_Size.l0]
    rw [if_neg (by omega), mn_eq, upTo_end]
  | d + 1, i, hi, k => by
    have hlen := okCards_len hok
    have ih := refsize_l cs m n s hs hok d (i + 1) (by omega) k
    obtain ⟨b1, b2⟩ := bit_fin s hs i (by omega)
    have bd := upTo_bd cs s (i + 1) hok (by omega)
    have hn1 := Aside0.mk (next_fin i (by omega))
    show hypercuberef8_Size.l0 ((k + d + 1) + 1) n s (upTo cs s i) (i : Int) cs m = _
    generalize k + d + 1 = K at *
    simp only [hypercuberef8_Size.l0]
    rw [if_pos (by omega), if_pos b1]
    cases hb : s.testBit i with
    | true =>
      rw [hb] at b2
      rw [if_pos (of_decide_eq_true b2), if_pos (by omega), hn1.out, rdn]
      rw [upTo_yes cs s i hb] at bd ih
      rw [w64 _ (by omega) (by omega)]
      exact ih
    | false =>
      rw [hb] at b2
      rw [if_neg (of_decide_eq_false b2), hn1.out]
      rw [upTo_no cs s i hb] at ih
      exact ih
theorem refsize_f (cs : List Int) (m n : Int) (s : Nat) (hs : s < 16) (hok : okCards cs = true) : hypercuberef8_Size.f 20 cs m n s = some (sizeI cs n s) := by
  have hlen := okCards_len hok
  have h := refsize_l cs m n s hs hok cs.length 0 (by omega) (19 - cs.length)
  rw [show 19 - cs.length + cs.length + 1 = 20 by omega] at h
  exact h
theorem refsort_l : ∀ z : Nat, z < 301 → hypercuberef8_Sort.l0 20 z 0 z = some (sortI z) := by decide +kernel
theorem refsort_f (cs : List Int) (m n : Int) (s : Nat) (hs : s < 16) (hok : okCards cs = true) (h1 : ∀ x ∈ cs, 1 ≤ x) (hn : 0 ≤ n ∧ n ≤ 300) : hypercuberef8_Sort.f 20 cs m n s = some (sortI (sizeI cs n s)) := by
  obtain ⟨b1, b2, _⟩ := sizeI_bd cs h1 n s hn.1
  unfold hypercuberef8_Sort.f
  rw [refsize_f cs m n s hs hok, Option.bind_some]
  generalize sizeI cs n s = z at *
  obtain ⟨k, rfl⟩ := Int.eq_ofNat_of_zero_le b1
  exact refsort_l k (by omega)
theorem par_ref : ∀ d : Nat, d < 5 → ∀ s : Nat, s < 2 ^ d → hypercuberef8_Parents.f 40 (s : Int) (d : Int) = some (ofN (parents s d)) := by decide +kernel
theorem sets_ref : ∀ d : Nat, d < 5 → hypercuberef8_Sets.f 100 (d : Int) = some (ofN (sets d)) := by decide +kernel
theorem w64n (j : Nat) (h : j ≤ 1000) : wrap64 ((j : Int) + 1) = ((j + 1 : Nat) : Int) := next_fin j h
theorem shl_fin : ∀ d : Nat, d < 5 → 0 ≤ IntKind.u64.wrap (d : Int) ∧ shl .i64 1 (IntKind.u64.wrap (d : Int)) = ((2 ^ d : Nat) : Int) := by decide +kernel
theorem ints_l0 (x : List Int) (hx : x.length ≤ 1000) : ∀ (q i : Nat), i + q = x.length → ∀ k, hypercuberef1_Ints.l0 (k + q + 1) x x (i : Int) = some true
  | 0, i, h, k => by
    simp only [hypercuberef1_Ints.l0]
    rw [if_neg (by omega)]
  | q + 1, i, h, k => by
    have ih := ints_l0 x hx q (i + 1) (by omega) k
    have hw := Aside0.mk (w64n i (by omega))
    rw [show k + (q + 1) + 1 = (k + q + 1) + 1 by omega]
    generalize k + q + 1 = K at *
    simp only [hypercuberef1_Ints.l0]
    rw [if_pos (by omega), if_pos (by omega), if_pos (by omega), if_pos trivial, hw.out]
    exact ih
theorem ints_f (x : List Int) (hx : x.length ≤ 1000) (k : Nat) (hk : 1001 ≤ k) : hypercuberef1_Ints.f k x x = some true := by
  unfold hypercuberef1_Ints.f
  rw [if_pos rfl]
  have := ints_l0 x hx x.length 0 (by omega) (k - x.length - 1)
  rw [show k - x.length - 1 + x.length + 1 = k by omega] at this
  exact this
theorem setsL_fin : ∀ d : Nat, d < 5 → (sets d).length = 2 ^ d := by decide +kernel
theorem level_ref0 : ∀ s : Nat, s < 16 → hypercuberef8_Level.f 20 (s : Int) = some ((lev s : Nat) : Int) := by decide +kernel
end LatticeAllp
open LatticeAllp
theorem LatticeAll : hypercubelaw8_LatticeAll.Pure := by
  intro a0 l1 a2 a3 _ _ _ _ _ _
  obtain ⟨n, hn, hnl⟩ := LatticeAllp.within_f a2 301 (by decide) (by decide)
  obtain ⟨cs, m, hF, c1, c4, cr, hok⟩ := LatticeAllp.facts_of 8 (Nat.le_refl _) a0 l1
  have h1 : ∀ x ∈ cs, 1 ≤ x := fun x hx => (cr x hx).1
  have hd : cs.length < 5 := by omega
  have setsL : (sets cs.length).length = 2 ^ cs.length := LatticeAllp.setsL_fin cs.length hd
  obtain ⟨u1, u2⟩ := LatticeAllp.shl_fin cs.length hd
  have hp : 0 < 2 ^ cs.length := Nat.pow_pos (by omega)
  have hle : 2 ^ cs.length ≤ 16 := Nat.pow_le_pow_right (by omega) (show cs.length ≤ 4 by omega)
  obtain ⟨z, hz, hzl⟩ := LatticeAllp.within_f a3 ((2 ^ cs.length : Nat) : Int) (by omega) (by omega)
  have hz2 : z < 2 ^ cs.length := by omega
  have hz16 : z < 16 := by omega
  have e0 : hypercubelaw1_Facts.f 1200 a0 l1 0 [] = some (cs, m, []) := at_rounds (fun k => hypercubelaw1_Facts.mono _ _ _ _ k) (by omega) hF
  have s1 : lattice_Sets.f (cs.length : Int) = some (ofN (sets cs.length)) := by
    unfold lattice_Sets.f setsI; rw [if_pos (by omega), if_pos (by omega), Int.toNat_natCast]
  have s2 : hypercuberef8_Sets.f 1200 (cs.length : Int) = some (ofN (sets cs.length)) := at_rounds (fun k => hypercuberef8_Sets.mono _ k) (by omega) (LatticeAllp.sets_ref cs.length hd)
  have s3 := LatticeAllp.ints_f (ofN (sets cs.length)) (by unfold ofN; rw [List.length_map]; have := setsL; omega) 1200 (by omega)
  have l1' : lattice_Level.f (z : Int) = some ((lev z : Nat) : Int) := by
    unfold lattice_Level.f; rw [if_pos (by omega), if_pos (by omega), Int.toNat_natCast]
  have l2 : hypercuberef8_Level.f 1200 (z : Int) = some ((lev z : Nat) : Int) := at_rounds (fun k => hypercuberef8_Level.mono _ k) (by omega) (LatticeAllp.level_ref0 z hz16)
  have p1 : lattice_Parents.f (z : Int) (cs.length : Int) = some (ofN (parents z cs.length)) := by
    unfold lattice_Parents.f parI; rw [if_pos (by omega), if_pos (by omega), if_pos (by omega), if_pos (by omega), Int.toNat_natCast, Int.toNat_natCast]
  have p2 : hypercuberef8_Parents.f 1200 (z : Int) (cs.length : Int) = some (ofN (parents z cs.length)) := at_rounds (fun k => hypercuberef8_Parents.mono _ _ k) (by omega) (LatticeAllp.par_ref cs.length hd z hz2)
  have p3 := LatticeAllp.ints_f (ofN (parents z cs.length)) (by unfold ofN; rw [List.length_map]; have := parents_len z cs.length (by omega); omega) 1200 (by omega)
  have z1 := LatticeAllp.size_f cs m (n : Int) (z : Int) hok (by omega) (by omega)
  have z2 : hypercuberef8_Size.f 1200 cs m (n : Int) (z : Int) = some (sizeI cs (n : Int) (z : Int)) := at_rounds (fun k => hypercuberef8_Size.mono _ _ _ _ k) (by omega) (LatticeAllp.refsize_f cs m (n : Int) z hz16 hok)
  have c1' := LatticeAllp.scan_f cs m (n : Int) (z : Int) hok (by omega) (by omega)
  have c2 : hypercuberef8_Scan.f 1200 cs m (n : Int) (z : Int) = some (sizeI cs (n : Int) (z : Int)) := by
    unfold hypercuberef8_Scan.f; rw [z2, Option.bind_some]
  have t1 := LatticeAllp.sort_f 1200 cs m (n : Int) (z : Int) hok h1 (by omega) (by omega)
  have t2 : hypercuberef8_Sort.f 1200 cs m (n : Int) (z : Int) = some (sortI (sizeI cs (n : Int) (z : Int))) := at_rounds (fun k => hypercuberef8_Sort.mono _ _ _ _ k) (by omega) (LatticeAllp.refsort_f cs m (n : Int) z hz16 hok h1 (by omega))
  refine ⟨1200, ?_⟩
  unfold hypercubelaw8_LatticeAll.f
  rw [LatticeAllp.known_f, Option.bind_some, if_pos rfl, e0, Option.bind_some]
  dsimp only
  rw [if_pos u1, u2, hz, Option.bind_some, hn, Option.bind_some, s1, Option.bind_some, s2, Option.bind_some, s3, Option.bind_some, if_pos rfl, l1', Option.bind_some, l2, Option.bind_some, if_pos rfl,
    p1, Option.bind_some, p2, Option.bind_some, p3, Option.bind_some, if_pos rfl, z1, Option.bind_some, z2, Option.bind_some, if_pos rfl, c1', Option.bind_some, c2, Option.bind_some, if_pos rfl, t1, Option.bind_some, t2, Option.bind_some]
  simp

end Go.Proofs.Ytlplaidcdocbmaa.Pure
