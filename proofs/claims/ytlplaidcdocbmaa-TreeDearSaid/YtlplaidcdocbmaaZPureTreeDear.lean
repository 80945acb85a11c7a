-- Cut by pack.py, a program of this session; not trusted: Lean checks it.
import Derived.Test.YtlplaidcdocbmaaZCore14
import Derived.Test.YtlplaidcdocbmaaZPlainV
import Derived.Test.YtlplaidcdocbmaaZPTreeDearx11
/- TreeDear: its plain side. -/
namespace Go.Proofs.Ytlplaidcdocbmaa.Pure
open Go.RowKit Go.Proofs.Ytlplaidcdocbmaa.PTreeDear Go.Proofs.YtlplaidcdocbmaaW.PrintWords Go.Proofs.YtlplaidcdocbmaaW.PrintLast Go.Proofs.YtlplaidcdocbmaaW.PrintMore Go.Proofs.Ytlplaidcdocbmaa.Core
set_option linter.unusedVariables false
set_option linter.unusedSimpArgs false
set_option linter.unusedSectionVars false
namespace TreeDearp
theorem within_f (a n : Int) (hn : 0 < n) (h2 : n ≤ 4611686018427387904) : ∃ z : Nat, hypercubelaw11_within.f a n = some (z : Int) ∧ (z : Int) < n := by
  have h1 := Int.tmod_lt_of_pos a hn
  have h3 := Int.tmod_lt_of_pos (-a) hn
  rw [Int.neg_tmod] at h3
  have key : ∃ z : Int, hypercubelaw11_within.f a n = some z ∧ 0 ≤ z ∧ z < n := by
    unfold hypercubelaw11_within.f
    rw [if_neg (by omega)]
    by_cases h : Int.tmod a n < 0
    · refine ⟨Int.tmod a n + n, ?_, by omega, by omega⟩
      rw [if_pos h]
      congr 1
      unfold wrap64
      omega
    · refine ⟨Int.tmod a n, ?_, by omega, by omega⟩
      rw [if_neg h]
  obtain ⟨z, h, h0, hz⟩ := key
  obtain ⟨m, rfl⟩ := Int.eq_ofNat_of_zero_le h0
  exact ⟨m, h, hz⟩

theorem known_f : hypercubelaw11_known.f = some true := by decide +kernel
theorem within1_f (a n : Int) (hn : 0 < n) (h2 : n ≤ 4611686018427387904) : ∃ z, hypercubelaw1_within.f a n = some z ∧ 0 ≤ z ∧ z < n := by
  have h1 := Int.tmod_lt_of_pos a hn
  have h3 := Int.tmod_lt_of_pos (-a) hn
  rw [Int.neg_tmod] at h3
  unfold hypercubelaw1_within.f
  rw [if_neg (by omega)]
  by_cases h : Int.tmod a n < 0
  · refine ⟨Int.tmod a n + n, ?_, by omega, by omega⟩
    rw [if_pos h]
    congr 1
    unfold wrap64
    omega
  · refine ⟨Int.tmod a n, ?_, by omega, by omega⟩
    rw [if_neg h]

theorem facts_step (k : Nat) (a0 d : Int) (l1 : List Int) (i : Int) (cs : List Int) (m : Int) (hd : hypercubelaw1_within.f a0 4 = some d) (h0 : 0 ≤ i) (hi : i ≤ d) (hd3 : d ≤ 3) (hcs : cs.length ≤ 16) :
    ∃ c, 1 ≤ c ∧ c ≤ 5 ∧ hypercubelaw1_Facts.l0 (k + 1) a0 l1 [] i cs m = hypercubelaw1_Facts.l0 k a0 l1 [] (i + 1) (cs ++ [c]) m := by
  have hw : wrap64 (i + 1) = i + 1 := by unfold wrap64; omega
  by_cases hl : i < (l1.length : Int)
  · obtain ⟨z, hz, hz0, hz1⟩ := within1_f (rd l1 i) 5 (by decide) (by decide)
    refine ⟨1 + z, by omega, by omega, ?_⟩
    have hw2 : wrap64 (1 + z) = 1 + z := by unfold wrap64; omega
    simp only [hypercubelaw1_Facts.l0]
    rw [hd]
    simp only [Option.bind_some]
    rw [if_pos hi, if_pos hl, if_pos h0, hz]
    simp only [Option.bind_some]
    rw [if_pos (by omega), hw, hw2]
  · obtain ⟨z, hz, hz0, hz1⟩ := within1_f (wrap64 (i + 2)) 5 (by decide) (by decide)
    refine ⟨1 + z, by omega, by omega, ?_⟩
    have hw2 : wrap64 (1 + z) = 1 + z := by unfold wrap64; omega
    simp only [hypercubelaw1_Facts.l0]
    rw [hd]
    simp only [Option.bind_some]
    rw [if_pos hi, if_neg hl, hz]
    simp only [Option.bind_some]
    rw [if_pos (by omega), hw, hw2]

theorem facts_end (k : Nat) (a0 d : Int) (l1 : List Int) (i : Int) (cs : List Int) (m : Int) (hd : hypercubelaw1_within.f a0 4 = some d) (hi : d < i) (hcs : 0 < cs.length) :
    ∃ b : Bool, hypercubelaw1_Facts.l0 (k + 4) a0 l1 [] i cs m = some (if b then cs.set 0 16 else cs, m, []) := by
  obtain ⟨z, hz, hz0, hz1⟩ := within1_f a0 7 (by decide) (by decide)
  refine ⟨decide (z = 0), ?_⟩
  simp only [hypercubelaw1_Facts.l0]
  rw [hd]
  simp only [Option.bind_some]
  rw [if_neg (by omega), hz]
  simp only [Option.bind_some]
  by_cases h : z = 0
  · rw [if_pos h, if_pos (by omega)]
    simp [hypercubelaw1_Facts.j1, hypercubelaw1_Facts.l1, hypercubelaw1_Facts.j3, h]
  · rw [if_neg h]
    simp [hypercubelaw1_Facts.j1, hypercubelaw1_Facts.l1, hypercubelaw1_Facts.j3, h]

/-- A schema of numbers: one to four cards, each 1 to 16; no rows of no numbers. -/
theorem facts_nil (a0 : Int) (l1 : List Int) (a2 : Int) : ∃ (cs : List Int) (m : Int), hypercubelaw1_Facts.f 8 a0 l1 a2 [] = some (cs, m, []) ∧
    1 ≤ cs.length ∧ cs.length ≤ 4 ∧ (∀ c ∈ cs, 1 ≤ c ∧ c ≤ 16) ∧ 0 ≤ m ∧ m ≤ 2 := by
  obtain ⟨m, hm, hm0, hm1⟩ := within1_f a2 3 (by decide) (by decide)
  obtain ⟨d, hd, hd0, hd1⟩ := within1_f a0 4 (by decide) (by decide)
  have fin : ∀ (k : Nat) (i : Int) (cs : List Int), d < i → 0 < cs.length → cs.length ≤ 4 → (∀ c ∈ cs, 1 ≤ c ∧ c ≤ 5) →
      ∃ (r : List Int), hypercubelaw1_Facts.l0 (k + 4) a0 l1 [] i cs m = some (r, m, []) ∧ 1 ≤ r.length ∧ r.length ≤ 4 ∧ (∀ c ∈ r, 1 ≤ c ∧ c ≤ 16) := by
    intro k i cs h1 h2 h3 h4
    obtain ⟨b, hb⟩ := facts_end k a0 d l1 i cs m hd h1 h2
    refine ⟨_, hb, ?_, ?_, ?_⟩
    · cases b <;> simp <;> omega
    · cases b <;> simp <;> omega
    · intro c hc
      cases b with
      | false =>
        have := h4 c (by simpa using hc)
        omega
      | true =>
        have hc' : c ∈ cs.set 0 16 := by simpa using hc
        rcases List.mem_or_eq_of_mem_set hc' with h | h
        · have := h4 c h
          omega
        · omega
  have all : ∃ (r : List Int), hypercubelaw1_Facts.l0 8 a0 l1 [] 0 [] m = some (r, m, []) ∧ 1 ≤ r.length ∧ r.length ≤ 4 ∧ (∀ c ∈ r, 1 ≤ c ∧ c ≤ 16) := by
    obtain ⟨c0, h00, h01, e0⟩ := facts_step 7 a0 d l1 0 [] m hd (by omega) (by omega) (by omega) (by simp)
    rw [e0]
    by_cases g1 : d < 1
    · exact fin 3 _ _ (by omega) (by simp) (by simp) (by simp; omega)
    obtain ⟨c1, h10, h11, e1⟩ := facts_step 6 a0 d l1 (0 + 1) ([] ++ [c0]) m hd (by omega) (by omega) (by omega) (by simp)
    rw [e1]
    by_cases g2 : d < 2
    · exact fin 2 _ _ (by omega) (by simp) (by simp) (by simp; omega)
    obtain ⟨c2, h20, h21, e2⟩ := facts_step 5 a0 d l1 (0 + 1 + 1) ([] ++ [c0] ++ [c1]) m hd (by omega) (by omega) (by omega) (by simp)
    rw [e2]
    by_cases g3 : d < 3
    · exact fin 1 _ _ (by omega) (by simp) (by simp) (by simp; omega)
    obtain ⟨c3, h30, h31, e3⟩ := facts_step 4 a0 d l1 (0 + 1 + 1 + 1) ([] ++ [c0] ++ [c1] ++ [c2]) m hd (by omega) (by omega) (by omega) (by simp)
    rw [e3]
    exact fin 0 _ _ (by omega) (by simp) (by simp) (by simp; omega)
  obtain ⟨r, hr, h1, h2, h3⟩ := all
  refine ⟨r, m, ?_, h1, h2, h3, hm0, by omega⟩
  unfold hypercubelaw1_Facts.f
  rw [hm]
  simp only [Option.bind_some]
  exact hr

theorem facts_of (K : Nat) (hK : 8 ≤ K) (a0 : Int) (l1 : List Int) : ∃ (cs : List Int) (m : Int), hypercubelaw1_Facts.f K a0 l1 0 [] = some (cs, m, []) ∧ 1 ≤ cs.length ∧ cs.length ≤ 4 ∧ (∀ c ∈ cs, 1 ≤ c ∧ c ≤ 16) ∧ okCards cs = true := by
  obtain ⟨cs, m, h, h1, h2, h3, _⟩ := facts_nil a0 l1 0
  exact ⟨cs, m, at_rounds (fun k => hypercubelaw1_Facts.mono _ _ _ _ k) hK h, h1, h2, h3, okCards_of h2 (fun x hx => ⟨by have := h3 x hx; omega, (h3 x hx).2⟩)⟩
theorem refsize_l (cs : List Int) (m n : Int) (s : Nat) (hs : s < 16) (hok : okCards cs = true) : ∀ (d i : Nat), i + d = cs.length → ∀ k, hypercuberef8_Size.l0 (k + d + 1) n s (upTo cs s i) (i : Int) cs m = some (sizeI cs n s)
  | 0, i, hi, k => by
    have hlen := okCards_len hok
    have e : i = cs.length := by omega
    subst e
    simp only [hypercuberef8_Size.l0]
    rw [if_neg (by omega), mn_eq, upTo_end]
  | d + 1, i, hi, k => by
    have hlen := okCards_len hok
    have ih := refsize_l cs m n s hs hok d (i + 1) (by omega) k
    obtain ⟨b1, b2⟩ := bit_fin s hs i (by omega)
    have bd := upTo_bd cs s (i + 1) hok (by omega)
    have hn1 := Aside0.mk (next_fin i (by omega))
    show hypercuberef8_Size.l0 ((k + d + 1) + 1) n s (upTo cs s i) (i : Int) cs m = _
    generalize k + d + 1 = K at *
    simp only [hypercuberef8_Size.l0]
    rw [if_pos (by omega), if_pos b1]
    cases hb : s.testBit i with
    | true =>
      rw [hb] at b2
      rw [if_pos (of_decide_eq_true b2), if_pos (by omega), hn1.out, rdn]
      rw [upTo_yes cs s i hb] at bd ih
      rw [w64 _ (by omega) (by omega)]
      exact ih
    | false =>
      rw [hb] at b2
      rw [if_neg (of_decide_eq_false b2), hn1.out]
      rw [upTo_no cs s i hb] at ih
      exact ih
theorem refsize_f (cs : List Int) (m n : Int) (s : Nat) (hs : s < 16) (hok : okCards cs = true) : hypercuberef8_Size.f 20 cs m n s = some (sizeI cs n s) := by
  have hlen := okCards_len hok
  have h := refsize_l cs m n s hs hok cs.length 0 (by omega) (19 - cs.length)
  rw [show 19 - cs.length + cs.length + 1 = 20 by omega] at h
  exact h
theorem refsort_l : ∀ z : Nat, z < 301 → hypercuberef8_Sort.l0 20 z 0 z = some (sortI z) := by decide +kernel
theorem refsort_f (cs : List Int) (m n : Int) (s : Nat) (hs : s < 16) (hok : okCards cs = true) (h1 : ∀ x ∈ cs, 1 ≤ x) (hn : 0 ≤ n ∧ n ≤ 300) : hypercuberef8_Sort.f 20 cs m n s = some (sortI (sizeI cs n s)) := by
  obtain ⟨b1, b2, _⟩ := sizeI_bd cs h1 n s hn.1
  unfold hypercuberef8_Sort.f
  rw [refsize_f cs m n s hs hok, Option.bind_some]
  generalize sizeI cs n s = z at *
  obtain ⟨k, rfl⟩ := Int.eq_ofNat_of_zero_le b1
  exact refsort_l k (by omega)
open Go.Proofs.Ytlplaidcdocbmaa.Srt
def mkE (e : Ed) : S49 := S49.mk e.set e.par e.scan
theorem rd_map (o : List Ed) (i : Nat) : rd_T49 (o.map mkE) (i : Int) = ⟨(o.getD i ed0).set, (o.getD i ed0).par, (o.getD i ed0).scan⟩ := by
  unfold rd_T49
  rw [Int.toNat_natCast]
  simp only [List.getD_eq_getElem?_getD, List.getElem?_map]
  cases o[i]? <;> rfl
theorem rd_mapE (o : List Ed) (i : Nat) : rd_T49 (o.map mkE) (i : Int) = mkE (o.getD i ed0) := rd_map o i
theorem w64n (j : Nat) (h : j ≤ 1000) : wrap64 ((j : Int) + 1) = ((j + 1 : Nat) : Int) := next_fin j h
theorem shl_fin : ∀ d : Nat, d < 5 → 0 ≤ IntKind.u64.wrap (d : Int) ∧ shl .i64 1 (IntKind.u64.wrap (d : Int)) = ((2 ^ d : Nat) : Int) := by decide +kernel

theorem par_ref : ∀ d : Nat, d < 5 → ∀ s : Nat, s < 2 ^ d → hypercuberef8_Parents.f 40 (s : Int) (d : Int) = some (ofN (parents s d)) := by decide +kernel
theorem sets_ref : ∀ d : Nat, d < 5 → hypercuberef8_Sets.f 100 (d : Int) = some (ofN (sets d)) := by decide +kernel
theorem rd_ofN (P : List Nat) (j : Nat) (h : j < P.length) : rd (ofN P) (j : Int) = ((P[j] : Nat) : Int) := by
  rw [rdn]; simp [ofN, List.getD_eq_getElem?_getD, h]
theorem ofN_len (P : List Nat) : (ofN P).length = P.length := by simp [ofN]

theorem refsort_k (q : Nat) (hq : 21 ≤ q) (cs : List Int) (m n : Int) (s : Nat) (hs : s < 16) (hok : okCards cs = true) (h1 : ∀ x ∈ cs, 1 ≤ x) (hn : 0 ≤ n ∧ n ≤ 300) : hypercuberef8_Sort.f q cs m n s = some (sortC cs n s) := at_rounds (fun k => hypercuberef8_Sort.mono _ _ _ _ k) (show 20 ≤ q by omega) (refsort_f cs m n s hs hok h1 hn)
theorem refscan_k (q : Nat) (hq : 21 ≤ q) (cs : List Int) (m n : Int) (s : Nat) (hs : s < 16) (hok : okCards cs = true) : hypercuberef8_Scan.f q cs m n s = some (scanC cs n s) := by
  unfold hypercuberef8_Scan.f
  rw [at_rounds (fun k => hypercuberef8_Size.mono _ _ _ _ k) (show 20 ≤ q by omega) (refsize_f cs m n s hs hok), Option.bind_some]
  rfl

theorem refcost_l0 (cs : List Int) (m n : Int) (hok : okCards cs = true) (h1 : ∀ x ∈ cs, 1 ≤ x) (hn : 0 ≤ n ∧ n ≤ 300) (E : List Ed) (hE : E.length ≤ 16) (hp : ∀ e ∈ E, e.par < 0 ∨ ∃ p : Nat, e.par = (p : Int) ∧ p < 16) :
    ∀ (q i : Nat), i + q = E.length → ∀ k, 21 ≤ k → hypercuberef10_Cost.l0 (k + q + 1) n (E.map mkE) (costP (scanC cs n) (sortC cs n) (E.take i)) (i : Int) cs m = some (costP (scanC cs n) (sortC cs n) E)
  | 0, i, hi, k, hk => by
    simp only [hypercuberef10_Cost.l0]
    rw [if_neg (by rw [List.length_map]; omega), List.take_of_length_le (by omega)]
  | q + 1, i, hi, k, hk => by
    have ih := refcost_l0 cs m n hok h1 hn E hE hp q (i + 1) (by omega) k hk
    have hlt : i < E.length := by omega
    have hn1 := Aside0.mk (w64n i (by omega))
    have htk : E.take (i + 1) = E.take i ++ [E.getD i ed0] := by rw [getD_of_lt _ _ _ hlt]; exact List.take_succ_eq_append_getElem hlt
    have hrd := rd_mapE E i
    have hpi := hp (E.getD i ed0) (by rw [getD_of_lt _ _ _ hlt]; exact List.getElem_mem hlt)
    have hm : (E.map mkE).length = E.length := List.length_map ..
    have C := cheap_of h1 hn
    have hb := costP_bd C (E.take (i + 1)) (fun e he => hp e (List.mem_of_mem_take he))
    have hbl : (E.take (i + 1)).length ≤ 16 := by rw [List.length_take]; omega
    rw [htk, costP_append] at ih hb
    rw [htk] at hbl
    have hcs : ∀ e : Ed, costP (scanC cs n) (sortC cs n) [e] = costE (scanC cs n) (sortC cs n) e := fun e => by unfold costP; simp
    rw [hcs] at ih hb
    generalize E.getD i ed0 = e at *
    have hw := Aside0.mk (w64 (costP (scanC cs n) (sortC cs n) (E.take i) + costE (scanC cs n) (sortC cs n) e) (by omega) (by omega))
    rw [show k + (q + 1) + 1 = (k + q + 1) + 1 by omega]
    have hKq : 21 ≤ k + q + 1 := by omega
    generalize k + q + 1 = K at *
    simp only [hypercuberef10_Cost.l0]
    rw [if_pos (by omega), if_pos (by omega), hrd, hn1.out]
    show (if e.par < 0 then _ else (if e.scan = true then ((hypercuberef8_Scan.f K cs m n e.par).bind fun t => _) else ((hypercuberef8_Sort.f K cs m n e.par).bind fun t => _))) = _
    by_cases h0 : e.par < 0
    · rw [if_pos h0]
      have : costE (scanC cs n) (sortC cs n) e = 0 := by unfold costE; rw [if_pos h0]
      rw [this, Int.add_zero] at ih
      exact ih
    · obtain ⟨p, hpp, hpl⟩ := hpi.resolve_left h0
      rw [if_neg h0, hpp]
      by_cases hs : e.scan = true
      · have : costE (scanC cs n) (sortC cs n) e = scanC cs n p := by unfold costE; rw [if_neg h0, if_pos hs, hpp]; rfl
        rw [if_pos hs, refscan_k K hKq cs m n p hpl hok, Option.bind_some, ← this, hw.out]
        exact ih
      · have : costE (scanC cs n) (sortC cs n) e = sortC cs n p := by unfold costE; rw [if_neg h0, if_neg hs, hpp]; rfl
        rw [if_neg hs, refsort_k K hKq cs m n p hpl hok h1 hn, Option.bind_some, ← this, hw.out]
        exact ih
theorem refcost_f (cs : List Int) (m n : Int) (hok : okCards cs = true) (h1 : ∀ x ∈ cs, 1 ≤ x) (hn : 0 ≤ n ∧ n ≤ 300) (E : List Ed) (hE : E.length ≤ 16) (hp : ∀ e ∈ E, e.par < 0 ∨ ∃ p : Nat, e.par = (p : Int) ∧ p < 16) (k : Nat) (hk : 50 ≤ k) : hypercuberef10_Cost.f k cs m n (E.map mkE) = some (costP (scanC cs n) (sortC cs n) E) := by
  have h := refcost_l0 cs m n hok h1 hn E hE hp E.length 0 (by omega) (k - E.length - 1) (by omega)
  rw [show k - E.length - 1 + E.length + 1 = k by omega] at h
  exact h

theorem and_fin : ∀ a : Nat, a < 16 → ∀ b : Nat, b < 16 → Go.bits .and .i64 (a : Int) (b : Int) = ((a &&& b : Nat) : Int) := by decide +kernel
theorem has_fin : ∀ d : Nat, d < 5 → ∀ l : Nat, l < d → ∀ s ∈ lvl d l, ∀ a ∈ lvl d (l + 1), (parents s d).contains a = decide (a &&& s = s) := by decide +kernel
theorem level_fin : ∀ d : Nat, d < 5 → ∀ l : Nat, l < 5 → hypercuberef10_level.f 120 (d : Int) (l : Int) = some (ofN (lvl d l)) := by decide +kernel
theorem level_k (k : Nat) (hk : 120 ≤ k) (d : Nat) (hd : d < 5) (l : Nat) (hl : l < 5) : hypercuberef10_level.f k (d : Int) (l : Int) = some (ofN (lvl d l)) := at_rounds (fun k => hypercuberef10_level.mono _ _ k) hk (level_fin d hd l hl)
section
variable (cs : List Int) (m n : Int) (hok : okCards cs = true) (h1 : ∀ x ∈ cs, 1 ≤ x) (hn : 0 ≤ n ∧ n ≤ 300)
include hok h1 hn
theorem cheap_l0 (P : List Nat) (hP : ∀ p ∈ P, p < 16) (hl : P.length ≤ 16) : ∀ (q j : Nat), j + q = P.length → 1 ≤ j → ∀ k, 21 ≤ k →
    hypercuberef10_cheapest.l0 (k + q + 1) n (ofN P) ((leastL (sortC cs n) (P.take j) : Nat) : Int) (sortC cs n (leastL (sortC cs n) (P.take j))) (j : Int) cs m = some (((leastL (sortC cs n) P : Nat) : Int), sortC cs n (leastL (sortC cs n) P))
  | 0, j, hj, h1j, k, hk => by
    simp only [hypercuberef10_cheapest.l0]
    rw [if_neg (by rw [ofN_len]; omega), List.take_of_length_le (by omega)]
  | q + 1, j, hj, h1j, k, hk => by
    have hlt : j < P.length := by omega
    have ih := cheap_l0 P hP hl q (j + 1) (by omega) (by omega) k hk
    have hn1 := Aside0.mk (w64n j (by omega))
    have hrd := rd_ofN P j hlt
    have hpj := hP P[j] (List.getElem_mem hlt)
    rw [List.take_succ_eq_append_getElem hlt, leastL_snoc _ _ _ (by intro e; have := congrArg List.length e; rw [List.length_take, List.length_nil] at this; omega)] at ih
    rw [show k + (q + 1) + 1 = (k + q + 1) + 1 by omega]
    have hKq : 21 ≤ k + q + 1 := by omega
    generalize k + q + 1 = K at *
    simp only [hypercuberef10_cheapest.l0]
    rw [if_pos (by rw [ofN_len]; omega), if_pos (by omega), hrd, refsort_k K hKq cs m n _ hpj hok h1 hn, Option.bind_some, hn1.out]
    by_cases hc : sortC cs n P[j] < sortC cs n (leastL (sortC cs n) (P.take j))
    · rw [if_pos hc] at ih ⊢; exact ih
    · rw [if_neg hc] at ih ⊢; exact ih
theorem cheap_k (hd : cs.length < 5) (s : Nat) (hs : s < 2 ^ cs.length) (hne : (parents s cs.length).length ≠ 0) (k : Nat) (hk : 100 ≤ k) :
    hypercuberef10_cheapest.f k cs m n (s : Int) = some (((ownP (sortC cs n) cs.length s : Nat) : Int), sortC cs n (ownP (sortC cs n) cs.length s)) := by
  have hpr := at_rounds (fun k => hypercuberef8_Parents.mono _ _ k) (show 40 ≤ k by omega) (par_ref cs.length hd s hs)
  have hP : ∀ p ∈ parents s cs.length, p < 16 := fun p hp => par_small hd hs hp
  have hle : 2 ^ cs.length ≤ 16 := Nat.pow_le_pow_right (by omega) (show cs.length ≤ 4 by omega)
  have hl := parents_len s cs.length (by omega)
  unfold hypercuberef10_cheapest.f
  rw [hpr, Option.bind_some]
  unfold ownP
  generalize parents s cs.length = P at *
  have h0 : 0 < P.length := by omega
  have hl := cheap_l0 cs m n hok h1 hn P hP (by omega) (P.length - 1) 1 (by omega) (by omega) (k - P.length) (by omega)
  rw [show k - P.length + (P.length - 1) + 1 = k by omega] at hl
  have ht : P.take 1 = [] ++ [P[0]] := by
    cases P with
    | nil => simp at h0
    | cons a l => simp
  rw [ht, leastL_one] at hl
  rw [if_pos (by rw [ofN_len]; omega)]
  have hrd := rd_ofN P 0 h0
  have hrd : rd (ofN P) 0 = ((P[0] : Nat) : Int) := hrd
  rw [hrd, refsort_k k (by omega) cs m n _ (hP _ (List.getElem_mem h0)) hok h1 hn, Option.bind_some]
  exact hl
variable (d : Nat) (hdd : d = cs.length) (hd : d < 5) (A S : List Nat) (L : Lev d A S) (hA : A.length + S.length ≤ 12) (hA16 : ∀ a ∈ A, a < 16) (hS : ∀ s ∈ S, s < 2 ^ d ∧ (parents s d).length ≠ 0) (hhas : ∀ s ∈ S, ∀ a ∈ A, (parents s d).contains a = decide (a &&& s = s))
include hdd hd hA hA16 hS hhas
theorem below_l3 (ks : List Nat) (hks : ks.length = S.length) (hkl : ∀ k ∈ ks, k < A.length + S.length) : ∀ (q i : Nat), i + q = S.length → ∀ k, 100 ≤ k →
    hypercuberef10_below.l3 (k + q + 1) n (ofN S) (ofN A) (ofN ks) (((List.range i).map fun i => edgeAt (sortC cs n) d A S i (ks.getD i 0)).map mkE) (i : Int) cs m = some (((List.range S.length).map fun i => edgeAt (sortC cs n) d A S i (ks.getD i 0)).map mkE)
  | 0, i, hi, k, hk => by
    have e : i = S.length := by omega
    subst e
    simp only [hypercuberef10_below.l3]
    rw [if_neg (by rw [ofN_len]; omega)]
  | q + 1, i, hi, k, hk => by
    have hlt : i < S.length := by omega
    have ih := below_l3 ks hks hkl q (i + 1) (by omega) k hk
    have hn1 := Aside0.mk (w64n i (by omega))
    have hrS : rd (ofN S) (i : Int) = ((S.getD i 0 : Nat) : Int) := by rw [rd_ofN S i hlt, getD_of_lt _ _ _ hlt]
    have hrk : rd (ofN ks) (i : Int) = ((ks.getD i 0 : Nat) : Int) := by rw [rd_ofN ks i (by omega), getD_of_lt _ _ _ (by omega)]
    have hS1 := hS (S.getD i 0) (getD_mem hlt)
    have hK1 := hkl (ks.getD i 0) (getD_mem (by omega))
    have hch := cheap_k cs m n hok h1 hn (by omega) (S.getD i 0) (by rw [← hdd]; exact hS1.1) (by rw [← hdd]; exact hS1.2) (k + q + 1) (by omega)
    rw [← hdd] at hch
    rw [List.range_succ, List.map_append, List.map_append, List.map_singleton, List.map_singleton] at ih
    have hln : (((List.range i).map fun i => edgeAt (sortC cs n) d A S i (ks.getD i 0)).map mkE).length ≤ 1000 := by simp; omega
    rw [show k + (q + 1) + 1 = (k + q + 1) + 1 by omega]
    generalize k + q + 1 = K at *
    simp only [hypercuberef10_below.l3]
    rw [if_pos (by rw [ofN_len]; omega), if_pos (by omega), if_pos (by rw [ofN_len]; omega), hrk, hrS, hn1.out]
    by_cases hc : ks.getD i 0 < A.length
    · have he : edgeAt (sortC cs n) d A S i (ks.getD i 0) = ⟨(S.getD i 0 : Nat), (A.getD (ks.getD i 0) 0 : Nat), true⟩ := by unfold edgeAt; rw [if_pos hc]
      rw [he] at ih
      rw [if_pos (by rw [ofN_len]; omega), if_pos (by omega), if_pos (by omega), rd_ofN A _ hc]
      rw [getD_of_lt A _ _ hc] at ih
      exact ih
    · have he : edgeAt (sortC cs n) d A S i (ks.getD i 0) = ⟨(S.getD i 0 : Nat), (ownP (sortC cs n) d (S.getD i 0) : Nat), false⟩ := by unfold edgeAt; rw [if_neg hc]
      rw [he] at ih
      rw [if_neg (by rw [ofN_len]; omega), hch, Option.bind_some, if_pos (by omega)]
      exact ih
theorem below_l2 (C : List (List Int)) (hC : C.length ≤ 12) (i : Nat) (hi : i < S.length) (r : Option (List S49)) (k0 : Nat)
    (h : ∀ k, k0 ≤ k → hypercuberef10_below.l0 k n (ofN S) (ofN A) (C ++ [costRow (scanC cs n) (sortC cs n) d A S i]) ((i + 1 : Nat) : Int) cs m = r) :
    ∀ (q j : Nat), j + q = S.length → ∀ k, k0 ≤ k → hypercuberef10_below.l2 (k + q + 1) n (ofN S) (ofN A) C (i : Int) ((List.range (A.length + j)).map (entry (scanC cs n) (sortC cs n) d A S i)) (sortC cs n (ownP (sortC cs n) d (S.getD i 0))) (j : Int) cs m = r
  | 0, j, hj, k, hk => by
    have e : j = S.length := by omega
    subst e
    have hn1 := Aside0.mk (w64n i (by omega))
    simp only [hypercuberef10_below.l2]
    rw [if_neg (by rw [ofN_len]; omega), if_pos (by omega), hn1.out]
    exact h k hk
  | q + 1, j, hj, k, hk => by
    have ih := below_l2 C hC i hi r k0 h q (j + 1) (by omega) k hk
    have hn1 := Aside0.mk (w64n j (by omega))
    have hln : ((List.range (A.length + j)).map (entry (scanC cs n) (sortC cs n) d A S i)).length ≤ 1000 := by simp; omega
    rw [show A.length + (j + 1) = A.length + j + 1 by omega, List.range_succ, List.map_append, List.map_singleton] at ih
    rw [show k + (q + 1) + 1 = (k + q + 1) + 1 by omega]
    generalize k + q + 1 = K at *
    simp only [hypercuberef10_below.l2]
    rw [if_pos (by rw [ofN_len]; omega), hn1.out]
    by_cases hc : j = i
    · have he : entry (scanC cs n) (sortC cs n) d A S i (A.length + j) = sortC cs n (ownP (sortC cs n) d (S.getD i 0)) := by
        unfold entry; rw [if_neg (by omega), if_pos (by omega)]
      rw [he] at ih
      rw [if_pos (by omega), if_pos (by omega)]
      exact ih
    · have he : entry (scanC cs n) (sortC cs n) d A S i (A.length + j) = 1000000 := by
        unfold entry; rw [if_neg (by omega), if_neg (by omega)]
      rw [he] at ih
      rw [if_neg (by omega), if_pos (by omega)]
      exact ih
theorem below_l1 (C : List (List Int)) (hC : C.length ≤ 12) (i : Nat) (hi : i < S.length) (r : Option (List S49)) (k0 : Nat) (hk0 : 100 ≤ k0)
    (h : ∀ k, k0 ≤ k → hypercuberef10_below.l2 k n (ofN S) (ofN A) C (i : Int) ((List.range A.length).map (entry (scanC cs n) (sortC cs n) d A S i)) (sortC cs n (ownP (sortC cs n) d (S.getD i 0))) 0 cs m = r) :
    ∀ (q j : Nat), j + q = A.length → ∀ k, k0 ≤ k → hypercuberef10_below.l1 (k + q + 1) n (ofN S) (ofN A) C (i : Int) ((List.range j).map (entry (scanC cs n) (sortC cs n) d A S i)) (j : Int) cs m = r
  | 0, j, hj, k, hk => by
    have e : j = A.length := by omega
    subst e
    have hrS : rd (ofN S) (i : Int) = ((S.getD i 0 : Nat) : Int) := by rw [rd_ofN S i hi, getD_of_lt _ _ _ hi]
    have hS1 := hS (S.getD i 0) (getD_mem hi)
    have hch := cheap_k cs m n hok h1 hn (by omega) (S.getD i 0) (by rw [← hdd]; exact hS1.1) (by rw [← hdd]; exact hS1.2) k (by omega)
    rw [← hdd] at hch
    simp only [hypercuberef10_below.l1, Nat.add_zero]
    rw [if_neg (by rw [ofN_len]; omega), if_pos (by omega), if_pos (by rw [ofN_len]; omega), hrS, hch, Option.bind_some]
    exact h k hk
  | q + 1, j, hj, k, hk => by
    have ih := below_l1 C hC i hi r k0 hk0 h q (j + 1) (by omega) k hk
    have hlt : j < A.length := by omega
    have hn1 := Aside0.mk (w64n j (by omega))
    have hrS : rd (ofN S) (i : Int) = ((S.getD i 0 : Nat) : Int) := by rw [rd_ofN S i hi, getD_of_lt _ _ _ hi]
    have hrA : rd (ofN A) (j : Int) = ((A.getD j 0 : Nat) : Int) := by rw [rd_ofN A j hlt, getD_of_lt _ _ _ hlt]
    have hle : 2 ^ d ≤ 16 := Nat.pow_le_pow_right (by omega) (show d ≤ 4 by omega)
    have hS1 := hS (S.getD i 0) (getD_mem hi)
    have hAm : A.getD j 0 ∈ A := getD_mem hlt
    have hand := and_fin (A.getD j 0) (hA16 _ hAm) (S.getD i 0) (by omega)
    have hh := hhas (S.getD i 0) (getD_mem hi) (A.getD j 0) hAm
    have hsc := refscan_k (k + q + 1) (by omega) cs m n (A.getD j 0) (hA16 _ hAm) hok
    have hln : ((List.range j).map (entry (scanC cs n) (sortC cs n) d A S i)).length ≤ 1000 := by simp; omega
    rw [List.range_succ, List.map_append, List.map_singleton] at ih
    rw [show k + (q + 1) + 1 = (k + q + 1) + 1 by omega]
    generalize k + q + 1 = K at *
    simp only [hypercuberef10_below.l1]
    rw [if_pos (by rw [ofN_len]; omega), if_pos (by omega), if_pos (by omega), if_pos (by rw [ofN_len]; omega), hrS, hrA, hand, hn1.out]
    have he : entry (scanC cs n) (sortC cs n) d A S i j = if (parents (S.getD i 0) d).contains (A.getD j 0) then scanC cs n (A.getD j 0) else 1000000 := by
      unfold entry; rw [if_pos hlt]
    rw [he, hh] at ih
    by_cases hc : A.getD j 0 &&& S.getD i 0 = S.getD i 0
    · rw [if_pos (decide_eq_true hc)] at ih
      rw [if_pos (by omega), hsc, Option.bind_some, if_pos (by omega)]
      exact ih
    · rw [if_neg (by simpa using hc)] at ih
      rw [if_neg (by omega), if_pos (by omega)]
      exact ih
include L
theorem below_l0 : ∀ (q i : Nat), i + q = S.length → ∃ k0, ∀ k, k0 ≤ k → hypercuberef10_below.l0 k n (ofN S) (ofN A) ((List.range i).map (costRow (scanC cs n) (sortC cs n) d A S)) (i : Int) cs m = some ((edgesAS (scanC cs n) (sortC cs n) d A S).map mkE)
  | 0, i, hi => by
    have e : i = S.length := by omega
    subst e
    have C := cheap_of h1 hn
    obtain ⟨ks, g1, g2, g3, g4, g5⟩ := choice C L
    have h3 := fun k hk => below_l3 cs m n hok h1 hn d hdd hd A S hA hA16 hS hhas ks g2 g4 S.length 0 (by omega) k hk
    have he : (edgesAS (scanC cs n) (sortC cs n) d A S) = (List.range S.length).map fun i => edgeAt (sortC cs n) d A S i (ks.getD i 0) := by
      unfold edgesAS
      rw [g1]
      refine List.map_congr_left fun i hi => ?_
      have hi' : i < ks.length := by rw [g2]; exact List.mem_range.1 hi
      congr 1
      rw [getD_of_lt _ _ _ (by simpa using hi'), getD_of_lt _ _ _ hi']
      simp
    refine ⟨100 + S.length + 2, fun k hk => ?_⟩
    obtain ⟨K, rfl⟩ : ∃ K, k = K + S.length + 1 + 1 := ⟨k - S.length - 2, by omega⟩
    have h3 := h3 K (by omega)
    generalize K + S.length + 1 = q at *
    simp only [hypercuberef10_below.l0]
    rw [if_neg (by rw [ofN_len]; omega)]
    unfold hypercuberef9_Assign.f
    rw [Option.bind_some]
    show hypercuberef10_below.l3 q n (ofN S) (ofN A) (Mat.assign (costM (scanC cs n) (sortC cs n) d A S)).1 [] 0 cs m = _
    rw [g1, he]
    exact h3
  | q + 1, i, hi => by
    have hlt : i < S.length := by omega
    obtain ⟨k0, ih⟩ := below_l0 q (i + 1) (by omega)
    rw [List.range_succ, List.map_append, List.map_singleton] at ih
    have hl : ((List.range i).map (costRow (scanC cs n) (sortC cs n) d A S)).length ≤ 12 := by simp; omega
    have i2 := below_l2 cs m n hok h1 hn d hdd hd A S hA hA16 hS hhas _ hl i hlt _ k0 ih S.length 0 (by omega)
    have i1 := below_l1 cs m n hok h1 hn d hdd hd A S hA hA16 hS hhas _ hl i hlt _ (k0 + 100 + S.length + 1) (by omega) (fun k hk => by
      have := i2 (k - S.length - 1) (by omega)
      rw [show k - S.length - 1 + S.length + 1 = k by omega] at this
      exact this) A.length 0 (by omega)
    refine ⟨k0 + 100 + S.length + 1 + A.length + 1 + 1, fun k hk => ?_⟩
    obtain ⟨K, rfl⟩ : ∃ K, k = K + A.length + 1 + 1 := ⟨k - A.length - 2, by omega⟩
    have i1 := i1 K (by omega)
    generalize K + A.length + 1 = q1 at *
    simp only [hypercuberef10_below.l0]
    rw [if_pos (by rw [ofN_len]; omega)]
    exact i1
end
theorem below_k (cs : List Int) (m n : Int) (hok : okCards cs = true) (h1 : ∀ x ∈ cs, 1 ≤ x) (hn : 0 ≤ n ∧ n ≤ 300) (hd : cs.length < 5) (l : Nat) (hl : l < cs.length) : ∃ k0, ∀ k, k0 ≤ k → hypercuberef10_below.f k cs m n (l : Int) = some ((edgesS (scanC cs n) (sortC cs n) cs.length l).map mkE) := by
  obtain ⟨k0, h⟩ := below_l0 cs m n hok h1 hn cs.length rfl hd (lvl cs.length (l + 1)) (lvl cs.length l) (lev_of cs.length hd l hl) (lvl_fin1 cs.length hd l hl).1 (fun a ha => lvl_fin5 cs.length hd l hl a ha)
    (fun s hs => ⟨(lvl_fin3 cs.length hd l hl s hs).2.1, (lvl_fin3 cs.length hd l hl s hs).2.2.2⟩) (fun s hs a ha => has_fin cs.length hd l hl s hs a ha) (lvl cs.length l).length 0 (by omega)
  refine ⟨k0 + 120, fun k hk => ?_⟩
  have hn1 := Aside0.mk (w64n l (by omega))
  unfold hypercuberef10_below.f
  rw [level_k k (by omega) cs.length hd l (by omega), Option.bind_some, hn1.out, level_k k (by omega) cs.length hd (l + 1) (by omega), Option.bind_some]
  exact h k (by omega)
theorem plan_l0 (cs : List Int) (m n : Int) (hok : okCards cs = true) (h1 : ∀ x ∈ cs, 1 ≤ x) (hn : 0 ≤ n ∧ n ≤ 300) (hd : cs.length < 5) : ∀ (j : Nat) (X : List Ed), j ≤ cs.length → X.length + 16 * j ≤ 100 → ∃ k0, ∀ k, k0 ≤ k → hypercuberef10_Plan.l0 k n (X.map mkE) ((j : Int) - 1) cs m = some ((X ++ below (scanC cs n) (sortC cs n) cs.length j).map mkE)
  | 0, X, hj, hX => by
    refine ⟨1, fun k hk => ?_⟩
    obtain ⟨K, rfl⟩ : ∃ K, k = K + 1 := ⟨k - 1, by omega⟩
    simp only [hypercuberef10_Plan.l0]
    rw [if_neg (by omega)]
    simp [below]
  | j + 1, X, hj, hX => by
    have C := cheap_of h1 hn
    have L := lev_of cs.length hd j (by omega)
    have hlen : (edgesS (scanC cs n) (sortC cs n) cs.length j).length = (lvl cs.length j).length := by
      have := congrArg List.length (edges_right C L).1.1
      rw [List.length_map, List.length_map] at this
      exact this
    have hl6 := (lvl_fin1 cs.length hd j (by omega)).2.1
    obtain ⟨k1, hb⟩ := below_k cs m n hok h1 hn hd j (by omega)
    obtain ⟨k2, ih⟩ := plan_l0 cs m n hok h1 hn hd j (X ++ edgesS (scanC cs n) (sortC cs n) cs.length j) (by omega) (by rw [List.length_append]; omega)
    refine ⟨k1 + k2 + 1, fun k hk => ?_⟩
    obtain ⟨K, rfl⟩ : ∃ K, k = K + 1 := ⟨k - 1, by omega⟩
    have hb := hb K (by omega)
    have ih := ih K (by omega)
    rw [below_succ, ← List.append_assoc]
    have e1 : ((j + 1 : Nat) : Int) - 1 = (j : Int) := by omega
    have e2 := Aside0.mk (w64 ((j : Int) - 1) (by omega) (by omega))
    rw [List.map_append] at ih
    simp only [hypercuberef10_Plan.l0]
    rw [if_pos (by omega), e1, hb, Option.bind_some, e2.out, if_pos (by rw [List.length_map, List.length_map, hlen]; omega)]
    exact ih
theorem refplan_f (cs : List Int) (m n : Int) (hok : okCards cs = true) (h1 : ∀ x ∈ cs, 1 ≤ x) (hn : 0 ≤ n ∧ n ≤ 300) : ∃ k0, ∀ k, k0 ≤ k → hypercuberef10_Plan.f k cs m n = some ((planS (scanC cs n) (sortC cs n) cs.length).map mkE) := by
  have hd : cs.length < 5 := by have := okCards_len hok; omega
  obtain ⟨u1, u2⟩ := shl_fin cs.length hd
  obtain ⟨k0, h⟩ := plan_l0 cs m n hok h1 hn hd cs.length [⟨((2 ^ cs.length - 1 : Nat) : Int), -1, false⟩] (Nat.le_refl _) (by simp; omega)
  have hle : 2 ^ cs.length ≤ 16 := Nat.pow_le_pow_right (by omega) (show cs.length ≤ 4 by omega)
  have hp : 0 < 2 ^ cs.length := Nat.pow_pos (by omega)
  have e1 := Aside0.mk (w64 (((2 ^ cs.length : Nat) : Int) - 1) (by omega) (by omega))
  have e2 := Aside0.mk (w64 ((cs.length : Int) - 1) (by omega) (by omega))
  refine ⟨k0, fun k hk => ?_⟩
  unfold hypercuberef10_Plan.f
  rw [if_pos u1, u2, e1.out, e2.out, plan_eq]
  have := h k hk
  rw [show ((2 ^ cs.length : Nat) : Int) - 1 = ((2 ^ cs.length - 1 : Nat) : Int) by omega]
  exact this

theorem sets_bd (d : Nat) (hd : d < 5) : (sets d).length = 2 ^ d ∧ (sets d).length ≤ 16 := ⟨(sets_fin d hd).1, by rw [(sets_fin d hd).1]; exact pow16 d (by omega)⟩
theorem in_l0 (P : List Nat) (v : Nat) (hl : P.length ≤ 16) : ∀ (d j : Nat), j + d = P.length → v ∈ P.drop j → ∀ K, hypercuberef10_in.l0 (K + d + 1) (ofN P) (v : Int) (j : Int) = some true
  | 0, j, hj, hv, K => by rw [List.drop_eq_nil_of_le (by omega)] at hv; exact absurd hv (by simp)
  | d + 1, j, hj, hv, K => by
    have hlt : j < P.length := by omega
    have hr := rd_ofN P j hlt
    have hn1 := Aside0.mk (w64n j (by omega))
    rw [List.drop_eq_getElem_cons hlt] at hv
    have ih := in_l0 P v hl d (j + 1) (by omega)
    rw [show K + (d + 1) + 1 = (K + d + 1) + 1 by omega]
    have ih2 := fun hv => ih hv K
    generalize K + d + 1 = q at *
    simp only [hypercuberef10_in.l0]
    rw [if_pos (by rw [ofN_len]; omega), if_pos (by omega), hr, hn1.out]
    by_cases he : P[j] = v
    · rw [if_pos (by omega)]
    · rw [if_neg (by omega)]
      rcases List.mem_cons.1 hv with h | h
      · exact absurd h.symm he
      · exact ih2 h
theorem in_f (P : List Nat) (v : Nat) (hl : P.length ≤ 16) (hv : v ∈ P) (k : Nat) (hk : 17 ≤ k) : hypercuberef10_in.f k (ofN P) (v : Int) = some true := by
  unfold hypercuberef10_in.f
  have := in_l0 P v hl P.length 0 (by omega) (by simpa using hv) (k - P.length - 1)
  rw [show k - P.length - 1 + P.length + 1 = k by omega] at this
  exact this
theorem rd_plan (cs : List Int) (n : Int) (i : Nat) (hi : i < (sets cs.length).length) : rd_T49 (planL S49.mk cs n) (i : Int) = ⟨(((sets cs.length).getD i 0 : Nat) : Int), parentT cs n i, false⟩ := by
  unfold rd_T49 planL
  simp [List.getD_eq_getElem?_getD, hi]
theorem plan_len (cs : List Int) (n : Int) : (planL S49.mk cs n).length = (sets cs.length).length := by simp [planL]
theorem right_l0 (cs : List Int) (n : Int) (hd : cs.length < 5) : ∀ (d i : Nat), i + d = (sets cs.length).length → ∃ k0, ∀ k, k0 ≤ k → hypercuberef10_Right.l0 k (planL S49.mk cs n) (cs.length : Int) (ofN (sets cs.length)) [] (i : Int) = some true
  | 0, i, hi => by
    refine ⟨1, fun k hk => ?_⟩
    obtain ⟨k', rfl⟩ : ∃ k', k = k' + 1 := ⟨k - 1, by omega⟩
    simp only [hypercuberef10_Right.l0]
    rw [if_neg (by rw [plan_len]; omega)]
  | d + 1, i, hi => by
    obtain ⟨k0, ih⟩ := right_l0 cs n hd d (i + 1) (by omega)
    obtain ⟨s1, s2⟩ := sets_bd cs.length hd
    have hlt : i < (sets cs.length).length := by omega
    have hs := (sets_fin cs.length hd).2 i (by omega)
    have hr : rd (ofN (sets cs.length)) (i : Int) = (((sets cs.length).getD i 0 : Nat) : Int) := by rw [rdn]; simp [ofN, List.getD_eq_getElem?_getD, hlt]
    have hrd := rd_plan cs n i hlt
    have hpl := parents_len ((sets cs.length).getD i 0) cs.length (by omega)
    have hpr := par_ref cs.length hd ((sets cs.length).getD i 0) hs.1
    have hn1 := Aside0.mk (w64n i (by omega))
    refine ⟨k0 + 100, fun k hk => ?_⟩
    obtain ⟨K, rfl⟩ : ∃ K, k = (K + 1) + 1 := ⟨k - 2, by omega⟩
    have h3 : hypercuberef8_Parents.f (K + 1) (((sets cs.length).getD i 0 : Nat) : Int) (cs.length : Int) = some (ofN (parents ((sets cs.length).getD i 0) cs.length)) := at_rounds (fun k => hypercuberef8_Parents.mono _ _ k) (by omega) hpr
    have i1 := ih (K + 1) (by omega)
    have i2 := ih K (by omega)
    have hlen := plan_len cs n
    have hq : 17 ≤ K + 1 := by omega
    have hjj : hypercuberef10_Right.j1 (K + 1) (planL S49.mk cs n) (cs.length : Int) (ofN (sets cs.length)) [] (i : Int) false (((sets cs.length).getD i 0 : Nat) : Int) (parentT cs n i) false = some true := by
      simp only [hypercuberef10_Right.j1]
      rw [if_neg (by simp), if_neg (by simp), hn1.out]
      exact i2
    generalize K + 1 = q at *
    simp only [hypercuberef10_Right.l0]
    rw [if_pos (by rw [hlen]; omega), if_pos (by omega), if_pos (by rw [ofN_len]; omega), hrd]
    dsimp only
    rw [if_pos hr.symm]
    by_cases h0 : i = 0
    · rw [if_pos (by omega), if_pos (by unfold parentT; rw [if_pos h0]), if_neg (by simp), hn1.out]
      exact i1
    · have hp : parentT cs n i = ((leastL (fun p => sizeI cs n p) (parents ((sets cs.length).getD i 0) cs.length) : Nat) : Int) := if_neg h0
      have hm := leastL_mem (fun p => sizeI cs n p) _ (hs.2 h0)
      rw [if_neg (by omega), h3, Option.bind_some, hp, in_f _ _ hpl hm q hq, Option.bind_some, if_pos rfl, if_neg (by simp), ← hp]
      exact hjj
theorem right_f (cs : List Int) (n : Int) (hd : cs.length < 5) : ∃ k0, ∀ k, k0 ≤ k → hypercuberef10_Right.f k (planL S49.mk cs n) (cs.length : Int) = some true := by
  obtain ⟨k0, h⟩ := right_l0 cs n hd (sets cs.length).length 0 (by omega)
  refine ⟨k0 + 100, fun k hk => ?_⟩
  unfold hypercuberef10_Right.f
  rw [show hypercuberef8_Sets.f k (cs.length : Int) = some (ofN (sets cs.length)) from at_rounds (fun k => hypercuberef8_Sets.mono _ k) (by omega) (sets_ref cs.length hd), Option.bind_some, if_pos (by rw [plan_len, ofN_len])]
  exact h k (by omega)

/-- The plan of the tree as edges. -/
def treeE (cs : List Int) (n : Int) : List Ed := (List.range (sets cs.length).length).map fun i => ⟨(((sets cs.length).getD i 0 : Nat) : Int), parentT cs n i, false⟩
theorem tree_eq (cs : List Int) (n : Int) : planL S49.mk cs n = (treeE cs n).map mkE := by
  unfold planL treeE
  rw [List.map_map]
  rfl
theorem tree_right (cs : List Int) (n : Int) (hd : cs.length < 5) : RightPlan cs.length (treeE cs n) := by
  have hs := sets_levels cs.length hd
  have hsf := (sets_fin cs.length hd).2
  have hsl := (sets_fin cs.length hd).1
  have hlen : (sets cs.length).length = (belowS cs.length cs.length).length + 1 := by rw [hs]; rfl
  refine ⟨⟨(((sets cs.length).getD 0 0 : Nat) : Int), parentT cs n 0, false⟩, (List.range (belowS cs.length cs.length).length).map fun i => ⟨(((sets cs.length).getD (i + 1) 0 : Nat) : Int), parentT cs n (i + 1), false⟩, ?_, ?_, rfl, rfl, ?_, ?_, ?_⟩
  · unfold treeE
    rw [hlen, List.range_succ_eq_map, List.map_cons, List.map_map]
    rfl
  · rw [hs]; rfl
  · rw [List.map_map]
    apply List.ext_getElem
    · simp
    · intro i h1 h2
      simp only [List.getElem_map, List.getElem_range, Function.comp]
      have e : (sets cs.length).getD (i + 1) 0 = (belowS cs.length cs.length).getD i 0 := by rw [hs]; rfl
      rw [e, getD_of_lt _ _ _ (by simpa using h2)]
  · intro e he
    obtain ⟨i, hi, rfl⟩ := List.mem_map.1 he
    have hi := List.mem_range.1 hi
    have hp : parentT cs n (i + 1) = ((leastL (fun p => sizeI cs n p) (parents ((sets cs.length).getD (i + 1) 0) cs.length) : Nat) : Int) := if_neg (by omega)
    refine ⟨_, hp, ?_⟩
    have hm := leastL_mem (fun p => sizeI cs n p) _ ((hsf (i + 1) (by omega)).2 (by omega))
    simpa using hm
  · have : ((List.range (belowS cs.length cs.length).length).map fun i => (⟨(((sets cs.length).getD (i + 1) 0 : Nat) : Int), parentT cs n (i + 1), false⟩ : Ed)).filter (·.scan) = [] := by
      rw [List.filter_eq_nil_iff]
      intro e he
      obtain ⟨i, _, rfl⟩ := List.mem_map.1 he
      simp
    rw [this]
    exact List.nodup_nil
end TreeDearp
open TreeDearp
open Go.Proofs.Ytlplaidcdocbmaa.Srt
theorem TreeDear : hypercubelaw11_TreeDear.Pure := by
  intro a0 l1 a2 _ _ _ _ _
  obtain ⟨z, hz, hzl⟩ := TreeDearp.within_f a2 301 (by decide) (by decide)
  obtain ⟨cs, m, hF, c1, c4, cr, hok⟩ := TreeDearp.facts_of 8 (Nat.le_refl _) a0 l1
  have h1 : ∀ x ∈ cs, 1 ≤ x := fun x hx => (cr x hx).1
  have hd : cs.length < 5 := by omega
  have hn : 0 ≤ (z : Int) ∧ (z : Int) ≤ 300 := by omega
  have C := cheap_of h1 hn
  have hR := plan_right C hd
  have hT := TreeDearp.tree_right cs (z : Int) hd
  have hle := plan_least C hd _ hT
  obtain ⟨k1, e1⟩ := TreeDearp.refplan_f cs m (z : Int) hok h1 hn
  obtain ⟨k2, e2⟩ := TreeDearp.right_f cs (z : Int) hd
  have e4 : tree_Plan.f cs m (z : Int) = some (planL S49.mk cs (z : Int)) := by
    unfold tree_Plan.f; rw [if_pos ⟨hok, by omega, by omega⟩]
  rw [TreeDearp.tree_eq] at e2 e4
  generalize planS (scanC cs (z : Int)) (sortC cs (z : Int)) cs.length = E at *
  generalize TreeDearp.treeE cs (z : Int) = O at *
  obtain ⟨r1, r2, r3⟩ := right_at_i hd hR
  obtain ⟨t1, t2, t3⟩ := right_at_i hd hT
  have hl16 : 2 ^ cs.length ≤ 16 := Nat.pow_le_pow_right (by omega) (show cs.length ≤ 4 by omega)
  have hK : ∃ K, K = k1 + k2 + 100 := ⟨_, rfl⟩
  obtain ⟨K, hK⟩ := hK
  have e6 := TreeDearp.refcost_f cs m (z : Int) hok h1 hn E (by omega) (right_pars hd hR) K (by omega)
  have e7 := TreeDearp.refcost_f cs m (z : Int) hok h1 hn O (by omega) (right_pars hd hT) K (by omega)
  have e0 : hypercubelaw1_Facts.f K a0 l1 0 [] = some (cs, m, []) := at_rounds (fun k => hypercubelaw1_Facts.mono _ _ _ _ k) (by omega) hF
  have e1 := e1 K (by omega)
  have e2 := e2 K (by omega)
  refine ⟨K, ?_⟩
  unfold hypercubelaw11_TreeDear.f
  rw [TreeDearp.known_f, Option.bind_some, if_pos rfl, e0, Option.bind_some, hz, Option.bind_some]
  dsimp only
  rw [e4, Option.bind_some, e2, Option.bind_some, if_pos rfl, e1, Option.bind_some, e6, Option.bind_some, e7, Option.bind_some, decide_eq_true hle]

end Go.Proofs.Ytlplaidcdocbmaa.Pure
