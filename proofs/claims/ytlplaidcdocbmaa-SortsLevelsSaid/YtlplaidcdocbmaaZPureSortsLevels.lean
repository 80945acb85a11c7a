-- Cut by pack.py, a program of this session; not trusted: Lean checks it.
import Derived.Test.YtlplaidcdocbmaaZCore14
import Derived.Test.YtlplaidcdocbmaaZPlainV
import Derived.Test.YtlplaidcdocbmaaZPSortsLevelsx5
/- SortsLevels: its plain side. -/
namespace Go.Proofs.Ytlplaidcdocbmaa.Pure
open Go.RowKit Go.Proofs.Ytlplaidcdocbmaa.PSortsLevels Go.Proofs.YtlplaidcdocbmaaW.PrintWords Go.Proofs.YtlplaidcdocbmaaW.PrintLast Go.Proofs.YtlplaidcdocbmaaW.PrintMore Go.Proofs.Ytlplaidcdocbmaa.Core
set_option linter.unusedVariables false
set_option linter.unusedSimpArgs false
namespace SortsLevelsp
theorem within_f (a n : Int) (hn : 0 < n) (h2 : n ≤ 4611686018427387904) : ∃ z : Nat, hypercubelaw10_within.f a n = some (z : Int) ∧ (z : Int) < n := by
  have h1 := Int.tmod_lt_of_pos a hn
  have h3 := Int.tmod_lt_of_pos (-a) hn
  rw [Int.neg_tmod] at h3
  have key : ∃ z : Int, hypercubelaw10_within.f a n = some z ∧ 0 ≤ z ∧ z < n := by
    unfold hypercubelaw10_within.f
    rw [if_neg (by omega)]
    by_cases h : Int.tmod a n < 0
    · refine ⟨Int.tmod a n + n, ?_, by omega, by omega⟩
      rw [if_pos h]
      congr 1
      unfold wrap64
      omega
    · refine ⟨Int.tmod a n, ?_, by omega, by omega⟩
      rw [if_neg h]
  obtain ⟨z, h, h0, hz⟩ := key
  obtain ⟨m, rfl⟩ := Int.eq_ofNat_of_zero_le h0
  exact ⟨m, h, hz⟩

theorem known_f : hypercubelaw10_known.f = some true := by decide +kernel
theorem within1_f (a n : Int) (hn : 0 < n) (h2 : n ≤ 4611686018427387904) : ∃ z, hypercubelaw1_within.f a n = some z ∧ 0 ≤ z ∧ z < n := by
  have h1 := Int.tmod_lt_of_pos a hn
  have h3 := Int.tmod_lt_of_pos (-a) hn
  rw [Int.neg_tmod] at h3
  unfold hypercubelaw1_within.f
  rw [if_neg (by omega)]
  by_cases h : Int.tmod a n < 0
  · refine ⟨Int.tmod a n + n, ?_, by omega, by omega⟩
    rw [if_pos h]
    congr 1
    unfold wrap64
    omega
  · refine ⟨Int.tmod a n, ?_, by omega, by omega⟩
    rw [if_neg h]

theorem facts_step (k : Nat) (a0 d : Int) (l1 : List Int) (i : Int) (cs : List Int) (m : Int) (hd : hypercubelaw1_within.f a0 4 = some d) (h0 : 0 ≤ i) (hi : i ≤ d) (hd3 : d ≤ 3) (hcs : cs.length ≤ 16) :
    ∃ c, 1 ≤ c ∧ c ≤ 5 ∧ hypercubelaw1_Facts.l0 (k + 1) a0 l1 [] i cs m = hypercubelaw1_Facts.l0 k a0 l1 [] (i + 1) (cs ++ [c]) m := by
  have hw : wrap64 (i + 1) = i + 1 := by unfold wrap64; omega
  by_cases hl : i < (l1.length : Int)
  · obtain ⟨z, hz, hz0, hz1⟩ := within1_f (rd l1 i) 5 (by decide) (by decide)
    refine ⟨1 + z, by omega, by omega, ?_⟩
    have hw2 : wrap64 (1 + z) = 1 + z := by unfold wrap64; omega
    simp only [hypercubelaw1_Facts.l0]
    rw [hd]
    simp only [Option.bind_some]
    rw [if_pos hi, if_pos hl, if_pos h0, hz]
    simp only [Option.bind_some]
    rw [if_pos (by omega), hw, hw2]
  · obtain ⟨z, hz, hz0, hz1⟩ := within1_f (wrap64 (i + 2)) 5 (by decide) (by decide)
    refine ⟨1 + z, by omega, by omega, ?_⟩
    have hw2 : wrap64 (1 + z) = 1 + z := by unfold wrap64; omega
    simp only [hypercubelaw1_Facts.l0]
    rw [hd]
    simp only [Option.bind_some]
    rw [if_pos hi, if_neg hl, hz]
    simp only [Option.bind_some]
    rw [if_pos (by omega), hw, hw2]

theorem facts_end (k : Nat) (a0 d : Int) (l1 : List Int) (i : Int) (cs : List Int) (m : Int) (hd : hypercubelaw1_within.f a0 4 = some d) (hi : d < i) (hcs : 0 < cs.length) :
    ∃ b : Bool, hypercubelaw1_Facts.l0 (k + 4) a0 l1 [] i cs m = some (if b then cs.set 0 16 else cs, m, []) := by
  obtain ⟨z, hz, hz0, hz1⟩ := within1_f a0 7 (by decide) (by decide)
  refine ⟨decide (z = 0), ?_⟩
  simp only [hypercubelaw1_Facts.l0]
  rw [hd]
  simp only [Option.bind_some]
  rw [if_neg (by omega), hz]
  simp only [Option.bind_some]
  by_cases h : z = 0
  · rw [if_pos h, if_pos (by omega)]
    simp [hypercubelaw1_Facts.j1, hypercubelaw1_Facts.l1, hypercubelaw1_Facts.j3, h]
  · rw [if_neg h]
    simp [hypercubelaw1_Facts.j1, hypercubelaw1_Facts.l1, hypercubelaw1_Facts.j3, h]

/-- A schema of numbers: one to four cards, each 1 to 16; no rows of no numbers. -/
theorem facts_nil (a0 : Int) (l1 : List Int) (a2 : Int) : ∃ (cs : List Int) (m : Int), hypercubelaw1_Facts.f 8 a0 l1 a2 [] = some (cs, m, []) ∧
    1 ≤ cs.length ∧ cs.length ≤ 4 ∧ (∀ c ∈ cs, 1 ≤ c ∧ c ≤ 16) ∧ 0 ≤ m ∧ m ≤ 2 := by
  obtain ⟨m, hm, hm0, hm1⟩ := within1_f a2 3 (by decide) (by decide)
  obtain ⟨d, hd, hd0, hd1⟩ := within1_f a0 4 (by decide) (by decide)
  have fin : ∀ (k : Nat) (i : Int) (cs : List Int), d < i → 0 < cs.length → cs.length ≤ 4 → (∀ c ∈ cs, 1 ≤ c ∧ c ≤ 5) →
      ∃ (r : List Int), hypercubelaw1_Facts.l0 (k + 4) a0 l1 [] i cs m = some (r, m, []) ∧ 1 ≤ r.length ∧ r.length ≤ 4 ∧ (∀ c ∈ r, 1 ≤ c ∧ c ≤ 16) := by
    intro k i cs h1 h2 h3 h4
    obtain ⟨b, hb⟩ := facts_end k a0 d l1 i cs m hd h1 h2
    refine ⟨_, hb, ?_, ?_, ?_⟩
    · cases b <;> simp <;> omega
    · cases b <;> simp <;> omega
    · intro c hc
      cases b with
      | false =>
        have := h4 c (by simpa using hc)
        omega
      | true =>
        have hc' : c ∈ cs.set 0 16 := by simpa using hc
        rcases List.mem_or_eq_of_mem_set hc' with h | h
        · have := h4 c h
          omega
        · omega
  have all : ∃ (r : List Int), hypercubelaw1_Facts.l0 8 a0 l1 [] 0 [] m = some (r, m, []) ∧ 1 ≤ r.length ∧ r.length ≤ 4 ∧ (∀ c ∈ r, 1 ≤ c ∧ c ≤ 16) := by
    obtain ⟨c0, h00, h01, e0⟩ := facts_step 7 a0 d l1 0 [] m hd (by omega) (by omega) (by omega) (by simp)
    rw [e0]
    by_cases g1 : d < 1
    · exact fin 3 _ _ (by omega) (by simp) (by simp) (by simp; omega)
    obtain ⟨c1, h10, h11, e1⟩ := facts_step 6 a0 d l1 (0 + 1) ([] ++ [c0]) m hd (by omega) (by omega) (by omega) (by simp)
    rw [e1]
    by_cases g2 : d < 2
    · exact fin 2 _ _ (by omega) (by simp) (by simp) (by simp; omega)
    obtain ⟨c2, h20, h21, e2⟩ := facts_step 5 a0 d l1 (0 + 1 + 1) ([] ++ [c0] ++ [c1]) m hd (by omega) (by omega) (by omega) (by simp)
    rw [e2]
    by_cases g3 : d < 3
    · exact fin 1 _ _ (by omega) (by simp) (by simp) (by simp; omega)
    obtain ⟨c3, h30, h31, e3⟩ := facts_step 4 a0 d l1 (0 + 1 + 1 + 1) ([] ++ [c0] ++ [c1] ++ [c2]) m hd (by omega) (by omega) (by omega) (by simp)
    rw [e3]
    exact fin 0 _ _ (by omega) (by simp) (by simp) (by simp; omega)
  obtain ⟨r, hr, h1, h2, h3⟩ := all
  refine ⟨r, m, ?_, h1, h2, h3, hm0, by omega⟩
  unfold hypercubelaw1_Facts.f
  rw [hm]
  simp only [Option.bind_some]
  exact hr

theorem facts_of (K : Nat) (hK : 8 ≤ K) (a0 : Int) (l1 : List Int) : ∃ (cs : List Int) (m : Int), hypercubelaw1_Facts.f K a0 l1 0 [] = some (cs, m, []) ∧ 1 ≤ cs.length ∧ cs.length ≤ 4 ∧ (∀ c ∈ cs, 1 ≤ c ∧ c ≤ 16) ∧ okCards cs = true := by
  obtain ⟨cs, m, h, h1, h2, h3, _⟩ := facts_nil a0 l1 0
  exact ⟨cs, m, at_rounds (fun k => hypercubelaw1_Facts.mono _ _ _ _ k) hK h, h1, h2, h3, okCards_of h2 (fun x hx => ⟨by have := h3 x hx; omega, (h3 x hx).2⟩)⟩
open Go.Proofs.Ytlplaidcdocbmaa.Srt
def mkE (e : Ed) : S49 := S49.mk e.set e.par e.scan
theorem planE_eq (cs : List Int) (n : Int) : planE S49.mk cs n = (planS (scanC cs n) (sortC cs n) cs.length).map mkE := rfl
theorem rd_map (o : List Ed) (i : Nat) : rd_T49 (o.map mkE) (i : Int) = ⟨(o.getD i ed0).set, (o.getD i ed0).par, (o.getD i ed0).scan⟩ := by
  unfold rd_T49
  rw [Int.toNat_natCast]
  simp only [List.getD_eq_getElem?_getD, List.getElem?_map]
  cases o[i]? <;> rfl
theorem rd_mapE (o : List Ed) (i : Nat) : rd_T49 (o.map mkE) (i : Int) = mkE (o.getD i ed0) := rd_map o i
theorem plan_f (cs : List Int) (m n : Int) (hok : okCards cs = true) (h1 : ∀ x ∈ cs, 1 ≤ x) (h0 : 0 ≤ n) (hn : n ≤ 300) : sorts_Plan.f cs m n = some ((planS (scanC cs n) (sortC cs n) cs.length).map mkE) := by
  unfold sorts_Plan.f
  rw [if_pos (okP_of hok h1 h0 hn), planE_eq]
theorem w64n (j : Nat) (h : j ≤ 1000) : wrap64 ((j : Int) + 1) = ((j + 1 : Nat) : Int) := next_fin j h
theorem level_ref0 : ∀ s : Nat, s < 16 → hypercuberef8_Level.f 20 (s : Int) = some ((lev s : Nat) : Int) := by decide +kernel
theorem level_ref (k : Nat) (hk : 20 ≤ k) (s : Nat) (hs : s < 16) : hypercuberef8_Level.f k (s : Int) = some ((lev s : Nat) : Int) := at_rounds (fun k => hypercuberef8_Level.mono _ k) hk (level_ref0 s hs)
theorem l1_ok (d : Nat) (E : List Ed) (hd : d < 5) (hE : E.length ≤ 16)
    (hc : ∀ l, l < d → cntN (·.scan) E l ≤ cntN (fun _ => true) E (l + 1) ∧ cntN (·.scan) E l ≤ cntN (fun _ => true) E l ∧ 1 ≤ cntN (·.scan) E l) (ht : cntN (·.scan) E d = 0) :
    ∀ (q l : Nat), l + q = d → ∃ k, hypercubelaw10_SortsLevels.l1 k (d : Int) (cntL (·.scan) d E) (cntL (fun _ => true) d E) (l : Int) = some true
  | 0, l, hl => by
    have e : l = d := by omega
    subst e
    refine ⟨1, ?_⟩
    simp only [hypercubelaw10_SortsLevels.l1]
    rw [if_neg (by omega), if_pos (by omega), if_pos (by rw [cntL_len]; omega), rdn, cntL_get _ _ _ _ (Nat.le_refl _), ht]
    rfl
  | q + 1, l, hl => by
    obtain ⟨k, ih⟩ := l1_ok d E hd hE hc ht q (l + 1) (by omega)
    obtain ⟨h1, h2, h3⟩ := hc l (by omega)
    have hn1 := Aside0.mk (w64n l (by omega))
    refine ⟨k + 1, ?_⟩
    simp only [hypercubelaw10_SortsLevels.l1]
    rw [hn1.out]
    rw [if_pos (by omega), if_pos (by omega), if_pos (by rw [cntL_len]; omega), if_pos (by omega), if_pos (by rw [cntL_len]; omega), rdn, rdn, rdn,
      cntL_get _ _ _ _ (show l ≤ d by omega), cntL_get _ _ _ _ (show l + 1 ≤ d by omega), cntL_get _ _ _ _ (show l ≤ d by omega), if_neg (by omega), if_pos (by rw [cntL_len]; omega), if_neg (by omega), if_neg (by omega)]
    exact ih
theorem l0_ok (d : Nat) (E : List Ed) (hd : d < 5) (hR : RightPlan d E)
    (hfin : ∃ k, hypercubelaw10_SortsLevels.l1 k (d : Int) (cntL (·.scan) d E) (cntL (fun _ => true) d E) 0 = some true) :
    ∀ (q i : Nat), i + q = E.length → ∃ k, hypercubelaw10_SortsLevels.l0 k (E.map mkE) (d : Int) (cntL (·.scan) d (E.take i)) (cntL (fun _ => true) d (E.take i)) (i : Int) = some true
  | 0, i, hi => by
    obtain ⟨k, hk⟩ := hfin
    refine ⟨k + 1, ?_⟩
    simp only [hypercubelaw10_SortsLevels.l0]
    rw [if_neg (by rw [List.length_map]; omega), List.take_of_length_le (by omega)]
    exact hk
  | q + 1, i, hi => by
    obtain ⟨k, ih⟩ := l0_ok d E hd hR hfin q (i + 1) (by omega)
    obtain ⟨r1, r2, r3⟩ := right_at_i hd hR
    have hle : 2 ^ d ≤ 16 := Nat.pow_le_pow_right (by omega) (show d ≤ 4 by omega)
    have hlt : i < E.length := by omega
    obtain ⟨a1, a2, a3⟩ := r3 i hlt
    have hs := ((sets_fin d hd).2 i (by omega)).1
    have htk : E.take (i + 1) = E.take i ++ [E.getD i ed0] := by rw [getD_of_lt _ _ _ hlt]; exact List.take_succ_eq_append_getElem hlt
    have hgx : ∀ x : Int, x = (i : Int) → rd_T49 (E.map mkE) x = mkE (E.getD i ed0) := fun x hx => by rw [hx]; exact rd_mapE E i
    have hrd := rd_mapE E i
    have hn1 := Aside0.mk (w64n i (by omega))
    have hlen : (E.map mkE).length = E.length := List.length_map ..
    rw [htk] at ih
    generalize hee : E.getD i ed0 = e at *
    generalize hss : (sets d).getD i 0 = s at *
    have hst : e.set.toNat = s := by rw [a1]; simp
    have hlv := lev_le d hd s hs
    have hcb := fun p => cntN_le p (E.take i) (lev s)
    have hcl : (E.take i).length ≤ 16 := by rw [List.length_take]; omega
    have hw := fun p => Aside0.mk (w64n (cntN p (E.take i) (lev s)) (by have := hcb p; omega))
    have y1 := cntL_yes (fun _ => true) d (E.take i) e rfl (by rw [hst]; exact hlv)
    have y2 : e.scan = true → _ := fun h => cntL_yes (·.scan) d (E.take i) e h (by rw [hst]; exact hlv)
    have y3 : e.scan = false → _ := fun h => cntL_no (·.scan) d (E.take i) e h
    rw [hst] at y1 y2
    have hj : hypercubelaw10_SortsLevels.j1 (k + 20 + 1) (E.map mkE) (d : Int) (cntL (·.scan) d (E.take i)) (cntL (fun _ => true) d (E.take i)) (i : Int) ((lev s : Nat) : Int) false = some true := by
      have ih2 := at_rounds (fun k => (hypercubelaw10_SortsLevels.mono_l k).1 _ _ _ _ _) (show k ≤ k + 20 by omega) ih
      have g1 : rd (cntL (fun _ => true) d (E.take i)) ((lev s : Nat) : Int) = ((cntN (fun _ => true) (E.take i) (lev s) : Nat) : Int) := by rw [rdn, cntL_get _ _ _ _ hlv]
      have g2 : rd (cntL (·.scan) d (E.take i)) ((lev s : Nat) : Int) = ((cntN (·.scan) (E.take i) (lev s) : Nat) : Int) := by rw [rdn, cntL_get _ _ _ _ hlv]
      simp only [hypercubelaw10_SortsLevels.j1]
      rw [if_neg (by decide), if_pos (by omega), if_pos (by rw [cntL_len]; omega), Option.bind_some, if_pos (by omega), if_pos (by rw [hlen]; omega), hrd, g1, hn1.out, (hw (fun _ => true)).out, Int.toNat_natCast]
      have e1 : (((cntN (fun _ => true) (E.take i) (lev s) + 1 : Nat) : Int)) = ((cntN (fun _ => true) (E.take i) (lev s) : Nat) : Int) + 1 := by omega
      rw [e1, y1]
      show (if e.scan = true then _ else _) = _
      cases hsc : e.scan with
      | true =>
        rw [if_pos rfl, if_pos (by rw [cntL_len]; omega), g2, (hw (·.scan)).out]
        have e2 : (((cntN (·.scan) (E.take i) (lev s) + 1 : Nat) : Int)) = ((cntN (·.scan) (E.take i) (lev s) : Nat) : Int) + 1 := by omega
        rw [e2, y2 hsc]
        exact ih2
      | false =>
        rw [if_neg (by decide)]
        rw [y3 hsc] at ih2
        exact ih2
    refine ⟨k + 20 + 1 + 1, ?_⟩
    have L1 := level_ref (k + 20 + 1) (by omega) s (by omega)
    have hK : ∀ p : Nat, p < 16 → _ := fun p hp => level_ref (k + 20 + 1) (by omega) p hp
    generalize k + 20 + 1 = K at *
    simp only [hypercubelaw10_SortsLevels.l0]
    rw [if_pos (by rw [hlen]; omega), if_pos (by omega), hrd]
    show ((hypercuberef8_Level.f K e.set).bind fun t206 => (if e.par ≥ 0 then _ else _)) = _
    rw [a1, L1, Option.bind_some]
    by_cases hi0 : i = 0
    · have hp := (a2 hi0).1
      rw [if_neg (by omega), decide_eq_false (by omega)]
      exact hj
    · obtain ⟨p, hp, hm⟩ := a3 hi0
      have hp16 := par_small hd hs hm
      have hpl := (par_level d hd s hs p hm).2
      have L2 := hK p hp16
      rw [if_pos (by omega)]
      show ((hypercuberef8_Level.f K e.par).bind fun t209 => _) = _
      rw [hp, L2, Option.bind_some, hpl, w64n _ (by omega), if_pos rfl, decide_eq_false (by omega)]
      exact hj
end SortsLevelsp
open SortsLevelsp
open Go.Proofs.Ytlplaidcdocbmaa.Srt
theorem SortsLevels : hypercubelaw10_SortsLevels.Pure := by
  intro a0 l1 a2 _ _ _ _ _
  obtain ⟨z, hz, hzl⟩ := SortsLevelsp.within_f a2 300 (by decide) (by decide)
  obtain ⟨cs, m, hF, c1, c4, cr, hok⟩ := SortsLevelsp.facts_of 8 (Nat.le_refl _) a0 l1
  have h1 : ∀ x ∈ cs, 1 ≤ x := fun x hx => (cr x hx).1
  have ew := Aside0.mk (w64 (1 + (z : Int)) (by omega) (by omega))
  have hd : cs.length < 5 := by omega
  have C := cheap_of h1 (show 0 ≤ 1 + (z : Int) ∧ 1 + (z : Int) ≤ 300 by omega)
  have hst := less_of h1 (show 1 ≤ 1 + (z : Int) ∧ 1 + (z : Int) ≤ 300 by omega)
  have hR := plan_right C hd
  have hP := SortsLevelsp.plan_f cs m _ hok h1 (show 0 ≤ 1 + (z : Int) by omega) (show 1 + (z : Int) ≤ 300 by omega)
  have hsome := fun l hl => scans_some C hst hd (l := l) hl
  obtain ⟨r1, r2, r3⟩ := right_at_i hd hR
  have hle : 2 ^ cs.length ≤ 16 := Nat.pow_le_pow_right (by omega) (show cs.length ≤ 4 by omega)
  generalize planS (scanC cs (1 + (z : Int))) (sortC cs (1 + (z : Int))) cs.length = E at *
  have h2 := SortsLevelsp.l1_ok cs.length E hd (by omega) (fun l hl => ⟨by rw [cnt_sets hd hR]; exact scans_le_above hd hR l, scans_le_sets E l, hsome l hl⟩) (scans_top hd hR) cs.length 0 (by omega)
  obtain ⟨k1, e1⟩ := SortsLevelsp.l0_ok cs.length E hd hR h2 E.length 0 (by omega)
  rw [List.take_zero, cntL_nil, cntL_nil] at e1
  refine ⟨k1 + 8, ?_⟩
  have e0 : hypercubelaw1_Facts.f (k1 + 8) a0 l1 0 [] = some (cs, m, []) := at_rounds (fun k => hypercubelaw1_Facts.mono _ _ _ _ k) (by omega) hF
  have e2 := at_rounds (fun k => (hypercubelaw10_SortsLevels.mono_l k).1 _ _ _ _ _) (show k1 ≤ k1 + 8 by omega) e1
  have hn1 := Aside0.mk (SortsLevelsp.w64n cs.length (by omega))
  unfold hypercubelaw10_SortsLevels.f
  rw [SortsLevelsp.known_f, Option.bind_some, if_pos rfl, e0, Option.bind_some, hz, Option.bind_some]
  dsimp only
  rw [ew.out, hP, Option.bind_some, hn1.out, if_pos (by omega), Int.toNat_natCast, if_pos (by omega)]
  exact e2

end Go.Proofs.Ytlplaidcdocbmaa.Pure
