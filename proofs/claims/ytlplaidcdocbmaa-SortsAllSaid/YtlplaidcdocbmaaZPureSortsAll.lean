-- Cut by pack.py, a program of this session; not trusted: Lean checks it.
import Derived.Test.YtlplaidcdocbmaaZG5
import Derived.Test.YtlplaidcdocbmaaZPSortsAllx14
/- SortsAll: its plain side. -/
namespace Go.Proofs.Ytlplaidcdocbmaa.Pure
open Go.RowKit Go.Proofs.Ytlplaidcdocbmaa.PSortsAll Go.Proofs.YtlplaidcdocbmaaW.PrintWords Go.Proofs.YtlplaidcdocbmaaW.PrintLast Go.Proofs.YtlplaidcdocbmaaW.PrintMore Go.Proofs.Ytlplaidcdocbmaa.Core
set_option linter.unusedVariables false
set_option linter.unusedSimpArgs false
set_option linter.unusedSectionVars false
namespace SortsAllp
theorem within_f (a n : Int) (hn : 0 < n) (h2 : n ≤ 4611686018427387904) : ∃ z : Nat, hypercubelaw10_within.f a n = some (z : Int) ∧ (z : Int) < n := by
  have h1 := Int.tmod_lt_of_pos a hn
  have h3 := Int.tmod_lt_of_pos (-a) hn
  rw [Int.neg_tmod] at h3
  have key : ∃ z : Int, hypercubelaw10_within.f a n = some z ∧ 0 ≤ z ∧ z < n := by
    unfold hypercubelaw10_within.f
    rw [if_neg (by omega)]
    by_cases h : Int.tmod a n < 0
    · refine ⟨Int.tmod a n + n, ?_, by omega, by omega⟩
      rw [if_pos h]
      congr 1
      unfold wrap64
      omega
    · refine ⟨Int.tmod a n, ?_, by omega, by omega⟩
      rw [if_neg h]
  obtain ⟨z, h, h0, hz⟩ := key
  obtain ⟨m, rfl⟩ := Int.eq_ofNat_of_zero_le h0
  exact ⟨m, h, hz⟩

theorem known_f : hypercubelaw10_known.f = some true := by decide +kernel
theorem within1_f (a n : Int) (hn : 0 < n) (h2 : n ≤ 4611686018427387904) : ∃ z, hypercubelaw1_within.f a n = some z ∧ 0 ≤ z ∧ z < n := by
  have h1 := Int.tmod_lt_of_pos a hn
  have h3 := Int.tmod_lt_of_pos (-a) hn
  rw [Int.neg_tmod] at h3
  unfold hypercubelaw1_within.f
  rw [if_neg (by omega)]
  by_cases h : Int.tmod a n < 0
  · refine ⟨Int.tmod a n + n, ?_, by omega, by omega⟩
    rw [if_pos h]
    congr 1
    unfold wrap64
    omega
  · refine ⟨Int.tmod a n, ?_, by omega, by omega⟩
    rw [if_neg h]

theorem facts_step (k : Nat) (a0 d : Int) (l1 : List Int) (i : Int) (cs : List Int) (m : Int) (hd : hypercubelaw1_within.f a0 4 = some d) (h0 : 0 ≤ i) (hi : i ≤ d) (hd3 : d ≤ 3) (hcs : cs.length ≤ 16) :
    ∃ c, 1 ≤ c ∧ c ≤ 5 ∧ hypercubelaw1_Facts.l0 (k + 1) a0 l1 [] i cs m = hypercubelaw1_Facts.l0 k a0 l1 [] (i + 1) (cs ++ [c]) m := by
  have hw : wrap64 (i + 1) = i + 1 := by unfold wrap64; omega
  by_cases hl : i < (l1.length : Int)
  · obtain ⟨z, hz, hz0, hz1⟩ := within1_f (rd l1 i) 5 (by decide) (by decide)
    refine ⟨1 + z, by omega, by omega, ?_⟩
    have hw2 : wrap64 (1 + z) = 1 + z := by unfold wrap64; omega
    simp only [hypercubelaw1_Facts.l0]
    rw [hd]
    simp only [Option.bind_some]
    rw [if_pos hi, if_pos hl, if_pos h0, hz]
    simp only [Option.bind_some]
    rw [if_pos (by omega), hw, hw2]
  · obtain ⟨z, hz, hz0, hz1⟩ := within1_f (wrap64 (i + 2)) 5 (by decide) (by decide)
    refine ⟨1 + z, by omega, by omega, ?_⟩
    have hw2 : wrap64 (1 + z) = 1 + z := by unfold wrap64; omega
    simp only [hypercubelaw1_Facts.l0]
    rw [hd]
    simp only [Option.bind_some]
    rw [if_pos hi, if_neg hl, hz]
    simp only [Option.bind_some]
    rw [if_pos (by omega), hw, hw2]

theorem facts_end (k : Nat) (a0 d : Int) (l1 : List Int) (i : Int) (cs : List Int) (m : Int) (hd : hypercubelaw1_within.f a0 4 = some d) (hi : d < i) (hcs : 0 < cs.length) :
    ∃ b : Bool, hypercubelaw1_Facts.l0 (k + 4) a0 l1 [] i cs m = some (if b then cs.set 0 16 else cs, m, []) := by
  obtain ⟨z, hz, hz0, hz1⟩ := within1_f a0 7 (by decide) (by decide)
  refine ⟨decide (z = 0), ?_⟩
  simp only [hypercubelaw1_Facts.l0]
  rw [hd]
  simp only [Option.bind_some]
  rw [if_neg (by omega), hz]
  simp only [Option.bind_some]
  by_cases h : z = 0
  · rw [if_pos h, if_pos (by omega)]
    simp [hypercubelaw1_Facts.j1, hypercubelaw1_Facts.l1, hypercubelaw1_Facts.j3, h]
  · rw [if_neg h]
    simp [hypercubelaw1_Facts.j1, hypercubelaw1_Facts.l1, hypercubelaw1_Facts.j3, h]

/-- A schema of numbers: one to four cards, each 1 to 16; no rows of no numbers. -/
theorem facts_nil (a0 : Int) (l1 : List Int) (a2 : Int) : ∃ (cs : List Int) (m : Int), hypercubelaw1_Facts.f 8 a0 l1 a2 [] = some (cs, m, []) ∧
    1 ≤ cs.length ∧ cs.length ≤ 4 ∧ (∀ c ∈ cs, 1 ≤ c ∧ c ≤ 16) ∧ 0 ≤ m ∧ m ≤ 2 := by
  obtain ⟨m, hm, hm0, hm1⟩ := within1_f a2 3 (by decide) (by decide)
  obtain ⟨d, hd, hd0, hd1⟩ := within1_f a0 4 (by decide) (by decide)
  have fin : ∀ (k : Nat) (i : Int) (cs : List Int), d < i → 0 < cs.length → cs.length ≤ 4 → (∀ c ∈ cs, 1 ≤ c ∧ c ≤ 5) →
      ∃ (r : List Int), hypercubelaw1_Facts.l0 (k + 4) a0 l1 [] i cs m = some (r, m, []) ∧ 1 ≤ r.length ∧ r.length ≤ 4 ∧ (∀ c ∈ r, 1 ≤ c ∧ c ≤ 16) := by
    intro k i cs h1 h2 h3 h4
    obtain ⟨b, hb⟩ := facts_end k a0 d l1 i cs m hd h1 h2
    refine ⟨_, hb, ?_, ?_, ?_⟩
    · cases b <;> simp <;> omega
    · cases b <;> simp <;> omega
    · intro c hc
      cases b with
      | false =>
        have := h4 c (by simpa using hc)
        omega
      | true =>
        have hc' : c ∈ cs.set 0 16 := by simpa using hc
        rcases List.mem_or_eq_of_mem_set hc' with h | h
        · have := h4 c h
          omega
        · omega
  have all : ∃ (r : List Int), hypercubelaw1_Facts.l0 8 a0 l1 [] 0 [] m = some (r, m, []) ∧ 1 ≤ r.length ∧ r.length ≤ 4 ∧ (∀ c ∈ r, 1 ≤ c ∧ c ≤ 16) := by
    obtain ⟨c0, h00, h01, e0⟩ := facts_step 7 a0 d l1 0 [] m hd (by omega) (by omega) (by omega) (by simp)
    rw [e0]
    by_cases g1 : d < 1
    · exact fin 3 _ _ (by omega) (by simp) (by simp) (by simp; omega)
    obtain ⟨c1, h10, h11, e1⟩ := facts_step 6 a0 d l1 (0 + 1) ([] ++ [c0]) m hd (by omega) (by omega) (by omega) (by simp)
    rw [e1]
    by_cases g2 : d < 2
    · exact fin 2 _ _ (by omega) (by simp) (by simp) (by simp; omega)
    obtain ⟨c2, h20, h21, e2⟩ := facts_step 5 a0 d l1 (0 + 1 + 1) ([] ++ [c0] ++ [c1]) m hd (by omega) (by omega) (by omega) (by simp)
    rw [e2]
    by_cases g3 : d < 3
    · exact fin 1 _ _ (by omega) (by simp) (by simp) (by simp; omega)
    obtain ⟨c3, h30, h31, e3⟩ := facts_step 4 a0 d l1 (0 + 1 + 1 + 1) ([] ++ [c0] ++ [c1] ++ [c2]) m hd (by omega) (by omega) (by omega) (by simp)
    rw [e3]
    exact fin 0 _ _ (by omega) (by simp) (by simp) (by simp; omega)
  obtain ⟨r, hr, h1, h2, h3⟩ := all
  refine ⟨r, m, ?_, h1, h2, h3, hm0, by omega⟩
  unfold hypercubelaw1_Facts.f
  rw [if_pos rfl]
  rw [hm]
  simp only [Option.bind_some]
  exact hr

theorem facts_of (K : Nat) (hK : 8 ≤ K) (a0 : Int) (l1 : List Int) : ∃ (cs : List Int) (m : Int), hypercubelaw1_Facts.f K a0 l1 0 [] = some (cs, m, []) ∧ 1 ≤ cs.length ∧ cs.length ≤ 4 ∧ (∀ c ∈ cs, 1 ≤ c ∧ c ≤ 16) ∧ okCards cs = true := by
  obtain ⟨cs, m, h, h1, h2, h3, _⟩ := facts_nil a0 l1 0
  exact ⟨cs, m, at_rounds (fun k => hypercubelaw1_Facts.mono _ _ _ _ k) hK h, h1, h2, h3, okCards_of h2 (fun x hx => ⟨by have := h3 x hx; omega, (h3 x hx).2⟩)⟩
theorem refsize_l (cs : List Int) (m n : Int) (s : Nat) (hs : s < 16) (hok : okCards cs = true) : ∀ (d i : Nat), i + d = cs.length → ∀ k, hypercuberef8_Size.l0 (k + d + 1) n s (upTo cs s i) (i : Int) cs m = some (sizeI cs n s)
  | 0, i, hi, k => by
    have hlen := okCards_len hok
    have e : i = cs.length := by omega
    subst e
    simp only [hypercuberef8_Size.l0]
    rw [if_neg (by omega), mn_eq, upTo_end]
  | d + 1, i, hi, k => by
    have hlen := okCards_len hok
    have ih := refsize_l cs m n s hs hok d (i + 1) (by omega) k
    obtain ⟨b1, b2⟩ := bit_fin s hs i (by omega)
    have bd := upTo_bd cs s (i + 1) hok (by omega)
    have hn1 := Aside0.mk (next_fin i (by omega))
    show hypercuberef8_Size.l0 ((k + d + 1) + 1) n s (upTo cs s i) (i : Int) cs m = _
    generalize k + d + 1 = K at *
    simp only [hypercuberef8_Size.l0]
    rw [if_pos (by omega), if_pos b1]
    cases hb : s.testBit i with
    | true =>
      rw [hb] at b2
      rw [if_pos (of_decide_eq_true b2), if_pos (by omega), hn1.out, rdn]
      rw [upTo_yes cs s i hb] at bd ih
      rw [w64 _ (by omega) (by omega)]
      exact ih
    | false =>
      rw [hb] at b2
      rw [if_neg (of_decide_eq_false b2), hn1.out]
      rw [upTo_no cs s i hb] at ih
      exact ih
theorem refsize_f (cs : List Int) (m n : Int) (s : Nat) (hs : s < 16) (hok : okCards cs = true) : hypercuberef8_Size.f 20 cs m n s = some (sizeI cs n s) := by
  have hlen := okCards_len hok
  have h := refsize_l cs m n s hs hok cs.length 0 (by omega) (19 - cs.length)
  rw [show 19 - cs.length + cs.length + 1 = 20 by omega] at h
  exact h
theorem refsort_l : ∀ z : Nat, z < 301 → hypercuberef8_Sort.l0 20 z 0 z = some (sortI z) := by decide +kernel
theorem refsort_f (cs : List Int) (m n : Int) (s : Nat) (hs : s < 16) (hok : okCards cs = true) (h1 : ∀ x ∈ cs, 1 ≤ x) (hn : 0 ≤ n ∧ n ≤ 300) : hypercuberef8_Sort.f 20 cs m n s = some (sortI (sizeI cs n s)) := by
  obtain ⟨b1, b2, _⟩ := sizeI_bd cs h1 n s hn.1
  unfold hypercuberef8_Sort.f
  rw [refsize_f cs m n s hs hok, Option.bind_some]
  generalize sizeI cs n s = z at *
  obtain ⟨k, rfl⟩ := Int.eq_ofNat_of_zero_le b1
  exact refsort_l k (by omega)
open Go.Proofs.Ytlplaidcdocbmaa.Srt
def mkE (e : Ed) : S49 := S49.mk e.set e.par e.scan
theorem planE_eq (cs : List Int) (n : Int) : planE S49.mk cs n = (planS (scanC cs n) (sortC cs n) cs.length).map mkE := rfl
theorem rd_map (o : List Ed) (i : Nat) : rd_T49 (o.map mkE) (i : Int) = ⟨(o.getD i ed0).set, (o.getD i ed0).par, (o.getD i ed0).scan⟩ := by
  unfold rd_T49
  rw [Int.toNat_natCast]
  simp only [List.getD_eq_getElem?_getD, List.getElem?_map]
  cases o[i]? <;> rfl
theorem rd_mapE (o : List Ed) (i : Nat) : rd_T49 (o.map mkE) (i : Int) = mkE (o.getD i ed0) := rd_map o i
theorem toEds_map (o : List Ed) : toEds S49.f0 S49.f1 S49.f2 (o.map mkE) = o := by
  unfold toEds
  rw [List.map_map]
  have : (toEd S49.f0 S49.f1 S49.f2 ∘ mkE) = id := by funext e; rfl
  rw [this, List.map_id]
theorem w64n (j : Nat) (h : j ≤ 1000) : wrap64 ((j : Int) + 1) = ((j + 1 : Nat) : Int) := next_fin j h
theorem shl_fin : ∀ d : Nat, d < 5 → 0 ≤ IntKind.u64.wrap (d : Int) ∧ shl .i64 1 (IntKind.u64.wrap (d : Int)) = ((2 ^ d : Nat) : Int) := by decide +kernel

theorem plan_f (cs : List Int) (m n : Int) (hok : okCards cs = true) (h1 : ∀ x ∈ cs, 1 ≤ x) (h0 : 0 ≤ n) (hn : n ≤ 300) : sorts_Plan.f cs m n = some ((planS (scanC cs n) (sortC cs n) cs.length).map mkE) := by
  unfold sorts_Plan.f
  rw [if_pos (okP_of hok h1 h0 hn), planE_eq]

theorem same_l0 (x : List S49) (hx : x.length ≤ 1000) : ∀ (d k i : Nat), i + d = x.length → hypercuberef10_Same.l0 (k + d + 1) x x (i : Int) = some true
  | 0, k, i, h => by
    simp only [hypercuberef10_Same.l0]
    rw [if_neg (by omega)]
  | d + 1, k, i, h => by
    have ih := same_l0 x hx d k (i + 1) (by omega)
    have hw : wrap64 ((i : Int) + 1) = ((i + 1 : Nat) : Int) := by unfold wrap64; omega
    rw [show k + (d + 1) + 1 = (k + d + 1) + 1 by omega]
    generalize k + d + 1 = K at *
    simp only [hypercuberef10_Same.l0]
    rw [if_pos (by omega), if_pos (by omega), if_pos (by omega), if_neg (by simp), hw]
    exact ih
theorem same_f (x : List S49) (hx : x.length ≤ 16) (k : Nat) (hk : 17 ≤ k) : hypercuberef10_Same.f k x x = some true := by
  unfold hypercuberef10_Same.f
  rw [if_pos rfl]
  have := same_l0 x (by omega) x.length (k - x.length - 1) 0 (by omega)
  rw [show k - x.length - 1 + x.length + 1 = k by omega] at this
  exact this

theorem right_f (o : List Ed) (d : Nat) (hd : d < 5) (h : RightPlan d o) : sorts_Right.f (o.map mkE) (d : Int) = some true := by
  unfold sorts_Right.f
  rw [toEds_map, if_pos ⟨⟨by omega, by omega⟩, (right_okW hd h).1⟩]
  rw [Int.toNat_natCast, (rightS_iff d hd o).2 h]

theorem cost_f (cs : List Int) (m n : Int) (o : List Ed) (hok : okCards cs = true) (h1 : ∀ x ∈ cs, 1 ≤ x) (h0 : 0 ≤ n) (hn : n ≤ 300) (ho : okC o = true) : sorts_Cost.f cs m n (o.map mkE) = some (costP (scanC cs n) (sortC cs n) o) := by
  unfold sorts_Cost.f
  rw [toEds_map, if_pos ⟨okP_of hok h1 h0 hn, ho⟩]

theorem par_ref : ∀ d : Nat, d < 5 → ∀ s : Nat, s < 2 ^ d → hypercuberef8_Parents.f 40 (s : Int) (d : Int) = some (ofN (parents s d)) := by decide +kernel
theorem rd_ofN (P : List Nat) (j : Nat) (h : j < P.length) : rd (ofN P) (j : Int) = ((P[j] : Nat) : Int) := by
  rw [rdn]; simp [ofN, List.getD_eq_getElem?_getD, h]
theorem ofN_len (P : List Nat) : (ofN P).length = P.length := by simp [ofN]

theorem refsort_k (q : Nat) (hq : 21 ≤ q) (cs : List Int) (m n : Int) (s : Nat) (hs : s < 16) (hok : okCards cs = true) (h1 : ∀ x ∈ cs, 1 ≤ x) (hn : 0 ≤ n ∧ n ≤ 300) : hypercuberef8_Sort.f q cs m n s = some (sortC cs n s) := at_rounds (fun k => hypercuberef8_Sort.mono _ _ _ _ k) (show 20 ≤ q by omega) (refsort_f cs m n s hs hok h1 hn)
theorem refscan_k (q : Nat) (hq : 21 ≤ q) (cs : List Int) (m n : Int) (s : Nat) (hs : s < 16) (hok : okCards cs = true) : hypercuberef8_Scan.f q cs m n s = some (scanC cs n s) := by
  unfold hypercuberef8_Scan.f
  rw [at_rounds (fun k => hypercuberef8_Size.mono _ _ _ _ k) (show 20 ≤ q by omega) (refsize_f cs m n s hs hok), Option.bind_some]
  rfl

theorem refcost_l0 (cs : List Int) (m n : Int) (hok : okCards cs = true) (h1 : ∀ x ∈ cs, 1 ≤ x) (hn : 0 ≤ n ∧ n ≤ 300) (E : List Ed) (hE : E.length ≤ 16) (hp : ∀ e ∈ E, e.par < 0 ∨ ∃ p : Nat, e.par = (p : Int) ∧ p < 16) :
    ∀ (q i : Nat), i + q = E.length → ∀ k, 21 ≤ k → hypercuberef10_Cost.l0 (k + q + 1) n (E.map mkE) (costP (scanC cs n) (sortC cs n) (E.take i)) (i : Int) cs m = some (costP (scanC cs n) (sortC cs n) E)
  | 0, i, hi, k, hk => by
    simp only [hypercuberef10_Cost.l0]
    rw [if_neg (by rw [List.length_map]; omega), List.take_of_length_le (by omega)]
  | q + 1, i, hi, k, hk => by
    have ih := refcost_l0 cs m n hok h1 hn E hE hp q (i + 1) (by omega) k hk
    have hlt : i < E.length := by omega
    have hn1 := Aside0.mk (w64n i (by omega))
    have htk : E.take (i + 1) = E.take i ++ [E.getD i ed0] := by rw [getD_of_lt _ _ _ hlt]; exact List.take_succ_eq_append_getElem hlt
    have hrd := rd_mapE E i
    have hpi := hp (E.getD i ed0) (by rw [getD_of_lt _ _ _ hlt]; exact List.getElem_mem hlt)
    have hm : (E.map mkE).length = E.length := List.length_map ..
    have C := cheap_of h1 hn
    have hb := costP_bd C (E.take (i + 1)) (fun e he => hp e (List.mem_of_mem_take he))
    have hbl : (E.take (i + 1)).length ≤ 16 := by rw [List.length_take]; omega
    rw [htk, costP_append] at ih hb
    rw [htk] at hbl
    have hcs : ∀ e : Ed, costP (scanC cs n) (sortC cs n) [e] = costE (scanC cs n) (sortC cs n) e := fun e => by unfold costP; simp
    rw [hcs] at ih hb
    generalize E.getD i ed0 = e at *
    have hw := Aside0.mk (w64 (costP (scanC cs n) (sortC cs n) (E.take i) + costE (scanC cs n) (sortC cs n) e) (by omega) (by omega))
    rw [show k + (q + 1) + 1 = (k + q + 1) + 1 by omega]
    have hKq : 21 ≤ k + q + 1 := by omega
    generalize k + q + 1 = K at *
    simp only [hypercuberef10_Cost.l0]
    rw [if_pos (by omega), if_pos (by omega), hrd, hn1.out]
    show (if e.par < 0 then _ else (if e.scan = true then ((hypercuberef8_Scan.f K cs m n e.par).bind fun t => _) else ((hypercuberef8_Sort.f K cs m n e.par).bind fun t => _))) = _
    by_cases h0 : e.par < 0
    · rw [if_pos h0]
      have : costE (scanC cs n) (sortC cs n) e = 0 := by unfold costE; rw [if_pos h0]
      rw [this, Int.add_zero] at ih
      exact ih
    · obtain ⟨p, hpp, hpl⟩ := hpi.resolve_left h0
      rw [if_neg h0, hpp]
      by_cases hs : e.scan = true
      · have : costE (scanC cs n) (sortC cs n) e = scanC cs n p := by unfold costE; rw [if_neg h0, if_pos hs, hpp]; rfl
        rw [if_pos hs, refscan_k K hKq cs m n p hpl hok, Option.bind_some, ← this, hw.out]
        exact ih
      · have : costE (scanC cs n) (sortC cs n) e = sortC cs n p := by unfold costE; rw [if_neg h0, if_neg hs, hpp]; rfl
        rw [if_neg hs, refsort_k K hKq cs m n p hpl hok h1 hn, Option.bind_some, ← this, hw.out]
        exact ih
theorem refcost_f (cs : List Int) (m n : Int) (hok : okCards cs = true) (h1 : ∀ x ∈ cs, 1 ≤ x) (hn : 0 ≤ n ∧ n ≤ 300) (E : List Ed) (hE : E.length ≤ 16) (hp : ∀ e ∈ E, e.par < 0 ∨ ∃ p : Nat, e.par = (p : Int) ∧ p < 16) (k : Nat) (hk : 50 ≤ k) : hypercuberef10_Cost.f k cs m n (E.map mkE) = some (costP (scanC cs n) (sortC cs n) E) := by
  have h := refcost_l0 cs m n hok h1 hn E hE hp E.length 0 (by omega) (k - E.length - 1) (by omega)
  rw [show k - E.length - 1 + E.length + 1 = k by omega] at h
  exact h

theorem and_fin : ∀ a : Nat, a < 16 → ∀ b : Nat, b < 16 → Go.bits .and .i64 (a : Int) (b : Int) = ((a &&& b : Nat) : Int) := by decide +kernel
theorem has_fin : ∀ d : Nat, d < 5 → ∀ l : Nat, l < d → ∀ s ∈ lvl d l, ∀ a ∈ lvl d (l + 1), (parents s d).contains a = decide (a &&& s = s) := by decide +kernel
theorem level_fin : ∀ d : Nat, d < 5 → ∀ l : Nat, l < 5 → hypercuberef10_level.f 120 (d : Int) (l : Int) = some (ofN (lvl d l)) := by decide +kernel
theorem level_k (k : Nat) (hk : 120 ≤ k) (d : Nat) (hd : d < 5) (l : Nat) (hl : l < 5) : hypercuberef10_level.f k (d : Int) (l : Int) = some (ofN (lvl d l)) := at_rounds (fun k => hypercuberef10_level.mono _ _ k) hk (level_fin d hd l hl)
section
variable (cs : List Int) (m n : Int) (hok : okCards cs = true) (h1 : ∀ x ∈ cs, 1 ≤ x) (hn : 0 ≤ n ∧ n ≤ 300)
include hok h1 hn
theorem cheap_l0 (P : List Nat) (hP : ∀ p ∈ P, p < 16) (hl : P.length ≤ 16) : ∀ (q j : Nat), j + q = P.length → 1 ≤ j → ∀ k, 21 ≤ k →
    hypercuberef10_cheapest.l0 (k + q + 1) n (ofN P) ((leastL (sortC cs n) (P.take j) : Nat) : Int) (sortC cs n (leastL (sortC cs n) (P.take j))) (j : Int) cs m = some (((leastL (sortC cs n) P : Nat) : Int), sortC cs n (leastL (sortC cs n) P))
  | 0, j, hj, h1j, k, hk => by
    simp only [hypercuberef10_cheapest.l0]
    rw [if_neg (by rw [ofN_len]; omega), List.take_of_length_le (by omega)]
  | q + 1, j, hj, h1j, k, hk => by
    have hlt : j < P.length := by omega
    have ih := cheap_l0 P hP hl q (j + 1) (by omega) (by omega) k hk
    have hn1 := Aside0.mk (w64n j (by omega))
    have hrd := rd_ofN P j hlt
    have hpj := hP P[j] (List.getElem_mem hlt)
    rw [List.take_succ_eq_append_getElem hlt, leastL_snoc _ _ _ (by intro e; have := congrArg List.length e; rw [List.length_take, List.length_nil] at this; omega)] at ih
    rw [show k + (q + 1) + 1 = (k + q + 1) + 1 by omega]
    have hKq : 21 ≤ k + q + 1 := by omega
    generalize k + q + 1 = K at *
    simp only [hypercuberef10_cheapest.l0]
    rw [if_pos (by rw [ofN_len]; omega), if_pos (by omega), hrd, refsort_k K hKq cs m n _ hpj hok h1 hn, Option.bind_some, hn1.out]
    by_cases hc : sortC cs n P[j] < sortC cs n (leastL (sortC cs n) (P.take j))
    · rw [if_pos hc] at ih ⊢; exact ih
    · rw [if_neg hc] at ih ⊢; exact ih
theorem cheap_k (hd : cs.length < 5) (s : Nat) (hs : s < 2 ^ cs.length) (hne : (parents s cs.length).length ≠ 0) (k : Nat) (hk : 100 ≤ k) :
    hypercuberef10_cheapest.f k cs m n (s : Int) = some (((ownP (sortC cs n) cs.length s : Nat) : Int), sortC cs n (ownP (sortC cs n) cs.length s)) := by
  have hpr := at_rounds (fun k => hypercuberef8_Parents.mono _ _ k) (show 40 ≤ k by omega) (par_ref cs.length hd s hs)
  have hP : ∀ p ∈ parents s cs.length, p < 16 := fun p hp => par_small hd hs hp
  have hle : 2 ^ cs.length ≤ 16 := Nat.pow_le_pow_right (by omega) (show cs.length ≤ 4 by omega)
  have hl := parents_len s cs.length (by omega)
  unfold hypercuberef10_cheapest.f
  rw [hpr, Option.bind_some]
  unfold ownP
  generalize parents s cs.length = P at *
  have h0 : 0 < P.length := by omega
  have hl := cheap_l0 cs m n hok h1 hn P hP (by omega) (P.length - 1) 1 (by omega) (by omega) (k - P.length) (by omega)
  rw [show k - P.length + (P.length - 1) + 1 = k by omega] at hl
  have ht : P.take 1 = [] ++ [P[0]] := by
    cases P with
    | nil => simp at h0
    | cons a l => simp
  rw [ht, leastL_one] at hl
  rw [if_pos (by rw [ofN_len]; omega)]
  have hrd := rd_ofN P 0 h0
  have hrd : rd (ofN P) 0 = ((P[0] : Nat) : Int) := hrd
  rw [hrd, refsort_k k (by omega) cs m n _ (hP _ (List.getElem_mem h0)) hok h1 hn, Option.bind_some]
  exact hl
variable (d : Nat) (hdd : d = cs.length) (hd : d < 5) (A S : List Nat) (L : Lev d A S) (hA : A.length + S.length ≤ 12) (hA16 : ∀ a ∈ A, a < 16) (hS : ∀ s ∈ S, s < 2 ^ d ∧ (parents s d).length ≠ 0) (hhas : ∀ s ∈ S, ∀ a ∈ A, (parents s d).contains a = decide (a &&& s = s))
include hdd hd hA hA16 hS hhas
theorem below_l3 (ks : List Nat) (hks : ks.length = S.length) (hkl : ∀ k ∈ ks, k < A.length + S.length) : ∀ (q i : Nat), i + q = S.length → ∀ k, 100 ≤ k →
    hypercuberef10_below.l3 (k + q + 1) n (ofN S) (ofN A) (ofN ks) (((List.range i).map fun i => edgeAt (sortC cs n) d A S i (ks.getD i 0)).map mkE) (i : Int) cs m = some (((List.range S.length).map fun i => edgeAt (sortC cs n) d A S i (ks.getD i 0)).map mkE)
  | 0, i, hi, k, hk => by
    have e : i = S.length := by omega
    subst e
    simp only [hypercuberef10_below.l3]
    rw [if_neg (by rw [ofN_len]; omega)]
  | q + 1, i, hi, k, hk => by
    have hlt : i < S.length := by omega
    have ih := below_l3 ks hks hkl q (i + 1) (by omega) k hk
    have hn1 := Aside0.mk (w64n i (by omega))
    have hrS : rd (ofN S) (i : Int) = ((S.getD i 0 : Nat) : Int) := by rw [rd_ofN S i hlt, getD_of_lt _ _ _ hlt]
    have hrk : rd (ofN ks) (i : Int) = ((ks.getD i 0 : Nat) : Int) := by rw [rd_ofN ks i (by omega), getD_of_lt _ _ _ (by omega)]
    have hS1 := hS (S.getD i 0) (getD_mem hlt)
    have hK1 := hkl (ks.getD i 0) (getD_mem (by omega))
    have hch := cheap_k cs m n hok h1 hn (by omega) (S.getD i 0) (by rw [← hdd]; exact hS1.1) (by rw [← hdd]; exact hS1.2) (k + q + 1) (by omega)
    rw [← hdd] at hch
    rw [List.range_succ, List.map_append, List.map_append, List.map_singleton, List.map_singleton] at ih
    have hln : (((List.range i).map fun i => edgeAt (sortC cs n) d A S i (ks.getD i 0)).map mkE).length ≤ 1000 := by simp; omega
    rw [show k + (q + 1) + 1 = (k + q + 1) + 1 by omega]
    generalize k + q + 1 = K at *
    simp only [hypercuberef10_below.l3]
    rw [if_pos (by rw [ofN_len]; omega), if_pos (by omega), if_pos (by rw [ofN_len]; omega), hrk, hrS, hn1.out]
    by_cases hc : ks.getD i 0 < A.length
    · have he : edgeAt (sortC cs n) d A S i (ks.getD i 0) = ⟨(S.getD i 0 : Nat), (A.getD (ks.getD i 0) 0 : Nat), true⟩ := by unfold edgeAt; rw [if_pos hc]
      rw [he] at ih
      rw [if_pos (by rw [ofN_len]; omega), if_pos (by omega), if_pos (by omega), rd_ofN A _ hc]
      rw [getD_of_lt A _ _ hc] at ih
      exact ih
    · have he : edgeAt (sortC cs n) d A S i (ks.getD i 0) = ⟨(S.getD i 0 : Nat), (ownP (sortC cs n) d (S.getD i 0) : Nat), false⟩ := by unfold edgeAt; rw [if_neg hc]
      rw [he] at ih
      rw [if_neg (by rw [ofN_len]; omega), hch, Option.bind_some, if_pos (by omega)]
      exact ih
theorem below_l2 (C : List (List Int)) (hC : C.length ≤ 12) (i : Nat) (hi : i < S.length) (r : Option (List S49)) (k0 : Nat)
    (h : ∀ k, k0 ≤ k → hypercuberef10_below.l0 k n (ofN S) (ofN A) (C ++ [costRow (scanC cs n) (sortC cs n) d A S i]) ((i + 1 : Nat) : Int) cs m = r) :
    ∀ (q j : Nat), j + q = S.length → ∀ k, k0 ≤ k → hypercuberef10_below.l2 (k + q + 1) n (ofN S) (ofN A) C (i : Int) ((List.range (A.length + j)).map (entry (scanC cs n) (sortC cs n) d A S i)) (sortC cs n (ownP (sortC cs n) d (S.getD i 0))) (j : Int) cs m = r
  | 0, j, hj, k, hk => by
    have e : j = S.length := by omega
    subst e
    have hn1 := Aside0.mk (w64n i (by omega))
    simp only [hypercuberef10_below.l2]
    rw [if_neg (by rw [ofN_len]; omega), if_pos (by omega), hn1.out]
    exact h k hk
  | q + 1, j, hj, k, hk => by
    have ih := below_l2 C hC i hi r k0 h q (j + 1) (by omega) k hk
    have hn1 := Aside0.mk (w64n j (by omega))
    have hln : ((List.range (A.length + j)).map (entry (scanC cs n) (sortC cs n) d A S i)).length ≤ 1000 := by simp; omega
    rw [show A.length + (j + 1) = A.length + j + 1 by omega, List.range_succ, List.map_append, List.map_singleton] at ih
    rw [show k + (q + 1) + 1 = (k + q + 1) + 1 by omega]
    generalize k + q + 1 = K at *
    simp only [hypercuberef10_below.l2]
    rw [if_pos (by rw [ofN_len]; omega), hn1.out]
    by_cases hc : j = i
    · have he : entry (scanC cs n) (sortC cs n) d A S i (A.length + j) = sortC cs n (ownP (sortC cs n) d (S.getD i 0)) := by
        unfold entry; rw [if_neg (by omega), if_pos (by omega)]
      rw [he] at ih
      rw [if_pos (by omega), if_pos (by omega)]
      exact ih
    · have he : entry (scanC cs n) (sortC cs n) d A S i (A.length + j) = 1000000 := by
        unfold entry; rw [if_neg (by omega), if_neg (by omega)]
      rw [he] at ih
      rw [if_neg (by omega), if_pos (by omega)]
      exact ih
theorem below_l1 (C : List (List Int)) (hC : C.length ≤ 12) (i : Nat) (hi : i < S.length) (r : Option (List S49)) (k0 : Nat) (hk0 : 100 ≤ k0)
    (h : ∀ k, k0 ≤ k → hypercuberef10_below.l2 k n (ofN S) (ofN A) C (i : Int) ((List.range A.length).map (entry (scanC cs n) (sortC cs n) d A S i)) (sortC cs n (ownP (sortC cs n) d (S.getD i 0))) 0 cs m = r) :
    ∀ (q j : Nat), j + q = A.length → ∀ k, k0 ≤ k → hypercuberef10_below.l1 (k + q + 1) n (ofN S) (ofN A) C (i : Int) ((List.range j).map (entry (scanC cs n) (sortC cs n) d A S i)) (j : Int) cs m = r
  | 0, j, hj, k, hk => by
    have e : j = A.length := by omega
    subst e
    have hrS : rd (ofN S) (i : Int) = ((S.getD i 0 : Nat) : Int) := by rw [rd_ofN S i hi, getD_of_lt _ _ _ hi]
    have hS1 := hS (S.getD i 0) (getD_mem hi)
    have hch := cheap_k cs m n hok h1 hn (by omega) (S.getD i 0) (by rw [← hdd]; exact hS1.1) (by rw [← hdd]; exact hS1.2) k (by omega)
    rw [← hdd] at hch
    simp only [hypercuberef10_below.l1, Nat.add_zero]
    rw [if_neg (by rw [ofN_len]; omega), if_pos (by omega), if_pos (by rw [ofN_len]; omega), hrS, hch, Option.bind_some]
    exact h k hk
  | q + 1, j, hj, k, hk => by
    have ih := below_l1 C hC i hi r k0 hk0 h q (j + 1) (by omega) k hk
    have hlt : j < A.length := by omega
    have hn1 := Aside0.mk (w64n j (by omega))
    have hrS : rd (ofN S) (i : Int) = ((S.getD i 0 : Nat) : Int) := by rw [rd_ofN S i hi, getD_of_lt _ _ _ hi]
    have hrA : rd (ofN A) (j : Int) = ((A.getD j 0 : Nat) : Int) := by rw [rd_ofN A j hlt, getD_of_lt _ _ _ hlt]
    have hle : 2 ^ d ≤ 16 := Nat.pow_le_pow_right (by omega) (show d ≤ 4 by omega)
    have hS1 := hS (S.getD i 0) (getD_mem hi)
    have hAm : A.getD j 0 ∈ A := getD_mem hlt
    have hand := and_fin (A.getD j 0) (hA16 _ hAm) (S.getD i 0) (by omega)
    have hh := hhas (S.getD i 0) (getD_mem hi) (A.getD j 0) hAm
    have hsc := refscan_k (k + q + 1) (by omega) cs m n (A.getD j 0) (hA16 _ hAm) hok
    have hln : ((List.range j).map (entry (scanC cs n) (sortC cs n) d A S i)).length ≤ 1000 := by simp; omega
    rw [List.range_succ, List.map_append, List.map_singleton] at ih
    rw [show k + (q + 1) + 1 = (k + q + 1) + 1 by omega]
    generalize k + q + 1 = K at *
    simp only [hypercuberef10_below.l1]
    rw [if_pos (by rw [ofN_len]; omega), if_pos (by omega), if_pos (by omega), if_pos (by rw [ofN_len]; omega), hrS, hrA, hand, hn1.out]
    have he : entry (scanC cs n) (sortC cs n) d A S i j = if (parents (S.getD i 0) d).contains (A.getD j 0) then scanC cs n (A.getD j 0) else 1000000 := by
      unfold entry; rw [if_pos hlt]
    rw [he, hh] at ih
    by_cases hc : A.getD j 0 &&& S.getD i 0 = S.getD i 0
    · rw [if_pos (decide_eq_true hc)] at ih
      rw [if_pos (by omega), hsc, Option.bind_some, if_pos (by omega)]
      exact ih
    · rw [if_neg (by simpa using hc)] at ih
      rw [if_neg (by omega), if_pos (by omega)]
      exact ih
include L
theorem below_l0 : ∀ (q i : Nat), i + q = S.length → ∃ k0, ∀ k, k0 ≤ k → hypercuberef10_below.l0 k n (ofN S) (ofN A) ((List.range i).map (costRow (scanC cs n) (sortC cs n) d A S)) (i : Int) cs m = some ((edgesAS (scanC cs n) (sortC cs n) d A S).map mkE)
  | 0, i, hi => by
    have e : i = S.length := by omega
    subst e
    have C := cheap_of h1 hn
    obtain ⟨ks, g1, g2, g3, g4, g5⟩ := choice C L
    have h3 := fun k hk => below_l3 cs m n hok h1 hn d hdd hd A S hA hA16 hS hhas ks g2 g4 S.length 0 (by omega) k hk
    have he : (edgesAS (scanC cs n) (sortC cs n) d A S) = (List.range S.length).map fun i => edgeAt (sortC cs n) d A S i (ks.getD i 0) := by
      unfold edgesAS
      rw [g1]
      refine List.map_congr_left fun i hi => ?_
      have hi' : i < ks.length := by rw [g2]; exact List.mem_range.1 hi
      congr 1
      rw [getD_of_lt _ _ _ (by simpa using hi'), getD_of_lt _ _ _ hi']
      simp
    refine ⟨100 + S.length + 2, fun k hk => ?_⟩
    obtain ⟨K, rfl⟩ : ∃ K, k = K + S.length + 1 + 1 := ⟨k - S.length - 2, by omega⟩
    have h3 := h3 K (by omega)
    generalize K + S.length + 1 = q at *
    simp only [hypercuberef10_below.l0]
    rw [if_neg (by rw [ofN_len]; omega)]
    unfold hypercuberef9_Assign.f
    rw [Option.bind_some]
    show hypercuberef10_below.l3 q n (ofN S) (ofN A) (Mat.assign (costM (scanC cs n) (sortC cs n) d A S)).1 [] 0 cs m = _
    rw [g1, he]
    exact h3
  | q + 1, i, hi => by
    have hlt : i < S.length := by omega
    obtain ⟨k0, ih⟩ := below_l0 q (i + 1) (by omega)
    rw [List.range_succ, List.map_append, List.map_singleton] at ih
    have hl : ((List.range i).map (costRow (scanC cs n) (sortC cs n) d A S)).length ≤ 12 := by simp; omega
    have i2 := below_l2 cs m n hok h1 hn d hdd hd A S hA hA16 hS hhas _ hl i hlt _ k0 ih S.length 0 (by omega)
    have i1 := below_l1 cs m n hok h1 hn d hdd hd A S hA hA16 hS hhas _ hl i hlt _ (k0 + 100 + S.length + 1) (by omega) (fun k hk => by
      have := i2 (k - S.length - 1) (by omega)
      rw [show k - S.length - 1 + S.length + 1 = k by omega] at this
      exact this) A.length 0 (by omega)
    refine ⟨k0 + 100 + S.length + 1 + A.length + 1 + 1, fun k hk => ?_⟩
    obtain ⟨K, rfl⟩ : ∃ K, k = K + A.length + 1 + 1 := ⟨k - A.length - 2, by omega⟩
    have i1 := i1 K (by omega)
    generalize K + A.length + 1 = q1 at *
    simp only [hypercuberef10_below.l0]
    rw [if_pos (by rw [ofN_len]; omega)]
    exact i1
end
theorem below_k (cs : List Int) (m n : Int) (hok : okCards cs = true) (h1 : ∀ x ∈ cs, 1 ≤ x) (hn : 0 ≤ n ∧ n ≤ 300) (hd : cs.length < 5) (l : Nat) (hl : l < cs.length) : ∃ k0, ∀ k, k0 ≤ k → hypercuberef10_below.f k cs m n (l : Int) = some ((edgesS (scanC cs n) (sortC cs n) cs.length l).map mkE) := by
  obtain ⟨k0, h⟩ := below_l0 cs m n hok h1 hn cs.length rfl hd (lvl cs.length (l + 1)) (lvl cs.length l) (lev_of cs.length hd l hl) (lvl_fin1 cs.length hd l hl).1 (fun a ha => lvl_fin5 cs.length hd l hl a ha)
    (fun s hs => ⟨(lvl_fin3 cs.length hd l hl s hs).2.1, (lvl_fin3 cs.length hd l hl s hs).2.2.2⟩) (fun s hs a ha => has_fin cs.length hd l hl s hs a ha) (lvl cs.length l).length 0 (by omega)
  refine ⟨k0 + 120, fun k hk => ?_⟩
  have hn1 := Aside0.mk (w64n l (by omega))
  unfold hypercuberef10_below.f
  rw [level_k k (by omega) cs.length hd l (by omega), Option.bind_some, hn1.out, level_k k (by omega) cs.length hd (l + 1) (by omega), Option.bind_some]
  exact h k (by omega)
theorem plan_l0 (cs : List Int) (m n : Int) (hok : okCards cs = true) (h1 : ∀ x ∈ cs, 1 ≤ x) (hn : 0 ≤ n ∧ n ≤ 300) (hd : cs.length < 5) : ∀ (j : Nat) (X : List Ed), j ≤ cs.length → X.length + 16 * j ≤ 100 → ∃ k0, ∀ k, k0 ≤ k → hypercuberef10_Plan.l0 k n (X.map mkE) ((j : Int) - 1) cs m = some ((X ++ below (scanC cs n) (sortC cs n) cs.length j).map mkE)
  | 0, X, hj, hX => by
    refine ⟨1, fun k hk => ?_⟩
    obtain ⟨K, rfl⟩ : ∃ K, k = K + 1 := ⟨k - 1, by omega⟩
    simp only [hypercuberef10_Plan.l0]
    rw [if_neg (by omega)]
    simp [below]
  | j + 1, X, hj, hX => by
    have C := cheap_of h1 hn
    have L := lev_of cs.length hd j (by omega)
    have hlen : (edgesS (scanC cs n) (sortC cs n) cs.length j).length = (lvl cs.length j).length := by
      have := congrArg List.length (edges_right C L).1.1
      rw [List.length_map, List.length_map] at this
      exact this
    have hl6 := (lvl_fin1 cs.length hd j (by omega)).2.1
    obtain ⟨k1, hb⟩ := below_k cs m n hok h1 hn hd j (by omega)
    obtain ⟨k2, ih⟩ := plan_l0 cs m n hok h1 hn hd j (X ++ edgesS (scanC cs n) (sortC cs n) cs.length j) (by omega) (by rw [List.length_append]; omega)
    refine ⟨k1 + k2 + 1, fun k hk => ?_⟩
    obtain ⟨K, rfl⟩ : ∃ K, k = K + 1 := ⟨k - 1, by omega⟩
    have hb := hb K (by omega)
    have ih := ih K (by omega)
    rw [below_succ, ← List.append_assoc]
    have e1 : ((j + 1 : Nat) : Int) - 1 = (j : Int) := by omega
    have e2 := Aside0.mk (w64 ((j : Int) - 1) (by omega) (by omega))
    rw [List.map_append] at ih
    simp only [hypercuberef10_Plan.l0]
    rw [if_pos (by omega), e1, hb, Option.bind_some, e2.out, if_pos (by rw [List.length_map, List.length_map, hlen]; omega)]
    exact ih
theorem refplan_f (cs : List Int) (m n : Int) (hok : okCards cs = true) (h1 : ∀ x ∈ cs, 1 ≤ x) (hn : 0 ≤ n ∧ n ≤ 300) : ∃ k0, ∀ k, k0 ≤ k → hypercuberef10_Plan.f k cs m n = some ((planS (scanC cs n) (sortC cs n) cs.length).map mkE) := by
  have hd : cs.length < 5 := by have := okCards_len hok; omega
  obtain ⟨u1, u2⟩ := shl_fin cs.length hd
  obtain ⟨k0, h⟩ := plan_l0 cs m n hok h1 hn hd cs.length [⟨((2 ^ cs.length - 1 : Nat) : Int), -1, false⟩] (Nat.le_refl _) (by simp; omega)
  have hle : 2 ^ cs.length ≤ 16 := Nat.pow_le_pow_right (by omega) (show cs.length ≤ 4 by omega)
  have hp : 0 < 2 ^ cs.length := Nat.pow_pos (by omega)
  have e1 := Aside0.mk (w64 (((2 ^ cs.length : Nat) : Int) - 1) (by omega) (by omega))
  have e2 := Aside0.mk (w64 ((cs.length : Int) - 1) (by omega) (by omega))
  refine ⟨k0, fun k hk => ?_⟩
  unfold hypercuberef10_Plan.f
  rw [if_pos u1, u2, e1.out, e2.out, plan_eq]
  have := h k hk
  rw [show ((2 ^ cs.length : Nat) : Int) - 1 = ((2 ^ cs.length - 1 : Nat) : Int) by omega]
  exact this

theorem l2_fin : ∀ d : Nat, d < 5 → ∀ s : Nat, s < 2 ^ d → hypercuberef10_order.l2 30 (s : Int) [] 0 = some (intsL (bitsL d s)) := by decide +kernel
theorem l1_ok : ∀ v : Nat, v < 16 → ∀ (q i : Nat) (X : List Int), i + q = 4 → X.length + q ≤ 100 → ∀ k, hypercuberef10_order.l1 (k + q + 1) X (v : Int) (i : Int) = some (X ++ intsL (((List.range 4).drop i).filter fun j => v.testBit j)) := by
  intro v hv q
  induction q with
  | zero =>
    intro i X hi hX k
    have e : i = 4 := by omega
    subst e
    simp only [hypercuberef10_order.l1]
    rw [if_neg (by decide), show (List.range 4).drop 4 = [] from rfl]
    simp [intsL]
  | succ q ih =>
    intro i X hi hX k
    obtain ⟨b1, b2⟩ := bit_fin v hv i (by omega)
    have hn1 := Aside0.mk (w64n i (by omega))
    have hdr : (List.range 4).drop i = i :: (List.range 4).drop (i + 1) := by
      rw [List.drop_eq_getElem_cons (show i < (List.range 4).length by simp; omega)]
      simp
    rw [show k + (q + 1) + 1 = (k + q + 1) + 1 by omega]
    cases hb : v.testBit i with
    | true =>
      have ih := ih (i + 1) (X ++ [(i : Int)]) (by omega) (by simp; omega) k
      rw [hb] at b2
      generalize k + q + 1 = K at *
      simp only [hypercuberef10_order.l1]
      rw [if_pos (by omega), if_pos b1, if_pos (of_decide_eq_true b2), if_pos (by omega), hn1.out, ih, hdr, List.filter_cons, if_pos hb]
      simp [intsL]
    | false =>
      have ih := ih (i + 1) X (by omega) (by omega) k
      rw [hb] at b2
      generalize k + q + 1 = K at *
      simp only [hypercuberef10_order.l1]
      rw [if_pos (by omega), if_pos b1, if_neg (of_decide_eq_false b2), hn1.out, ih, hdr, List.filter_cons, if_neg (by rw [hb]; decide)]
theorem bits4 : ∀ d : Nat, d < 5 → ∀ s : Nat, s < 2 ^ d → ((List.range 4).drop 0).filter (fun j => s.testBit j) = bitsL d s := by decide +kernel
theorem andNot_fin : ∀ d : Nat, d < 5 → ∀ t : Nat, t < 2 ^ d → ∀ p ∈ parents t d, Go.bits .andNot .i64 (p : Int) (t : Int) = ((p - t : Nat) : Int) ∧ p - t < 2 ^ d ∧ p < 2 ^ d ∧ p &&& t = t ∧ lev p = lev t + 1 := by decide +kernel
section
variable (d : Nat) (hd : d < 5) (o : List Ed) (ho : o.length ≤ 16) (hp : ∀ e ∈ o, e.scan = true → ∃ t p : Nat, e.set = (t : Int) ∧ e.par = (p : Int) ∧ t < 2 ^ d ∧ p ∈ parents t d)
def hit (s : Nat) (e : Ed) : Bool := e.scan && e.par == (s : Int)
include ho in
theorem ord_l0 (s : Nat) (r : List Int)
    (hr : ∀ i, i < o.length → o.find? (hit s) = some (o.getD i ed0) → ∃ k0, ∀ k, k0 ≤ k → hypercuberef10_order.j1 k (o.map mkE) (s : Int) (i : Int) true = some r)
    (h2 : o.find? (hit s) = none → ∃ k0, ∀ k, k0 ≤ k → hypercuberef10_order.l2 k (s : Int) [] 0 = some r) :
    ∀ (q i : Nat), i + q = o.length → (∀ j, j < i → hit s (o.getD j ed0) = false) → ∃ k0, ∀ k, k0 ≤ k → hypercuberef10_order.l0 k (o.map mkE) (s : Int) (i : Int) = some r
  | 0, i, hi, hno => by
    obtain ⟨k0, h⟩ := h2 (by
      rw [List.find?_eq_none]
      intro e he
      obtain ⟨j, hj, rfl⟩ := List.mem_iff_getElem.1 he
      have := hno j (by omega)
      rw [getD_of_lt _ _ _ hj] at this
      rw [this]; decide)
    refine ⟨k0 + 1, fun k hk => ?_⟩
    obtain ⟨K, rfl⟩ : ∃ K, k = K + 1 := ⟨k - 1, by omega⟩
    simp only [hypercuberef10_order.l0]
    rw [if_neg (by rw [List.length_map]; omega)]
    exact h K (by omega)
  | q + 1, i, hi, hno => by
    have hlt : i < o.length := by omega
    have hn1 := Aside0.mk (w64n i (by omega))
    have hrd := rd_mapE o i
    have hm : (o.map mkE).length = o.length := List.length_map ..
    have hbool : ∀ (k : Nat), (if (mkE (o.getD i ed0)).f2 = true then hypercuberef10_order.j1 k (o.map mkE) (s : Int) (i : Int) ((mkE (o.getD i ed0)).f1 == (s : Int)) else hypercuberef10_order.j1 k (o.map mkE) (s : Int) (i : Int) false) = hypercuberef10_order.j1 k (o.map mkE) (s : Int) (i : Int) (hit s (o.getD i ed0)) := by
      intro k
      have e2 : (mkE (o.getD i ed0)).f2 = (o.getD i ed0).scan := rfl
      have e1 : (mkE (o.getD i ed0)).f1 = (o.getD i ed0).par := rfl
      rw [e1, e2]
      unfold hit
      cases (o.getD i ed0).scan with
      | true => rw [if_pos rfl, Bool.true_and]
      | false => rw [if_neg (by decide), Bool.false_and]
    have key : ∃ k0, ∀ k, k0 ≤ k → hypercuberef10_order.j1 k (o.map mkE) (s : Int) (i : Int) (hit s (o.getD i ed0)) = some r := by
      cases hh : hit s (o.getD i ed0) with
      | true =>
        refine hr i hlt ?_
        rw [List.find?_eq_some_iff_getElem]
        refine ⟨hh, i, hlt, (getD_of_lt _ _ _ hlt).symm, fun j hj => ?_⟩
        have := hno j hj
        rw [getD_of_lt _ _ _ (by omega)] at this
        rw [this]; rfl
      | false =>
        obtain ⟨k0, h⟩ := ord_l0 s r hr h2 q (i + 1) (by omega) (fun j hj => by
          by_cases hje : j = i
          · rw [hje]; exact hh
          · exact hno j (by omega))
        refine ⟨k0 + 1, fun k hk => ?_⟩
        obtain ⟨K, rfl⟩ : ∃ K, k = K + 1 := ⟨k - 1, by omega⟩
        simp only [hypercuberef10_order.j1]
        rw [if_neg (by decide), hn1.out]
        exact h K (by omega)
    obtain ⟨k0, h⟩ := key
    refine ⟨k0 + 1, fun k hk => ?_⟩
    obtain ⟨K, rfl⟩ : ∃ K, k = K + 1 := ⟨k - 1, by omega⟩
    simp only [hypercuberef10_order.l0]
    rw [if_pos (by omega), if_pos (by omega), hrd, hbool]
    exact h K (by omega)
include hd hp ho in
theorem ord_f : ∀ (n s : Nat), lev s = n → s < 2 ^ d → ∀ f, n < f → f ≤ 6 → ∃ k0, ∀ k, k0 ≤ k → hypercuberef10_order.f k (o.map mkE) (s : Int) = some (intsL (orderS o d f s)) := by
  intro n
  induction n using Nat.strongRecOn with
  | ind n ih =>
    intro s hs hlt f hf hf6
    obtain ⟨g, rfl⟩ : ∃ g, f = g + 1 := ⟨f - 1, by omega⟩
    have hle : 2 ^ d ≤ 16 := Nat.pow_le_pow_right (by omega) (show d ≤ 4 by omega)
    have hlev := lev_lt5 s
    have main := ord_l0 o ho s (intsL (orderS o d (g + 1) s)) (fun i hi hfi => by
        have hmem := List.mem_of_find?_eq_some hfi
        have hhit := List.find?_some hfi
        unfold hit at hhit
        rw [Bool.and_eq_true, beq_iff_eq] at hhit
        obtain ⟨t, p, e1, e2, e3, e4⟩ := hp _ hmem hhit.1
        obtain ⟨a1, a2, a3, a4, a5⟩ := andNot_fin d hd t e3 p e4
        have hps : p = s := by have := hhit.2; omega
        subst hps
        obtain ⟨k0, h⟩ := ih (lev t) (by omega) t rfl e3 g (by omega) (by omega)
        have hol := orderS_len o d (by omega) g t
        have hord : orderS o d (g + 1) p = orderS o d g t ++ bitsL d (p - t) := by
          have : o.find? (fun e => e.scan && e.par == (p : Int)) = some (o.getD i ed0) := hfi
          rw [orderS, this]
          dsimp only
          rw [e1]
          simp
        have hl1 := fun k => l1_ok (p - t) (by omega) 4 0 (intsL (orderS o d g t)) (by omega) (by unfold intsL; rw [List.length_map]; omega) k
        refine ⟨k0 + 10, fun k hk => ?_⟩
        obtain ⟨K, rfl⟩ : ∃ K, k = K + 4 + 1 + 1 := ⟨k - 6, by omega⟩
        have h := h (K + 4 + 1) (by omega)
        have hl1 := hl1 K
        generalize K + 4 + 1 = q at *
        have hrd := rd_mapE o i
        simp only [hypercuberef10_order.j1]
        rw [if_pos trivial, if_pos (by omega), if_pos (by rw [List.length_map]; omega), hrd]
        show ((hypercuberef10_order.f q (o.map mkE) (o.getD i ed0).set).bind fun t357 => hypercuberef10_order.l1 q t357 (Go.bits .andNot .i64 (p : Int) (o.getD i ed0).set) 0) = _
        rw [e1, h, Option.bind_some, a1]
        rw [bits4 d hd _ a2] at hl1
        rw [hord]
        unfold intsL at *
        rw [List.map_append]
        exact hl1) (fun hno => by
        have e : orderS o d (g + 1) s = bitsL d s := by
          have : o.find? (fun e => e.scan && e.par == (s : Int)) = none := hno
          rw [orderS, this]
        refine ⟨30, fun k hk => ?_⟩
        rw [e]
        exact at_rounds (fun k => (hypercuberef10_order.mono_l k).2.2.2.2 _ _ _) hk (l2_fin d hd s hlt)) o.length 0 (by omega) (fun j hj => absurd hj (by omega))
    obtain ⟨k0, h⟩ := main
    refine ⟨k0 + 1, fun k hk => ?_⟩
    obtain ⟨K, rfl⟩ : ∃ K, k = K + 1 := ⟨k - 1, by omega⟩
    simp only [hypercuberef10_order.f]
    exact h K (by omega)

include hd hp ho in
theorem refOrders_l0 (hd0 : 0 < d) (hsets : ∀ e ∈ o, ∃ s : Nat, e.set = (s : Int) ∧ s < 2 ^ d) : ∀ (q i : Nat), i + q = o.length → ∃ k0, ∀ k, k0 ≤ k → hypercuberef10_Orders.l0 k (o.map mkE) (d : Int) (((ordersS o d).take i).map intsL) (i : Int) = some ((ordersS o d).map intsL)
  | 0, i, hi => by
    refine ⟨1, fun k hk => ?_⟩
    obtain ⟨K, rfl⟩ : ∃ K, k = K + 1 := ⟨k - 1, by omega⟩
    simp only [hypercuberef10_Orders.l0]
    rw [if_neg (by rw [List.length_map]; omega), List.take_of_length_le (by unfold ordersS; rw [List.length_map]; omega)]
  | q + 1, i, hi => by
    have hlt : i < o.length := by omega
    obtain ⟨k1, ih⟩ := refOrders_l0 hd0 hsets q (i + 1) (by omega)
    have hmem : o.getD i ed0 ∈ o := by rw [getD_of_lt _ _ _ hlt]; exact List.getElem_mem hlt
    obtain ⟨s, hs, hs2⟩ := hsets _ hmem
    have hlev := lev_lt5 s
    obtain ⟨k0, h⟩ := ord_f d hd o ho hp (lev s) s rfl hs2 5 (by omega) (by omega)
    have hn1 := Aside0.mk (w64n i (by omega))
    have hrd := rd_mapE o i
    have hol : (ordersS o d).length = o.length := by unfold ordersS; rw [List.length_map]
    have htk : (ordersS o d).take (i + 1) = (ordersS o d).take i ++ [orderS o d 5 s] := by
      rw [List.take_succ_eq_append_getElem (by omega)]
      congr 2
      unfold ordersS
      rw [List.getElem_map]
      rw [getD_of_lt _ _ _ hlt] at hs
      rw [hs]; simp
    rw [htk, List.map_append, List.map_singleton] at ih
    refine ⟨k0 + k1 + 1, fun k hk => ?_⟩
    obtain ⟨K, rfl⟩ : ∃ K, k = K + 1 := ⟨k - 1, by omega⟩
    have h := h K (by omega)
    have ih := ih K (by omega)
    simp only [hypercuberef10_Orders.l0]
    rw [if_pos (by rw [List.length_map]; omega), if_pos (by omega), if_pos (by omega), hrd]
    show ((hypercuberef10_order.f K (o.map mkE) (o.getD i ed0).set).bind fun t368 => _) = _
    rw [hs, h, Option.bind_some, if_pos (by rw [List.length_map, List.length_take]; omega), hn1.out]
    exact ih
end
theorem ints_l0 (x : List Int) (hx : x.length ≤ 1000) : ∀ (q i : Nat), i + q = x.length → ∀ k, hypercuberef1_Ints.l0 (k + q + 1) x x (i : Int) = some true
  | 0, i, h, k => by
    simp only [hypercuberef1_Ints.l0]
    rw [if_neg (by omega)]
  | q + 1, i, h, k => by
    have ih := ints_l0 x hx q (i + 1) (by omega) k
    have hw := Aside0.mk (w64n i (by omega))
    rw [show k + (q + 1) + 1 = (k + q + 1) + 1 by omega]
    generalize k + q + 1 = K at *
    simp only [hypercuberef1_Ints.l0]
    rw [if_pos (by omega), if_pos (by omega), if_pos (by omega), if_pos trivial, hw.out]
    exact ih
theorem ints_f (x : List Int) (hx : x.length ≤ 1000) (k : Nat) (hk : 1001 ≤ k) : hypercuberef1_Ints.f k x x = some true := by
  unfold hypercuberef1_Ints.f
  rw [if_pos rfl]
  have := ints_l0 x hx x.length 0 (by omega) (k - x.length - 1)
  rw [show k - x.length - 1 + x.length + 1 = k by omega] at this
  exact this
theorem same2_l0 (x : List (List Int)) (hx : x.length ≤ 1000) (hr : ∀ r ∈ x, r.length ≤ 1000) : ∀ (q i : Nat), i + q = x.length → ∀ k, 1001 ≤ k → hypercubelaw10_same.l0 (k + q + 1) x x (i : Int) = some true
  | 0, i, h, k, hk => by
    simp only [hypercubelaw10_same.l0]
    rw [if_neg (by omega)]
  | q + 1, i, h, k, hk => by
    have ih := same2_l0 x hx hr q (i + 1) (by omega) k hk
    have hw := Aside0.mk (w64n i (by omega))
    have hlt : i < x.length := by omega
    have hrl : (rd_L1 x (i : Int)).length ≤ 1000 := by
      unfold rd_L1
      rw [Int.toNat_natCast, getD_of_lt _ _ _ hlt]
      exact hr _ (List.getElem_mem hlt)
    rw [show k + (q + 1) + 1 = (k + q + 1) + 1 by omega]
    have hI := ints_f (rd_L1 x (i : Int)) hrl (k + q + 1) (by omega)
    generalize k + q + 1 = K at *
    simp only [hypercubelaw10_same.l0]
    rw [if_pos (by omega), if_pos (by omega), if_pos (by omega), hI, Option.bind_some, if_pos rfl, hw.out]
    exact ih
theorem same2_f (x : List (List Int)) (hx : x.length ≤ 16) (hr : ∀ r ∈ x, r.length ≤ 1000) (k : Nat) (hk : 1100 ≤ k) : hypercubelaw10_same.f k x x = some true := by
  unfold hypercubelaw10_same.f
  rw [if_pos rfl]
  have := same2_l0 x (by omega) hr x.length 0 (by omega) (k - x.length - 1) (by omega)
  rw [show k - x.length - 1 + x.length + 1 = k by omega] at this
  exact this
/-- Orders, both ways, of a right plan. -/
theorem right_scan {d : Nat} (hd : d < 5) {o : List Ed} (h : RightPlan d o) : (∀ e ∈ o, e.scan = true → ∃ t p : Nat, e.set = (t : Int) ∧ e.par = (p : Int) ∧ t < 2 ^ d ∧ p ∈ parents t d) ∧ (∀ e ∈ o, ∃ s : Nat, e.set = (s : Int) ∧ s < 2 ^ d) := by
  obtain ⟨h1, h2, h3⟩ := right_at_i hd h
  constructor
  · intro e he hsc
    obtain ⟨i, hi, rfl⟩ := List.mem_iff_getElem.1 he
    obtain ⟨a, b, c⟩ := h3 i hi
    rw [getD_of_lt _ _ _ hi] at a b c
    by_cases h0 : i = 0
    · have := (b h0).2; rw [this] at hsc; cases hsc
    · obtain ⟨p, hp, hm⟩ := c h0
      exact ⟨_, p, a, hp, ((sets_fin d hd).2 i (by omega)).1, hm⟩
  · intro e he
    obtain ⟨i, hi, rfl⟩ := List.mem_iff_getElem.1 he
    obtain ⟨a, b, c⟩ := h3 i hi
    rw [getD_of_lt _ _ _ hi] at a
    exact ⟨_, a, ((sets_fin d hd).2 i (by omega)).1⟩
theorem right_okO {d : Nat} (hd : d < 5) {o : List Ed} (h : RightPlan d o) : okO d o = true := by
  obtain ⟨h1, h2, h3⟩ := right_at_i hd h
  obtain ⟨g1, g2⟩ := right_scan hd h
  have hle : 2 ^ d ≤ 16 := Nat.pow_le_pow_right (by omega) (show d ≤ 4 by omega)
  unfold okO
  rw [Bool.and_eq_true, decide_eq_true_eq, List.all_eq_true]
  refine ⟨by omega, fun e he => ?_⟩
  obtain ⟨s, hs, hs2⟩ := g2 e he
  rw [Bool.and_eq_true, Bool.and_eq_true, decide_eq_true_eq, decide_eq_true_eq]
  refine ⟨⟨?_, by omega⟩, by rw [hs]; simpa using hs2⟩
  unfold stepB
  cases hsc : e.scan with
  | false => rfl
  | true =>
    obtain ⟨t, p, e1, e2, e3, e4⟩ := g1 e he hsc
    obtain ⟨a1, a2, a3, a4, a5⟩ := andNot_fin d hd t e3 p e4
    simp [e1, e2, e3, a3, a4, a5]
theorem orders_f (d : Nat) (hd : d < 5) (o : List Ed) (h : RightPlan d o) : sorts_Orders.f (o.map mkE) (d : Int) = some ((ordersS o d).map intsL) := by
  unfold sorts_Orders.f
  rw [toEds_map, Int.toNat_natCast, if_pos ⟨⟨by omega, by omega⟩, right_okO hd h⟩]
theorem refOrders_f (d : Nat) (hd : d < 5) (hd0 : 0 < d) (o : List Ed) (h : RightPlan d o) : ∃ k0, ∀ k, k0 ≤ k → hypercuberef10_Orders.f k (o.map mkE) (d : Int) = some ((ordersS o d).map intsL) := by
  obtain ⟨h1, h2, h3⟩ := right_at_i hd h
  have hle : 2 ^ d ≤ 16 := Nat.pow_le_pow_right (by omega) (show d ≤ 4 by omega)
  obtain ⟨g1, g2⟩ := right_scan hd h
  obtain ⟨k0, hk⟩ := refOrders_l0 d hd o (by omega) g1 hd0 g2 o.length 0 (by omega)
  exact ⟨k0, hk⟩
theorem orders_small (d : Nat) (hd : d < 5) (o : List Ed) (h : RightPlan d o) : ((ordersS o d).map intsL).length ≤ 16 ∧ ∀ r ∈ (ordersS o d).map intsL, r.length ≤ 1000 := by
  obtain ⟨h1, h2, h3⟩ := right_at_i hd h
  have hle : 2 ^ d ≤ 16 := Nat.pow_le_pow_right (by omega) (show d ≤ 4 by omega)
  constructor
  · unfold ordersS; rw [List.length_map, List.length_map]; omega
  · intro r hr
    obtain ⟨l, hl, rfl⟩ := List.mem_map.1 hr
    obtain ⟨e, he, rfl⟩ := List.mem_map.1 hl
    have := orderS_len o d (by omega) 5 e.set.toNat
    unfold intsL
    rw [List.length_map]
    omega

end SortsAllp
open SortsAllp
open Go.Proofs.Ytlplaidcdocbmaa.Srt
theorem SortsAll : hypercubelaw10_SortsAll.Pure := by
  intro a0 l1 a2 _ _ _ _ _
  obtain ⟨z, hz, hzl⟩ := SortsAllp.within_f a2 301 (by decide) (by decide)
  obtain ⟨cs, m, hF, c1, c4, cr, hok⟩ := SortsAllp.facts_of 8 (Nat.le_refl _) a0 l1
  have h1 : ∀ x ∈ cs, 1 ≤ x := fun x hx => (cr x hx).1
  have hd : cs.length < 5 := by omega
  have hn : 0 ≤ (z : Int) ∧ (z : Int) ≤ 300 := by omega
  have C := cheap_of h1 hn
  have hR := plan_right C hd
  have hP := SortsAllp.plan_f cs m _ hok h1 hn.1 hn.2
  obtain ⟨k1, e1⟩ := SortsAllp.refplan_f cs m (z : Int) hok h1 hn
  generalize planS (scanC cs (z : Int)) (sortC cs (z : Int)) cs.length = E at *
  obtain ⟨r1, r2, r3⟩ := right_at_i hd hR
  have hl16 : 2 ^ cs.length ≤ 16 := Nat.pow_le_pow_right (by omega) (show cs.length ≤ 4 by omega)
  obtain ⟨k2, e7⟩ := SortsAllp.refOrders_f cs.length hd (by omega) E hR
  obtain ⟨s1, s2⟩ := SortsAllp.orders_small cs.length hd E hR
  have e3 := SortsAllp.cost_f cs m (z : Int) E hok h1 hn.1 hn.2 (right_okW hd hR).2
  have e5 := SortsAllp.right_f E cs.length hd hR
  have e8 := SortsAllp.orders_f cs.length hd E hR
  have hK : ∃ K, K = k1 + k2 + 1200 := ⟨_, rfl⟩
  obtain ⟨K, hK⟩ := hK
  have e6 := SortsAllp.refcost_f cs m (z : Int) hok h1 hn E (by omega) (right_pars hd hR) (K + 1) (by omega)
  have e0 : hypercubelaw1_Facts.f (K + 1) a0 l1 0 [] = some (cs, m, []) := at_rounds (fun k => hypercubelaw1_Facts.mono _ _ _ _ k) (by omega) hF
  have e1 := e1 (K + 1) (by omega)
  have e7 := e7 K (by omega)
  have e2 := SortsAllp.same_f (E.map SortsAllp.mkE) (by rw [List.length_map]; omega) (K + 1) (by omega)
  have e9 := SortsAllp.same2_f _ s1 s2 K (by omega)
  refine ⟨K + 1, ?_⟩
  unfold hypercubelaw10_SortsAll.f
  rw [SortsAllp.known_f, Option.bind_some, if_pos rfl, e0, Option.bind_some, hz, Option.bind_some]
  dsimp only
  rw [hP, Option.bind_some, e1, Option.bind_some, e2, Option.bind_some, if_pos rfl, e5, Option.bind_some, if_pos rfl, e3, Option.bind_some, e6, Option.bind_some]
  simp only [hypercubelaw10_SortsAll.j0]
  rw [if_neg (by simp), e8, Option.bind_some, e7, Option.bind_some, e9]
  rfl

end Go.Proofs.Ytlplaidcdocbmaa.Pure
