-- Cut by pack.py, a program of this session; not trusted: Lean checks it.
import Derived.Test.YtlplaidcdocbmaaZCore14
import Derived.Test.YtlplaidcdocbmaaZPlainU
import Derived.Test.YtlplaidcdocbmaaZPSortsManyx6
/- SortsMany: its plain side. -/
namespace Go.Proofs.Ytlplaidcdocbmaa.Pure
open Go.RowKit Go.Proofs.Ytlplaidcdocbmaa.PSortsMany Go.Proofs.YtlplaidcdocbmaaW.PrintWords Go.Proofs.YtlplaidcdocbmaaW.PrintLast Go.Proofs.YtlplaidcdocbmaaW.PrintMore Go.Proofs.Ytlplaidcdocbmaa.Core
set_option linter.unusedVariables false
set_option linter.unusedSimpArgs false
namespace SortsManyp
theorem within_f (a n : Int) (hn : 0 < n) (h2 : n ≤ 4611686018427387904) : ∃ z : Nat, hypercubelaw10_within.f a n = some (z : Int) ∧ (z : Int) < n := by
  have h1 := Int.tmod_lt_of_pos a hn
  have h3 := Int.tmod_lt_of_pos (-a) hn
  rw [Int.neg_tmod] at h3
  have key : ∃ z : Int, hypercubelaw10_within.f a n = some z ∧ 0 ≤ z ∧ z < n := by
    unfold hypercubelaw10_within.f
    rw [if_neg (by omega)]
    by_cases h : Int.tmod a n < 0
    · refine ⟨Int.tmod a n + n, ?_, by omega, by omega⟩
      rw [if_pos h]
      congr 1
      unfold wrap64
      omega
    · refine ⟨Int.tmod a n, ?_, by omega, by omega⟩
      rw [if_neg h]
  obtain ⟨z, h, h0, hz⟩ := key
  obtain ⟨m, rfl⟩ := Int.eq_ofNat_of_zero_le h0
  exact ⟨m, h, hz⟩

theorem known_f : hypercubelaw10_known.f = some true := by decide +kernel
theorem within1_f (a n : Int) (hn : 0 < n) (h2 : n ≤ 4611686018427387904) : ∃ z, hypercubelaw1_within.f a n = some z ∧ 0 ≤ z ∧ z < n := by
  have h1 := Int.tmod_lt_of_pos a hn
  have h3 := Int.tmod_lt_of_pos (-a) hn
  rw [Int.neg_tmod] at h3
  unfold hypercubelaw1_within.f
  rw [if_neg (by omega)]
  by_cases h : Int.tmod a n < 0
  · refine ⟨Int.tmod a n + n, ?_, by omega, by omega⟩
    rw [if_pos h]
    congr 1
    unfold wrap64
    omega
  · refine ⟨Int.tmod a n, ?_, by omega, by omega⟩
    rw [if_neg h]

theorem facts_step (k : Nat) (a0 d : Int) (l1 : List Int) (i : Int) (cs : List Int) (m : Int) (hd : hypercubelaw1_within.f a0 4 = some d) (h0 : 0 ≤ i) (hi : i ≤ d) (hd3 : d ≤ 3) (hcs : cs.length ≤ 16) :
    ∃ c, 1 ≤ c ∧ c ≤ 5 ∧ hypercubelaw1_Facts.l0 (k + 1) a0 l1 [] i cs m = hypercubelaw1_Facts.l0 k a0 l1 [] (i + 1) (cs ++ [c]) m := by
  have hw : wrap64 (i + 1) = i + 1 := by unfold wrap64; omega
  by_cases hl : i < (l1.length : Int)
  · obtain ⟨z, hz, hz0, hz1⟩ := within1_f (rd l1 i) 5 (by decide) (by decide)
    refine ⟨1 + z, by omega, by omega, ?_⟩
    have hw2 : wrap64 (1 + z) = 1 + z := by unfold wrap64; omega
    simp only [hypercubelaw1_Facts.l0]
    rw [hd]
    simp only [Option.bind_some]
    rw [if_pos hi, if_pos hl, if_pos h0, hz]
    simp only [Option.bind_some]
    rw [if_pos (by omega), hw, hw2]
  · obtain ⟨z, hz, hz0, hz1⟩ := within1_f (wrap64 (i + 2)) 5 (by decide) (by decide)
    refine ⟨1 + z, by omega, by omega, ?_⟩
    have hw2 : wrap64 (1 + z) = 1 + z := by unfold wrap64; omega
    simp only [hypercubelaw1_Facts.l0]
    rw [hd]
    simp only [Option.bind_some]
    rw [if_pos hi, if_neg hl, hz]
    simp only [Option.bind_some]
    rw [if_pos (by omega), hw, hw2]

theorem facts_end (k : Nat) (a0 d : Int) (l1 : List Int) (i : Int) (cs : List Int) (m : Int) (hd : hypercubelaw1_within.f a0 4 = some d) (hi : d < i) (hcs : 0 < cs.length) :
    ∃ b : Bool, hypercubelaw1_Facts.l0 (k + 4) a0 l1 [] i cs m = some (if b then cs.set 0 16 else cs, m, []) := by
  obtain ⟨z, hz, hz0, hz1⟩ := within1_f a0 7 (by decide) (by decide)
  refine ⟨decide (z = 0), ?_⟩
  simp only [hypercubelaw1_Facts.l0]
  rw [hd]
  simp only [Option.bind_some]
  rw [if_neg (by omega), hz]
  simp only [Option.bind_some]
  by_cases h : z = 0
  · rw [if_pos h, if_pos (by omega)]
    simp [hypercubelaw1_Facts.j1, hypercubelaw1_Facts.l1, hypercubelaw1_Facts.j3, h]
  · rw [if_neg h]
    simp [hypercubelaw1_Facts.j1, hypercubelaw1_Facts.l1, hypercubelaw1_Facts.j3, h]

/-- A schema of numbers: one to four cards, each 1 to 16; no rows of no numbers. -/
theorem facts_nil (a0 : Int) (l1 : List Int) (a2 : Int) : ∃ (cs : List Int) (m : Int), hypercubelaw1_Facts.f 8 a0 l1 a2 [] = some (cs, m, []) ∧
    1 ≤ cs.length ∧ cs.length ≤ 4 ∧ (∀ c ∈ cs, 1 ≤ c ∧ c ≤ 16) ∧ 0 ≤ m ∧ m ≤ 2 := by
  obtain ⟨m, hm, hm0, hm1⟩ := within1_f a2 3 (by decide) (by decide)
  obtain ⟨d, hd, hd0, hd1⟩ := within1_f a0 4 (by decide) (by decide)
  have fin : ∀ (k : Nat) (i : Int) (cs : List Int), d < i → 0 < cs.length → cs.length ≤ 4 → (∀ c ∈ cs, 1 ≤ c ∧ c ≤ 5) →
      ∃ (r : List Int), hypercubelaw1_Facts.l0 (k + 4) a0 l1 [] i cs m = some (r, m, []) ∧ 1 ≤ r.length ∧ r.length ≤ 4 ∧ (∀ c ∈ r, 1 ≤ c ∧ c ≤ 16) := by
    intro k i cs h1 h2 h3 h4
    obtain ⟨b, hb⟩ := facts_end k a0 d l1 i cs m hd h1 h2
    refine ⟨_, hb, ?_, ?_, ?_⟩
    · cases b <;> simp <;> omega
    · cases b <;> simp <;> omega
    · intro c hc
      cases b with
      | false =>
        have := h4 c (by simpa using hc)
        omega
      | true =>
        have hc' : c ∈ cs.set 0 16 := by simpa using hc
        rcases List.mem_or_eq_of_mem_set hc' with h | h
        · have := h4 c h
          omega
        · omega
  have all : ∃ (r : List Int), hypercubelaw1_Facts.l0 8 a0 l1 [] 0 [] m = some (r, m, []) ∧ 1 ≤ r.length ∧ r.length ≤ 4 ∧ (∀ c ∈ r, 1 ≤ c ∧ c ≤ 16) := by
    obtain ⟨c0, h00, h01, e0⟩ := facts_step 7 a0 d l1 0 [] m hd (by omega) (by omega) (by omega) (by simp)
    rw [e0]
    by_cases g1 : d < 1
    · exact fin 3 _ _ (by omega) (by simp) (by simp) (by simp; omega)
    obtain ⟨c1, h10, h11, e1⟩ := facts_step 6 a0 d l1 (0 + 1) ([] ++ [c0]) m hd (by omega) (by omega) (by omega) (by simp)
    rw [e1]
    by_cases g2 : d < 2
    · exact fin 2 _ _ (by omega) (by simp) (by simp) (by simp; omega)
    obtain ⟨c2, h20, h21, e2⟩ := facts_step 5 a0 d l1 (0 + 1 + 1) ([] ++ [c0] ++ [c1]) m hd (by omega) (by omega) (by omega) (by simp)
    rw [e2]
    by_cases g3 : d < 3
    · exact fin 1 _ _ (by omega) (by simp) (by simp) (by simp; omega)
    obtain ⟨c3, h30, h31, e3⟩ := facts_step 4 a0 d l1 (0 + 1 + 1 + 1) ([] ++ [c0] ++ [c1] ++ [c2]) m hd (by omega) (by omega) (by omega) (by simp)
    rw [e3]
    exact fin 0 _ _ (by omega) (by simp) (by simp) (by simp; omega)
  obtain ⟨r, hr, h1, h2, h3⟩ := all
  refine ⟨r, m, ?_, h1, h2, h3, hm0, by omega⟩
  unfold hypercubelaw1_Facts.f
  rw [hm]
  simp only [Option.bind_some]
  exact hr

theorem facts_of (K : Nat) (hK : 8 ≤ K) (a0 : Int) (l1 : List Int) : ∃ (cs : List Int) (m : Int), hypercubelaw1_Facts.f K a0 l1 0 [] = some (cs, m, []) ∧ 1 ≤ cs.length ∧ cs.length ≤ 4 ∧ (∀ c ∈ cs, 1 ≤ c ∧ c ≤ 16) ∧ okCards cs = true := by
  obtain ⟨cs, m, h, h1, h2, h3, _⟩ := facts_nil a0 l1 0
  exact ⟨cs, m, at_rounds (fun k => hypercubelaw1_Facts.mono _ _ _ _ k) hK h, h1, h2, h3, okCards_of h2 (fun x hx => ⟨by have := h3 x hx; omega, (h3 x hx).2⟩)⟩
open Go.Proofs.Ytlplaidcdocbmaa.Srt
def mkE (e : Ed) : S49 := S49.mk e.set e.par e.scan
theorem planE_eq (cs : List Int) (n : Int) : planE S49.mk cs n = (planS (scanC cs n) (sortC cs n) cs.length).map mkE := rfl
theorem toEds_map (o : List Ed) : toEds S49.f0 S49.f1 S49.f2 (o.map mkE) = o := by
  unfold toEds
  rw [List.map_map]
  have : (toEd S49.f0 S49.f1 S49.f2 ∘ mkE) = id := by funext e; rfl
  rw [this, List.map_id]
theorem plan_f (cs : List Int) (m n : Int) (hok : okCards cs = true) (h1 : ∀ x ∈ cs, 1 ≤ x) (h0 : 0 ≤ n) (hn : n ≤ 300) : sorts_Plan.f cs m n = some ((planS (scanC cs n) (sortC cs n) cs.length).map mkE) := by
  unfold sorts_Plan.f
  rw [if_pos (okP_of hok h1 h0 hn), planE_eq]
theorem w64n (j : Nat) (h : j ≤ 1000) : wrap64 ((j : Int) + 1) = ((j + 1 : Nat) : Int) := next_fin j h
theorem same_l0 (x : List S49) (hx : x.length ≤ 1000) : ∀ (d k i : Nat), i + d = x.length → hypercuberef10_Same.l0 (k + d + 1) x x (i : Int) = some true
  | 0, k, i, h => by
    simp only [hypercuberef10_Same.l0]
    rw [if_neg (by omega)]
  | d + 1, k, i, h => by
    have ih := same_l0 x hx d k (i + 1) (by omega)
    have hw : wrap64 ((i : Int) + 1) = ((i + 1 : Nat) : Int) := by unfold wrap64; omega
    rw [show k + (d + 1) + 1 = (k + d + 1) + 1 by omega]
    generalize k + d + 1 = K at *
    simp only [hypercuberef10_Same.l0]
    rw [if_pos (by omega), if_pos (by omega), if_pos (by omega), if_neg (by simp), hw]
    exact ih
theorem same_f (x : List S49) (hx : x.length ≤ 16) (k : Nat) (hk : 17 ≤ k) : hypercuberef10_Same.f k x x = some true := by
  unfold hypercuberef10_Same.f
  rw [if_pos rfl]
  have := same_l0 x (by omega) x.length (k - x.length - 1) 0 (by omega)
  rw [show k - x.length - 1 + x.length + 1 = k by omega] at this
  exact this

theorem cost_f (cs : List Int) (m n : Int) (o : List Ed) (hok : okCards cs = true) (h1 : ∀ x ∈ cs, 1 ≤ x) (h0 : 0 ≤ n) (hn : n ≤ 300) (ho : okC o = true) : sorts_Cost.f cs m n (o.map mkE) = some (costP (scanC cs n) (sortC cs n) o) := by
  unfold sorts_Cost.f
  rw [toEds_map, if_pos ⟨okP_of hok h1 h0 hn, ho⟩]

def full (cs : List Int) : Int := cs.foldl (· * ·) 1
theorem full_snoc (cs : List Int) (c : Int) : full (cs ++ [c]) = full cs * c := by simp [full, List.foldl_append]
theorem full_bd : ∀ (i : Nat) (cs : List Int), cs.length = i → (∀ x ∈ cs, 1 ≤ x ∧ x ≤ 16) → 1 ≤ full cs ∧ full cs ≤ 16 ^ i
  | 0, cs, hl, h => by
    have : cs = [] := List.length_eq_zero_iff.1 hl
    subst this
    exact ⟨by decide, by decide⟩
  | i + 1, cs, hl, h => by
    have hne : cs ≠ [] := by intro e; rw [e] at hl; simp at hl
    obtain ⟨ds, c, rfl⟩ : ∃ Q y, cs = Q ++ [y] := ⟨cs.dropLast, cs.getLast hne, (List.dropLast_concat_getLast hne).symm⟩
    have hd := full_bd i ds (by simp at hl; omega) (fun x hx => h x (by simp [hx]))
    have hc := h c (by simp)
    rw [full_snoc, Int.pow_succ]
    constructor
    · have := Int.mul_le_mul hd.1 hc.1 (by omega) (by omega)
      simpa using this
    · exact Int.mul_le_mul hd.2 hc.2 (by omega) (by have := hd.1; have := hd.2; omega)
theorem full_small (cs : List Int) (h4 : cs.length ≤ 4) (h : ∀ x ∈ cs, 1 ≤ x ∧ x ≤ 16) : 1 ≤ full cs ∧ full cs ≤ 65536 := by
  obtain ⟨a, b⟩ := full_bd cs.length cs rfl h
  refine ⟨a, Int.le_trans b ?_⟩
  have : cs.length = 0 ∨ cs.length = 1 ∨ cs.length = 2 ∨ cs.length = 3 ∨ cs.length = 4 := by omega
  rcases this with h | h | h | h | h <;> rw [h] <;> decide
theorem upTo_le (cs : List Int) (hc : ∀ x ∈ cs, 1 ≤ x ∧ x ≤ 16) (s : Nat) : ∀ i : Nat, i ≤ cs.length → 0 ≤ upTo cs s i ∧ upTo cs s i ≤ full (cs.take i)
  | 0, _ => by simp [upTo, prodL, full]
  | i + 1, hi => by
    have ih := upTo_le cs hc s i (by omega)
    have hlt : i < cs.length := by omega
    have htk : cs.take (i + 1) = cs.take i ++ [cs[i]] := List.take_succ_eq_append_getElem hlt
    have hci := hc cs[i] (List.getElem_mem hlt)
    have hg : cs.getD i 0 = cs[i] := by simp [List.getD_eq_getElem?_getD, hlt]
    rw [htk, full_snoc]
    by_cases hb : s.testBit i = true
    · rw [upTo_yes cs s i hb, hg]
      exact ⟨Int.mul_nonneg ih.1 (by omega), Int.mul_le_mul_of_nonneg_right ih.2 (by omega)⟩
    · rw [upTo_no cs s i (by simpa using hb)]
      refine ⟨ih.1, Int.le_trans ih.2 ?_⟩
      have h0 : 0 ≤ full (cs.take i) := Int.le_trans ih.1 ih.2
      have := Int.mul_le_mul_of_nonneg_left (c := full (cs.take i)) hci.1 h0
      simpa using this
theorem size_same (cs : List Int) (hc : ∀ x ∈ cs, 1 ≤ x ∧ x ≤ 16) (n s : Int) (hn : full cs ≤ n) : sizeI cs n s = upTo cs s.toNat cs.length := by
  have h := (upTo_le cs hc s.toNat cs.length (Nat.le_refl _)).2
  rw [List.take_length] at h
  exact Int.min_eq_left (Int.le_trans h hn)
theorem scan_same (cs : List Int) (hc : ∀ x ∈ cs, 1 ≤ x ∧ x ≤ 16) (n : Int) (hn : full cs ≤ n) : scanC cs n = scanC cs (full cs) ∧ sortC cs n = sortC cs (full cs) := by
  have h : ∀ p : Nat, sizeI cs n p = sizeI cs (full cs) p := fun p => by rw [size_same cs hc n p hn, size_same cs hc (full cs) p (Int.le_refl _)]
  constructor
  · funext p; exact h p
  · funext p; unfold sortC; rw [h p]
theorem take_full (cs : List Int) (i : Nat) (h : i < cs.length) : full (cs.take i) * rd cs (i : Int) = full (cs.take (i + 1)) := by
  rw [List.take_succ_eq_append_getElem h, full_snoc, rdn]
  simp [List.getD_eq_getElem?_getD, h]
theorem fin (k : Nat) (hk : 17 ≤ k) (x1 m : Int) (cs : List Int) (hok : okCards cs = true) (hc : ∀ x ∈ cs, 1 ≤ x ∧ x ≤ 16) : hypercubelaw10_SortsMany.l0 (k + 1) x1 (full cs) (cs.length : Int) cs m = some true := by
  have h4 := okCards_len hok
  obtain ⟨b1, b2⟩ := full_small cs h4 hc
  simp only [hypercubelaw10_SortsMany.l0]
  rw [if_neg (by omega)]
  by_cases hb : full cs > 300
  · rw [if_pos hb]
  · rw [if_neg hb]
    have h1 : ∀ x ∈ cs, 1 ≤ x := fun x hx => (hc x hx).1
    have hw := Aside0.mk (w64 (301 - full cs) (by omega) (by omega))
    obtain ⟨z, hz, hzl⟩ := within_f x1 (301 - full cs) (by omega) (by omega)
    have hw2 := Aside0.mk (w64 (full cs + (z : Int)) (by omega) (by omega))
    rw [hw.out, hz, Option.bind_some, hw2.out]
    obtain ⟨s1, s2⟩ := scan_same cs hc (full cs + (z : Int)) (by omega)
    have hd : cs.length < 5 := by omega
    have C := cheap_of h1 (show 0 ≤ full cs ∧ full cs ≤ 300 by omega)
    have hR := plan_right C hd
    obtain ⟨r1, r2, r3⟩ := right_at_i hd hR
    have hle : 2 ^ cs.length ≤ 16 := Nat.pow_le_pow_right (by omega) (show cs.length ≤ 4 by omega)
    have ok := (right_okW hd hR).2
    rw [plan_f cs m (full cs) hok h1 (by omega) (by omega), Option.bind_some, plan_f cs m (full cs + (z : Int)) hok h1 (by omega) (by omega), Option.bind_some, s1, s2]
    generalize planS (scanC cs (full cs)) (sortC cs (full cs)) cs.length = E at *
    rw [same_f _ (by rw [List.length_map]; omega) k hk, Option.bind_some, if_pos rfl, cost_f cs m (full cs) E hok h1 (by omega) (by omega) ok, Option.bind_some,
      cost_f cs m (full cs + (z : Int)) E hok h1 (by omega) (by omega) ok, Option.bind_some, s1, s2]
    simp
theorem loop (x1 m : Int) (cs : List Int) (hok : okCards cs = true) (hc : ∀ x ∈ cs, 1 ≤ x ∧ x ≤ 16) (k : Nat) (hk : 17 ≤ k) : ∀ (d i : Nat), i + d = cs.length → hypercubelaw10_SortsMany.l0 (k + d + 1) x1 (full (cs.take i)) (i : Int) cs m = some true
  | 0, i, hi => by
    have e : i = cs.length := by omega
    subst e
    rw [List.take_length]
    exact fin k hk x1 m cs hok hc
  | d + 1, i, hi => by
    have h4 := okCards_len hok
    have ih := loop x1 m cs hok hc k hk d (i + 1) (by omega)
    have hn1 := Aside0.mk (w64n i (by omega))
    have tf := take_full cs i (by omega)
    obtain ⟨b1, b2⟩ := full_small (cs.take (i + 1)) (by rw [List.length_take]; omega) (fun x hx => hc x (List.mem_of_mem_take hx))
    have hn2 := Aside0.mk (w64 (full (cs.take (i + 1))) (by omega) (by omega))
    rw [show k + (d + 1) + 1 = (k + d + 1) + 1 by omega]
    generalize k + d + 1 = K at *
    simp only [hypercubelaw10_SortsMany.l0]
    rw [if_pos (by omega), if_pos (by omega), tf, hn1.out, hn2.out]
    exact ih
end SortsManyp
open SortsManyp
theorem SortsMany : hypercubelaw10_SortsMany.Pure := by
  intro a0 l1 a2 _ _ _ _ _
  obtain ⟨cs, m, hF, c1, c4, cr, hok⟩ := SortsManyp.facts_of 8 (Nat.le_refl _) a0 l1
  have e1 := SortsManyp.loop a2 m cs hok cr 40 (by omega) cs.length 0 (by omega)
  rw [List.take_zero] at e1
  refine ⟨40 + cs.length + 1, ?_⟩
  have e0 : hypercubelaw1_Facts.f (40 + cs.length + 1) a0 l1 0 [] = some (cs, m, []) := at_rounds (fun k => hypercubelaw1_Facts.mono _ _ _ _ k) (by omega) hF
  unfold hypercubelaw10_SortsMany.f
  rw [SortsManyp.known_f, Option.bind_some, if_pos rfl, e0, Option.bind_some]
  dsimp only
  exact e1

end Go.Proofs.Ytlplaidcdocbmaa.Pure
