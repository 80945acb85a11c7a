-- Cut by pack.py, a program of this session; not trusted: Lean checks it.
import Derived.Test.YtlplaidcdocbmaaZCore14
import Derived.Test.YtlplaidcdocbmaaZPlainV
import Derived.Test.YtlplaidcdocbmaaZPSortsLeastx8
/- SortsLeast: its plain side. -/
namespace Go.Proofs.Ytlplaidcdocbmaa.Pure
open Go.RowKit Go.Proofs.Ytlplaidcdocbmaa.PSortsLeast Go.Proofs.YtlplaidcdocbmaaW.PrintWords Go.Proofs.YtlplaidcdocbmaaW.PrintLast Go.Proofs.YtlplaidcdocbmaaW.PrintMore Go.Proofs.Ytlplaidcdocbmaa.Core
set_option linter.unusedVariables false
set_option linter.unusedSimpArgs false
namespace SortsLeastp
theorem within_f (a n : Int) (hn : 0 < n) (h2 : n ≤ 4611686018427387904) : ∃ z : Nat, hypercubelaw10_within.f a n = some (z : Int) ∧ (z : Int) < n := by
  have h1 := Int.tmod_lt_of_pos a hn
  have h3 := Int.tmod_lt_of_pos (-a) hn
  rw [Int.neg_tmod] at h3
  have key : ∃ z : Int, hypercubelaw10_within.f a n = some z ∧ 0 ≤ z ∧ z < n := by
    unfold hypercubelaw10_within.f
    rw [if_neg (by omega)]
    by_cases h : Int.tmod a n < 0
    · refine ⟨Int.tmod a n + n, ?_, by omega, by omega⟩
      rw [if_pos h]
      congr 1
      unfold wrap64
      omega
    · refine ⟨Int.tmod a n, ?_, by omega, by omega⟩
      rw [if_neg h]
  obtain ⟨z, h, h0, hz⟩ := key
  obtain ⟨m, rfl⟩ := Int.eq_ofNat_of_zero_le h0
  exact ⟨m, h, hz⟩

theorem known_f : hypercubelaw10_known.f = some true := by decide +kernel
theorem within1_f (a n : Int) (hn : 0 < n) (h2 : n ≤ 4611686018427387904) : ∃ z, hypercubelaw1_within.f a n = some z ∧ 0 ≤ z ∧ z < n := by
  have h1 := Int.tmod_lt_of_pos a hn
  have h3 := Int.tmod_lt_of_pos (-a) hn
  rw [Int.neg_tmod] at h3
  unfold hypercubelaw1_within.f
  rw [if_neg (by omega)]
  by_cases h : Int.tmod a n < 0
  · refine ⟨Int.tmod a n + n, ?_, by omega, by omega⟩
    rw [if_pos h]
    congr 1
    unfold wrap64
    omega
  · refine ⟨Int.tmod a n, ?_, by omega, by omega⟩
    rw [if_neg h]

theorem facts_step (k : Nat) (a0 d : Int) (l1 : List Int) (i : Int) (cs : List Int) (m : Int) (hd : hypercubelaw1_within.f a0 4 = some d) (h0 : 0 ≤ i) (hi : i ≤ d) (hd3 : d ≤ 3) (hcs : cs.length ≤ 16) :
    ∃ c, 1 ≤ c ∧ c ≤ 5 ∧ hypercubelaw1_Facts.l0 (k + 1) a0 l1 [] i cs m = hypercubelaw1_Facts.l0 k a0 l1 [] (i + 1) (cs ++ [c]) m := by
  have hw : wrap64 (i + 1) = i + 1 := by unfold wrap64; omega
  by_cases hl : i < (l1.length : Int)
  · obtain ⟨z, hz, hz0, hz1⟩ := within1_f (rd l1 i) 5 (by decide) (by decide)
    refine ⟨1 + z, by omega, by omega, ?_⟩
    have hw2 : wrap64 (1 + z) = 1 + z := by unfold wrap64; omega
    simp only [hypercubelaw1_Facts.l0]
    rw [hd]
    simp only [Option.bind_some]
    rw [if_pos hi, if_pos hl, if_pos h0, hz]
    simp only [Option.bind_some]
    rw [if_pos (by omega), hw, hw2]
  · obtain ⟨z, hz, hz0, hz1⟩ := within1_f (wrap64 (i + 2)) 5 (by decide) (by decide)
    refine ⟨1 + z, by omega, by omega, ?_⟩
    have hw2 : wrap64 (1 + z) = 1 + z := by unfold wrap64; omega
    simp only [hypercubelaw1_Facts.l0]
    rw [hd]
    simp only [Option.bind_some]
    rw [if_pos hi, if_neg hl, hz]
    simp only [Option.bind_some]
    rw [if_pos (by omega), hw, hw2]

theorem facts_end (k : Nat) (a0 d : Int) (l1 : List Int) (i : Int) (cs : List Int) (m : Int) (hd : hypercubelaw1_within.f a0 4 = some d) (hi : d < i) (hcs : 0 < cs.length) :
    ∃ b : Bool, hypercubelaw1_Facts.l0 (k + 4) a0 l1 [] i cs m = some (if b then cs.set 0 16 else cs, m, []) := by
  obtain ⟨z, hz, hz0, hz1⟩ := within1_f a0 7 (by decide) (by decide)
  refine ⟨decide (z = 0), ?_⟩
  simp only [hypercubelaw1_Facts.l0]
  rw [hd]
  simp only [Option.bind_some]
  rw [if_neg (by omega), hz]
  simp only [Option.bind_some]
  by_cases h : z = 0
  · rw [if_pos h, if_pos (by omega)]
    simp [hypercubelaw1_Facts.j1, hypercubelaw1_Facts.l1, hypercubelaw1_Facts.j3, h]
  · rw [if_neg h]
    simp [hypercubelaw1_Facts.j1, hypercubelaw1_Facts.l1, hypercubelaw1_Facts.j3, h]

/-- A schema of numbers: one to four cards, each 1 to 16; no rows of no numbers. -/
theorem facts_nil (a0 : Int) (l1 : List Int) (a2 : Int) : ∃ (cs : List Int) (m : Int), hypercubelaw1_Facts.f 8 a0 l1 a2 [] = some (cs, m, []) ∧
    1 ≤ cs.length ∧ cs.length ≤ 4 ∧ (∀ c ∈ cs, 1 ≤ c ∧ c ≤ 16) ∧ 0 ≤ m ∧ m ≤ 2 := by
  obtain ⟨m, hm, hm0, hm1⟩ := within1_f a2 3 (by decide) (by decide)
  obtain ⟨d, hd, hd0, hd1⟩ := within1_f a0 4 (by decide) (by decide)
  have fin : ∀ (k : Nat) (i : Int) (cs : List Int), d < i → 0 < cs.length → cs.length ≤ 4 → (∀ c ∈ cs, 1 ≤ c ∧ c ≤ 5) →
      ∃ (r : List Int), hypercubelaw1_Facts.l0 (k + 4) a0 l1 [] i cs m = some (r, m, []) ∧ 1 ≤ r.length ∧ r.length ≤ 4 ∧ (∀ c ∈ r, 1 ≤ c ∧ c ≤ 16) := by
    intro k i cs h1 h2 h3 h4
    obtain ⟨b, hb⟩ := facts_end k a0 d l1 i cs m hd h1 h2
    refine ⟨_, hb, ?_, ?_, ?_⟩
    · cases b <;> simp <;> omega
    · cases b <;> simp <;> omega
    · intro c hc
      cases b with
      | false =>
        have := h4 c (by simpa using hc)
        omega
      | true =>
        have hc' : c ∈ cs.set 0 16 := by simpa using hc
        rcases List.mem_or_eq_of_mem_set hc' with h | h
        · have := h4 c h
          omega
        · omega
  have all : ∃ (r : List Int), hypercubelaw1_Facts.l0 8 a0 l1 [] 0 [] m = some (r, m, []) ∧ 1 ≤ r.length ∧ r.length ≤ 4 ∧ (∀ c ∈ r, 1 ≤ c ∧ c ≤ 16) := by
    obtain ⟨c0, h00, h01, e0⟩ := facts_step 7 a0 d l1 0 [] m hd (by omega) (by omega) (by omega) (by simp)
    rw [e0]
    by_cases g1 : d < 1
    · exact fin 3 _ _ (by omega) (by simp) (by simp) (by simp; omega)
    obtain ⟨c1, h10, h11, e1⟩ := facts_step 6 a0 d l1 (0 + 1) ([] ++ [c0]) m hd (by omega) (by omega) (by omega) (by simp)
    rw [e1]
    by_cases g2 : d < 2
    · exact fin 2 _ _ (by omega) (by simp) (by simp) (by simp; omega)
    obtain ⟨c2, h20, h21, e2⟩ := facts_step 5 a0 d l1 (0 + 1 + 1) ([] ++ [c0] ++ [c1]) m hd (by omega) (by omega) (by omega) (by simp)
    rw [e2]
    by_cases g3 : d < 3
    · exact fin 1 _ _ (by omega) (by simp) (by simp) (by simp; omega)
    obtain ⟨c3, h30, h31, e3⟩ := facts_step 4 a0 d l1 (0 + 1 + 1 + 1) ([] ++ [c0] ++ [c1] ++ [c2]) m hd (by omega) (by omega) (by omega) (by simp)
    rw [e3]
    exact fin 0 _ _ (by omega) (by simp) (by simp) (by simp; omega)
  obtain ⟨r, hr, h1, h2, h3⟩ := all
  refine ⟨r, m, ?_, h1, h2, h3, hm0, by omega⟩
  unfold hypercubelaw1_Facts.f
  rw [hm]
  simp only [Option.bind_some]
  exact hr

theorem facts_of (K : Nat) (hK : 8 ≤ K) (a0 : Int) (l1 : List Int) : ∃ (cs : List Int) (m : Int), hypercubelaw1_Facts.f K a0 l1 0 [] = some (cs, m, []) ∧ 1 ≤ cs.length ∧ cs.length ≤ 4 ∧ (∀ c ∈ cs, 1 ≤ c ∧ c ≤ 16) ∧ okCards cs = true := by
  obtain ⟨cs, m, h, h1, h2, h3, _⟩ := facts_nil a0 l1 0
  exact ⟨cs, m, at_rounds (fun k => hypercubelaw1_Facts.mono _ _ _ _ k) hK h, h1, h2, h3, okCards_of h2 (fun x hx => ⟨by have := h3 x hx; omega, (h3 x hx).2⟩)⟩
theorem refsize_l (cs : List Int) (m n : Int) (s : Nat) (hs : s < 16) (hok : okCards cs = true) : ∀ (d i : Nat), i + d = cs.length → ∀ k, hypercuberef8_Size.l0 (k + d + 1) n s (upTo cs s i) (i : Int) cs m = some (sizeI cs n s)
  | 0, i, hi, k => by
    have hlen := okCards_len hok
    have e : i = cs.length := by omega
    subst e
    simp only [hypercuberef8_Size.l0]
    rw [if_neg (by omega), mn_eq, upTo_end]
  | d + 1, i, hi, k => by
    have hlen := okCards_len hok
    have ih := refsize_l cs m n s hs hok d (i + 1) (by omega) k
    obtain ⟨b1, b2⟩ := bit_fin s hs i (by omega)
    have bd := upTo_bd cs s (i + 1) hok (by omega)
    have hn1 := Aside0.mk (next_fin i (by omega))
    show hypercuberef8_Size.l0 ((k + d + 1) + 1) n s (upTo cs s i) (i : Int) cs m = _
    generalize k + d + 1 = K at *
    simp only [hypercuberef8_Size.l0]
    rw [if_pos (by omega), if_pos b1]
    cases hb : s.testBit i with
    | true =>
      rw [hb] at b2
      rw [if_pos (of_decide_eq_true b2), if_pos (by omega), hn1.out, rdn]
      rw [upTo_yes cs s i hb] at bd ih
      rw [w64 _ (by omega) (by omega)]
      exact ih
    | false =>
      rw [hb] at b2
      rw [if_neg (of_decide_eq_false b2), hn1.out]
      rw [upTo_no cs s i hb] at ih
      exact ih
theorem refsize_f (cs : List Int) (m n : Int) (s : Nat) (hs : s < 16) (hok : okCards cs = true) : hypercuberef8_Size.f 20 cs m n s = some (sizeI cs n s) := by
  have hlen := okCards_len hok
  have h := refsize_l cs m n s hs hok cs.length 0 (by omega) (19 - cs.length)
  rw [show 19 - cs.length + cs.length + 1 = 20 by omega] at h
  exact h
theorem refsort_l : ∀ z : Nat, z < 301 → hypercuberef8_Sort.l0 20 z 0 z = some (sortI z) := by decide +kernel
theorem refsort_f (cs : List Int) (m n : Int) (s : Nat) (hs : s < 16) (hok : okCards cs = true) (h1 : ∀ x ∈ cs, 1 ≤ x) (hn : 0 ≤ n ∧ n ≤ 300) : hypercuberef8_Sort.f 20 cs m n s = some (sortI (sizeI cs n s)) := by
  obtain ⟨b1, b2, _⟩ := sizeI_bd cs h1 n s hn.1
  unfold hypercuberef8_Sort.f
  rw [refsize_f cs m n s hs hok, Option.bind_some]
  generalize sizeI cs n s = z at *
  obtain ⟨k, rfl⟩ := Int.eq_ofNat_of_zero_le b1
  exact refsort_l k (by omega)
open Go.Proofs.Ytlplaidcdocbmaa.Srt
def mkE (e : Ed) : S49 := S49.mk e.set e.par e.scan
theorem planE_eq (cs : List Int) (n : Int) : planE S49.mk cs n = (planS (scanC cs n) (sortC cs n) cs.length).map mkE := rfl
theorem rd_map (o : List Ed) (i : Nat) : rd_T49 (o.map mkE) (i : Int) = ⟨(o.getD i ed0).set, (o.getD i ed0).par, (o.getD i ed0).scan⟩ := by
  unfold rd_T49
  rw [Int.toNat_natCast]
  simp only [List.getD_eq_getElem?_getD, List.getElem?_map]
  cases o[i]? <;> rfl
theorem rd_mapE (o : List Ed) (i : Nat) : rd_T49 (o.map mkE) (i : Int) = mkE (o.getD i ed0) := rd_map o i
theorem toEds_map (o : List Ed) : toEds S49.f0 S49.f1 S49.f2 (o.map mkE) = o := by
  unfold toEds
  rw [List.map_map]
  have : (toEd S49.f0 S49.f1 S49.f2 ∘ mkE) = id := by funext e; rfl
  rw [this, List.map_id]
theorem plan_f (cs : List Int) (m n : Int) (hok : okCards cs = true) (h1 : ∀ x ∈ cs, 1 ≤ x) (h0 : 0 ≤ n) (hn : n ≤ 300) : sorts_Plan.f cs m n = some ((planS (scanC cs n) (sortC cs n) cs.length).map mkE) := by
  unfold sorts_Plan.f
  rw [if_pos (okP_of hok h1 h0 hn), planE_eq]
theorem w64n (j : Nat) (h : j ≤ 1000) : wrap64 ((j : Int) + 1) = ((j + 1 : Nat) : Int) := next_fin j h
theorem right_f (o : List Ed) (d : Nat) (hd : d < 5) (h : RightPlan d o) : sorts_Right.f (o.map mkE) (d : Int) = some true := by
  unfold sorts_Right.f
  rw [toEds_map, if_pos ⟨⟨by omega, by omega⟩, (right_okW hd h).1⟩]
  rw [Int.toNat_natCast, (rightS_iff d hd o).2 h]

theorem cost_f (cs : List Int) (m n : Int) (o : List Ed) (hok : okCards cs = true) (h1 : ∀ x ∈ cs, 1 ≤ x) (h0 : 0 ≤ n) (hn : n ≤ 300) (ho : okC o = true) : sorts_Cost.f cs m n (o.map mkE) = some (costP (scanC cs n) (sortC cs n) o) := by
  unfold sorts_Cost.f
  rw [toEds_map, if_pos ⟨okP_of hok h1 h0 hn, ho⟩]

theorem par_ref : ∀ d : Nat, d < 5 → ∀ s : Nat, s < 2 ^ d → hypercuberef8_Parents.f 40 (s : Int) (d : Int) = some (ofN (parents s d)) := by decide +kernel
theorem par_none : ∀ d : Nat, d < 5 → parents ((sets d).getD 0 0) d = [] := by decide +kernel
theorem sets_ref : ∀ d : Nat, d < 5 → hypercuberef8_Sets.f 100 (d : Int) = some (ofN (sets d)) := by decide +kernel
theorem rd_ofN (P : List Nat) (j : Nat) (h : j < P.length) : rd (ofN P) (j : Int) = ((P[j] : Nat) : Int) := by
  rw [rdn]; simp [ofN, List.getD_eq_getElem?_getD, h]
theorem ofN_len (P : List Nat) : (ofN P).length = P.length := by simp [ofN]
/-- What is so of a plan that is laid as far as here. -/
def Laid (d i : Nat) (E : List Ed) (X : List Int) : Prop := E.map (·.set) = ((sets d).take i).map (fun (s : Nat) => (s : Int)) ∧ (∀ j, j < E.length → (j = 0 → (E.getD j ed0).par = -1 ∧ (E.getD j ed0).scan = false) ∧ (j ≠ 0 → ∃ p : Nat, (E.getD j ed0).par = (p : Int) ∧ p ∈ parents ((E.getD j ed0).set.toNat) d)) ∧ X = (E.filter (·.scan)).map (·.par) ∧ X.Nodup
theorem laid_len {d i : Nat} {E : List Ed} {X : List Int} (h : Laid d i E X) (hi : i ≤ (sets d).length) : E.length = i := by
  have := congrArg List.length h.1
  simp only [List.length_map, List.length_take] at this
  omega
theorem laid_end {d : Nat} (hd : d < 5) {E : List Ed} {X : List Int} (h : Laid d (sets d).length E X) : RightPlan d E := by
  have hl := laid_len h (Nat.le_refl _)
  obtain ⟨h1, h2, h3, h4⟩ := h
  have hs := sets_levels d hd
  rw [List.take_length] at h1
  cases E with
  | nil => rw [hs] at hl; simp at hl
  | cons e0 r =>
    rw [hs, List.map_cons, List.map_cons] at h1
    obtain ⟨a1, a2⟩ := List.cons.inj h1
    obtain ⟨b1, b2⟩ := (h2 0 (by simp)).1 rfl
    have b1 : e0.par = -1 := b1
    have b2 : e0.scan = false := b2
    refine ⟨e0, r, rfl, a1, b1, b2, a2, ?_, ?_⟩
    · intro e he
      obtain ⟨j, hj, rfl⟩ := List.mem_iff_getElem.1 he
      have := (h2 (j + 1) (by simp; omega)).2 (by omega)
      rw [getD_of_lt _ _ _ (show j + 1 < (e0 :: r).length by simp; omega)] at this
      exact this
    · rw [h3, List.filter_cons, b2] at h4
      exact h4
theorem laid_snoc {d i : Nat} {E : List Ed} {X : List Int} (h : Laid d i E X) (hi : i < (sets d).length) (e : Ed) (hs : e.set = (((sets d).getD i 0 : Nat) : Int))
    (h0 : i = 0 → e.par = -1 ∧ e.scan = false) (h1 : i ≠ 0 → ∃ p : Nat, e.par = (p : Int) ∧ p ∈ parents ((sets d).getD i 0) d) (hx : e.scan = true → e.par ∉ X) : Laid d (i + 1) (E ++ [e]) (if e.scan then X ++ [e.par] else X) := by
  have hl := laid_len h (by omega)
  obtain ⟨a1, a2, a3, a4⟩ := h
  refine ⟨?_, ?_, ?_, ?_⟩
  · rw [List.map_append, a1, List.take_succ_eq_append_getElem hi, List.map_append, List.map_singleton, List.map_singleton, hs, getD_of_lt _ _ _ hi]
  · intro j hj
    by_cases hje : j < E.length
    · have e1 : (E ++ [e]).getD j ed0 = E.getD j ed0 := by simp [List.getD_eq_getElem?_getD, List.getElem?_append_left hje]
      rw [e1]
      exact a2 j hje
    · have hje' : j = i := by simp at hj; omega
      subst hje'
      have e1 : (E ++ [e]).getD j ed0 = e := by rw [← hl]; simp [List.getD_eq_getElem?_getD]
      rw [e1]
      refine ⟨h0, fun hj0 => ?_⟩
      obtain ⟨p, hp, hm⟩ := h1 hj0
      exact ⟨p, hp, by rw [hs]; simpa using hm⟩
  · rw [List.filter_append, List.map_append, ← a3]
    cases he : e.scan with
    | true => simp [he]
    | false => simp [he]
  · cases he : e.scan with
    | true =>
      rw [if_pos rfl]
      refine List.nodup_append.2 ⟨a4, by simp, ?_⟩
      intro a ha b hb hab
      have : b = e.par := by simpa using hb
      subst this
      exact hx he (hab ▸ ha)
    | false => rw [if_neg (by decide)]; exact a4
section
variable (d : Nat) (ns : List Int)
def Goes (o : Option (List S49)) : Prop := ∃ E' : List Ed, o = some (E'.map mkE) ∧ RightPlan d E'
theorem oth_l1 (E : List Ed) (hE : E.length ≤ 16) (X : List Int) (hX : X.length ≤ 16) (i : Nat) (s p : Int)
    (h1 : p ∉ X → ∃ k, Goes d (hypercubelaw10_Other.l0 k d ns (E.map mkE ++ [⟨s, p, true⟩]) (ofN (sets d)) (X ++ [p]) (wrap64 ((i : Int) + 1))))
    (h2 : ∃ k, Goes d (hypercubelaw10_Other.l0 k d ns (E.map mkE ++ [⟨s, p, false⟩]) (ofN (sets d)) X (wrap64 ((i : Int) + 1)))) :
    ∀ (q j : Nat) (b : Bool), j + q = X.length → (b = true → p ∉ X.take j) → ∃ k, Goes d (hypercubelaw10_Other.l1 k d ns (E.map mkE) (ofN (sets d)) X (i : Int) (j : Int) s p b)
  | 0, j, b, hj, hb => by
    have hm : (E.map mkE).length = E.length := List.length_map ..
    cases b with
    | true =>
      obtain ⟨k, hk⟩ := h1 (by have := hb rfl; rwa [List.take_of_length_le (by omega)] at this)
      refine ⟨k + 1, ?_⟩
      simp only [hypercubelaw10_Other.l1]
      rw [if_neg (by omega), if_pos trivial, if_pos (by omega), if_pos (by omega)]
      exact hk
    | false =>
      obtain ⟨k, hk⟩ := h2
      refine ⟨k + 1, ?_⟩
      simp only [hypercubelaw10_Other.l1]
      rw [if_neg (by omega), if_neg (by decide), if_pos (by omega)]
      exact hk
  | q + 1, j, b, hj, hb => by
    have hn1 := Aside0.mk (w64n j (by omega))
    have hlt : j < X.length := by omega
    have htk : X.take (j + 1) = X.take j ++ [X[j]] := List.take_succ_eq_append_getElem hlt
    have hrd : rd X (j : Int) = X[j] := by rw [rdn, getD_of_lt _ _ _ hlt]
    by_cases he : X[j] = p
    · obtain ⟨k, hk⟩ := oth_l1 E hE X hX i s p h1 h2 q (j + 1) false (by omega) (fun h => by cases h)
      refine ⟨k + 1, ?_⟩
      simp only [hypercubelaw10_Other.l1]
      rw [if_pos (by omega), if_pos (by omega), hrd, if_pos he, hn1.out]
      exact hk
    · obtain ⟨k, hk⟩ := oth_l1 E hE X hX i s p h1 h2 q (j + 1) b (by omega) (fun h hm => by
        rw [htk] at hm
        rcases List.mem_append.1 hm with hm | hm
        · exact hb h hm
        · exact he (List.mem_singleton.1 hm).symm)
      refine ⟨k + 1, ?_⟩
      simp only [hypercubelaw10_Other.l1]
      rw [if_pos (by omega), if_pos (by omega), hrd, if_neg he, hn1.out]
      exact hk
theorem oth_l0 (hd : d < 5) : ∀ (q i : Nat) (E : List Ed) (X : List Int), i + q = (sets d).length → Laid d i E X → ∃ k, Goes d (hypercubelaw10_Other.l0 k d ns (E.map mkE) (ofN (sets d)) X (i : Int))
  | 0, i, E, X, hi, h => by
    have e : i = (sets d).length := by omega
    subst e
    refine ⟨1, E, ?_, laid_end hd h⟩
    simp only [hypercubelaw10_Other.l0]
    rw [if_neg (by rw [ofN_len]; omega)]
  | q + 1, i, E, X, hi, h => by
    have hle : 2 ^ d ≤ 16 := Nat.pow_le_pow_right (by omega) (show d ≤ 4 by omega)
    have hsl := (sets_fin d hd).1
    have hlt : i < (sets d).length := by omega
    have hl := laid_len h (by omega)
    have hm : (E.map mkE).length = E.length := List.length_map ..
    have hXl : X.length ≤ E.length := by
      rw [h.2.2.1, List.length_map]; exact List.length_filter_le ..
    have hfin := (sets_fin d hd).2 i (by omega)
    have hn1 := Aside0.mk (w64n i (by omega))
    have hrd : rd (ofN (sets d)) (i : Int) = (((sets d).getD i 0 : Nat) : Int) := by rw [rd_ofN _ _ hlt, getD_of_lt _ _ _ hlt]
    have hpr := par_ref d hd _ hfin.1
    have hsn := fun e => laid_snoc h hlt e
    have hp0 := par_none d hd
    have ih := fun E' X' h' => oth_l0 hd q (i + 1) E' X' (by omega) h'
    generalize hss : (sets d).getD i 0 = s at *
    have hol : (ofN (sets d)).length = (sets d).length := ofN_len _
    have happ : ∀ e : Ed, E.map mkE ++ [⟨e.set, e.par, e.scan⟩] = (E ++ [e]).map mkE := fun e => by rw [List.map_append]; rfl
    by_cases hi0 : i = 0
    · have hP : parents s d = [] := by rw [← hss, hi0]; exact hp0
      obtain ⟨k, hk⟩ := ih _ _ (hsn ⟨(s : Int), -1, false⟩ rfl (fun _ => ⟨rfl, rfl⟩) (fun h => absurd hi0 h) (fun h => by cases h))
      rw [if_neg (by simp), ← happ] at hk
      have hk2 := hk
      obtain ⟨E', hk, hR⟩ := hk
      have hk := at_rounds (fun k => (hypercubelaw10_Other.mono_l k).1 _ _ _ _ _ _) (show k ≤ k + 40 by omega) hk
      have hpr := at_rounds (fun k => hypercuberef8_Parents.mono _ _ k) (show 40 ≤ k + 40 by omega) hpr
      refine ⟨k + 40 + 1, E', ?_, hR⟩
      generalize k + 40 = K at *
      simp only [hypercubelaw10_Other.l0]
      rw [if_pos (by omega), if_pos (by omega), hrd, hpr, Option.bind_some, if_pos (by rw [ofN_len, hP]; rfl), if_pos (by omega), hn1.out]
      exact hk
    · have hne := hfin.2 hi0
      have hPl := parents_len s d (by omega)
      have hlp : (parents s d).length ≠ 0 := fun e => hne (List.length_eq_zero_iff.1 e)
      have hj : ∀ v : Int, ∃ k, Goes d (hypercubelaw10_Other.j1 k d ns (E.map mkE) (ofN (sets d)) X (i : Int) (ofN (parents s d)) v) := by
        intro v
        obtain ⟨z, hz, hzl⟩ := within_f v ((parents s d).length : Int) (by omega) (by omega)
        obtain ⟨y, hy, hyl⟩ := within_f (wrap64 (Int.tdiv v 4)) 2 (by decide) (by decide)
        have hzlt : z < (parents s d).length := by omega
        have hmem : (parents s d)[z] ∈ parents s d := List.getElem_mem hzlt
        have hrp := rd_ofN (parents s d) z hzlt
        generalize hpp : (parents s d)[z] = p at *
        have hc1 : ((p : Nat) : Int) ∉ X → ∃ k, Goes d (hypercubelaw10_Other.l0 k d ns (E.map mkE ++ [⟨(s : Int), ((p : Nat) : Int), true⟩]) (ofN (sets d)) (X ++ [((p : Nat) : Int)]) (wrap64 ((i : Int) + 1))) := by
          intro hx
          obtain ⟨k, hk⟩ := ih _ _ (hsn ⟨(s : Int), (p : Int), true⟩ rfl (fun h => absurd h hi0) (fun _ => ⟨p, rfl, hmem⟩) (fun _ => hx))
          rw [if_pos rfl, ← happ] at hk
          rw [hn1.out]
          exact ⟨k, hk⟩
        have hc2 : ∃ k, Goes d (hypercubelaw10_Other.l0 k d ns (E.map mkE ++ [⟨(s : Int), ((p : Nat) : Int), false⟩]) (ofN (sets d)) X (wrap64 ((i : Int) + 1))) := by
          obtain ⟨k, hk⟩ := ih _ _ (hsn ⟨(s : Int), (p : Int), false⟩ rfl (fun h => absurd h hi0) (fun _ => ⟨p, rfl, hmem⟩) (fun h => by cases h))
          rw [if_neg (by simp), ← happ] at hk
          rw [hn1.out]
          exact ⟨k, hk⟩
        obtain ⟨k, hk⟩ := oth_l1 d ns E (by omega) X (by omega) i (s : Int) (p : Int) hc1 hc2 X.length 0 ((y : Int) == 0) (by omega) (fun _ => by simp)
        refine ⟨k + 1, ?_⟩
        simp only [hypercubelaw10_Other.j1]
        rw [if_pos (by omega), if_pos (by omega), show ((ofN (parents s d)).length : Int) = ((parents s d).length : Int) by rw [ofN_len], hz, Option.bind_some, if_pos (by omega), if_pos (by omega), hy, Option.bind_some, hrd, hrp]
        exact hk
      have hjj : ∃ k, Goes d (if (i : Int) < (ns.length : Int) then hypercubelaw10_Other.j1 k d ns (E.map mkE) (ofN (sets d)) X (i : Int) (ofN (parents s d)) (rd ns (i : Int)) else hypercubelaw10_Other.j1 k d ns (E.map mkE) (ofN (sets d)) X (i : Int) (ofN (parents s d)) (i : Int)) := by
        by_cases hin : (i : Int) < (ns.length : Int)
        · obtain ⟨k, hk⟩ := hj (rd ns (i : Int)); exact ⟨k, by rw [if_pos hin]; exact hk⟩
        · obtain ⟨k, hk⟩ := hj (i : Int); exact ⟨k, by rw [if_neg hin]; exact hk⟩
      obtain ⟨k, E', hk, hR⟩ := hjj
      have hk : (if (i : Int) < (ns.length : Int) then hypercubelaw10_Other.j1 (k + 40) d ns (E.map mkE) (ofN (sets d)) X (i : Int) (ofN (parents s d)) (rd ns (i : Int)) else hypercubelaw10_Other.j1 (k + 40) d ns (E.map mkE) (ofN (sets d)) X (i : Int) (ofN (parents s d)) (i : Int)) = some (E'.map mkE) := by
        by_cases hin : (i : Int) < (ns.length : Int)
        · rw [if_pos hin] at hk ⊢; exact at_rounds (fun k => (hypercubelaw10_Other.mono_l k).2.1 _ _ _ _ _ _ _ _) (show k ≤ k + 40 by omega) hk
        · rw [if_neg hin] at hk ⊢; exact at_rounds (fun k => (hypercubelaw10_Other.mono_l k).2.1 _ _ _ _ _ _ _ _) (show k ≤ k + 40 by omega) hk
      have hpr := at_rounds (fun k => hypercuberef8_Parents.mono _ _ k) (show 40 ≤ k + 40 by omega) hpr
      refine ⟨k + 40 + 1, E', ?_, hR⟩
      generalize k + 40 = K at *
      simp only [hypercubelaw10_Other.l0]
      rw [if_pos (by omega), if_pos (by omega), hrd, hpr, Option.bind_some, if_neg (by rw [ofN_len]; omega)]
      exact hk
theorem other_f (hd : d < 5) : ∃ (k0 : Nat) (E : List Ed), RightPlan d E ∧ ∀ k, k0 ≤ k → hypercubelaw10_Other.f k (d : Int) ns = some (E.map mkE) := by
  obtain ⟨k, E, hk, hR⟩ := oth_l0 d ns hd (sets d).length 0 [] [] (by omega) ⟨rfl, fun j hj => absurd hj (by simp), rfl, List.nodup_nil⟩
  refine ⟨k + 100, E, hR, fun k' hk' => ?_⟩
  unfold hypercubelaw10_Other.f
  rw [show hypercuberef8_Sets.f k' (d : Int) = some (ofN (sets d)) from at_rounds (fun k => hypercuberef8_Sets.mono _ k) (by omega) (sets_ref d hd), Option.bind_some]
  exact at_rounds (fun k => (hypercubelaw10_Other.mono_l k).1 _ _ _ _ _ _) (show k ≤ k' by omega) hk
end

theorem refsort_k (q : Nat) (hq : 21 ≤ q) (cs : List Int) (m n : Int) (s : Nat) (hs : s < 16) (hok : okCards cs = true) (h1 : ∀ x ∈ cs, 1 ≤ x) (hn : 0 ≤ n ∧ n ≤ 300) : hypercuberef8_Sort.f q cs m n s = some (sortC cs n s) := at_rounds (fun k => hypercuberef8_Sort.mono _ _ _ _ k) (show 20 ≤ q by omega) (refsort_f cs m n s hs hok h1 hn)
theorem refscan_k (q : Nat) (hq : 21 ≤ q) (cs : List Int) (m n : Int) (s : Nat) (hs : s < 16) (hok : okCards cs = true) : hypercuberef8_Scan.f q cs m n s = some (scanC cs n s) := by
  unfold hypercuberef8_Scan.f
  rw [at_rounds (fun k => hypercuberef8_Size.mono _ _ _ _ k) (show 20 ≤ q by omega) (refsize_f cs m n s hs hok), Option.bind_some]
  rfl

theorem refcost_l0 (cs : List Int) (m n : Int) (hok : okCards cs = true) (h1 : ∀ x ∈ cs, 1 ≤ x) (hn : 0 ≤ n ∧ n ≤ 300) (E : List Ed) (hE : E.length ≤ 16) (hp : ∀ e ∈ E, e.par < 0 ∨ ∃ p : Nat, e.par = (p : Int) ∧ p < 16) :
    ∀ (q i : Nat), i + q = E.length → ∀ k, 21 ≤ k → hypercuberef10_Cost.l0 (k + q + 1) n (E.map mkE) (costP (scanC cs n) (sortC cs n) (E.take i)) (i : Int) cs m = some (costP (scanC cs n) (sortC cs n) E)
  | 0, i, hi, k, hk => by
    simp only [hypercuberef10_Cost.l0]
    rw [if_neg (by rw [List.length_map]; omega), List.take_of_length_le (by omega)]
  | q + 1, i, hi, k, hk => by
    have ih := refcost_l0 cs m n hok h1 hn E hE hp q (i + 1) (by omega) k hk
    have hlt : i < E.length := by omega
    have hn1 := Aside0.mk (w64n i (by omega))
    have htk : E.take (i + 1) = E.take i ++ [E.getD i ed0] := by rw [getD_of_lt _ _ _ hlt]; exact List.take_succ_eq_append_getElem hlt
    have hrd := rd_mapE E i
    have hpi := hp (E.getD i ed0) (by rw [getD_of_lt _ _ _ hlt]; exact List.getElem_mem hlt)
    have hm : (E.map mkE).length = E.length := List.length_map ..
    have C := cheap_of h1 hn
    have hb := costP_bd C (E.take (i + 1)) (fun e he => hp e (List.mem_of_mem_take he))
    have hbl : (E.take (i + 1)).length ≤ 16 := by rw [List.length_take]; omega
    rw [htk, costP_append] at ih hb
    rw [htk] at hbl
    have hcs : ∀ e : Ed, costP (scanC cs n) (sortC cs n) [e] = costE (scanC cs n) (sortC cs n) e := fun e => by unfold costP; simp
    rw [hcs] at ih hb
    generalize E.getD i ed0 = e at *
    have hw := Aside0.mk (w64 (costP (scanC cs n) (sortC cs n) (E.take i) + costE (scanC cs n) (sortC cs n) e) (by omega) (by omega))
    rw [show k + (q + 1) + 1 = (k + q + 1) + 1 by omega]
    have hKq : 21 ≤ k + q + 1 := by omega
    generalize k + q + 1 = K at *
    simp only [hypercuberef10_Cost.l0]
    rw [if_pos (by omega), if_pos (by omega), hrd, hn1.out]
    show (if e.par < 0 then _ else (if e.scan = true then ((hypercuberef8_Scan.f K cs m n e.par).bind fun t => _) else ((hypercuberef8_Sort.f K cs m n e.par).bind fun t => _))) = _
    by_cases h0 : e.par < 0
    · rw [if_pos h0]
      have : costE (scanC cs n) (sortC cs n) e = 0 := by unfold costE; rw [if_pos h0]
      rw [this, Int.add_zero] at ih
      exact ih
    · obtain ⟨p, hpp, hpl⟩ := hpi.resolve_left h0
      rw [if_neg h0, hpp]
      by_cases hs : e.scan = true
      · have : costE (scanC cs n) (sortC cs n) e = scanC cs n p := by unfold costE; rw [if_neg h0, if_pos hs, hpp]; rfl
        rw [if_pos hs, refscan_k K hKq cs m n p hpl hok, Option.bind_some, ← this, hw.out]
        exact ih
      · have : costE (scanC cs n) (sortC cs n) e = sortC cs n p := by unfold costE; rw [if_neg h0, if_neg hs, hpp]; rfl
        rw [if_neg hs, refsort_k K hKq cs m n p hpl hok h1 hn, Option.bind_some, ← this, hw.out]
        exact ih
theorem refcost_f (cs : List Int) (m n : Int) (hok : okCards cs = true) (h1 : ∀ x ∈ cs, 1 ≤ x) (hn : 0 ≤ n ∧ n ≤ 300) (E : List Ed) (hE : E.length ≤ 16) (hp : ∀ e ∈ E, e.par < 0 ∨ ∃ p : Nat, e.par = (p : Int) ∧ p < 16) (k : Nat) (hk : 50 ≤ k) : hypercuberef10_Cost.f k cs m n (E.map mkE) = some (costP (scanC cs n) (sortC cs n) E) := by
  have h := refcost_l0 cs m n hok h1 hn E hE hp E.length 0 (by omega) (k - E.length - 1) (by omega)
  rw [show k - E.length - 1 + E.length + 1 = k by omega] at h
  exact h

end SortsLeastp
open SortsLeastp
open Go.Proofs.Ytlplaidcdocbmaa.Srt
theorem SortsLeast : hypercubelaw10_SortsLeast.Pure := by
  intro a0 l1 a2 l3 _ _ _ _ _ _ _ _
  obtain ⟨z, hz, hzl⟩ := SortsLeastp.within_f a2 301 (by decide) (by decide)
  obtain ⟨cs, m, hF, c1, c4, cr, hok⟩ := SortsLeastp.facts_of 8 (Nat.le_refl _) a0 l1
  have h1 : ∀ x ∈ cs, 1 ≤ x := fun x hx => (cr x hx).1
  have hd : cs.length < 5 := by omega
  have C := cheap_of h1 (show 0 ≤ (z : Int) ∧ (z : Int) ≤ 300 by omega)
  have hR := plan_right C hd
  have hP := SortsLeastp.plan_f cs m _ hok h1 (show 0 ≤ (z : Int) by omega) (show (z : Int) ≤ 300 by omega)
  obtain ⟨k1, O, hO, e1⟩ := SortsLeastp.other_f cs.length l3 hd
  have hle := plan_least C hd O hO
  generalize planS (scanC cs (z : Int)) (sortC cs (z : Int)) cs.length = E at *
  obtain ⟨r1, r2, r3⟩ := right_at_i hd hO
  have hl16 : 2 ^ cs.length ≤ 16 := Nat.pow_le_pow_right (by omega) (show cs.length ≤ 4 by omega)
  have e3 := SortsLeastp.cost_f cs m (z : Int) E hok h1 (by omega) (by omega) (right_okW hd hR).2
  have e4 := SortsLeastp.cost_f cs m (z : Int) O hok h1 (by omega) (by omega) (right_okW hd hO).2
  have e5 := SortsLeastp.right_f O cs.length hd hO
  have e6 := SortsLeastp.refcost_f cs m (z : Int) hok h1 (by omega) O (by omega) (right_pars hd hO) (k1 + 58) (by omega)
  have e0 : hypercubelaw1_Facts.f (k1 + 58) a0 l1 0 [] = some (cs, m, []) := at_rounds (fun k => hypercubelaw1_Facts.mono _ _ _ _ k) (by omega) hF
  have e1 := e1 (k1 + 58) (by omega)
  refine ⟨k1 + 58, ?_⟩
  unfold hypercubelaw10_SortsLeast.f
  rw [SortsLeastp.known_f, Option.bind_some, if_pos rfl, e0, Option.bind_some, hz, Option.bind_some]
  dsimp only
  rw [hP, Option.bind_some, e1, Option.bind_some, e5, Option.bind_some, if_pos rfl, e3, Option.bind_some, e4, Option.bind_some, if_pos hle, Option.bind_some, e6, Option.bind_some]
  simp

end Go.Proofs.Ytlplaidcdocbmaa.Pure
