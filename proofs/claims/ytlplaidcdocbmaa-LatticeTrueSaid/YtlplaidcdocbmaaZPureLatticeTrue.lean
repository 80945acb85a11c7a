-- Cut by pack.py, a program of this session; not trusted: Lean checks it.
import Derived.Test.YtlplaidcdocbmaaZCore13
import Derived.Test.YtlplaidcdocbmaaZPLatticeTruex3
/- LatticeTrue: its plain side. -/
namespace Go.Proofs.Ytlplaidcdocbmaa.Pure
open Go.RowKit Go.Proofs.Ytlplaidcdocbmaa.PLatticeTrue Go.Proofs.YtlplaidcdocbmaaW.PrintWords Go.Proofs.YtlplaidcdocbmaaW.PrintLast Go.Proofs.YtlplaidcdocbmaaW.PrintMore Go.Proofs.Ytlplaidcdocbmaa.Core
set_option linter.unusedVariables false
set_option linter.unusedSimpArgs false
set_option linter.unusedSectionVars false
namespace LatticeTruep
theorem within_f (a n : Int) (hn : 0 < n) (h2 : n ≤ 4611686018427387904) : ∃ z : Nat, hypercubelaw8_within.f a n = some (z : Int) ∧ (z : Int) < n := by
  have h1 := Int.tmod_lt_of_pos a hn
  have h3 := Int.tmod_lt_of_pos (-a) hn
  rw [Int.neg_tmod] at h3
  have key : ∃ z : Int, hypercubelaw8_within.f a n = some z ∧ 0 ≤ z ∧ z < n := by
    unfold hypercubelaw8_within.f
    rw [if_neg (by omega)]
    by_cases h : Int.tmod a n < 0
    · refine ⟨Int.tmod a n + n, ?_, by omega, by omega⟩
      rw [if_pos h]
      congr 1
      unfold wrap64
      omega
    · refine ⟨Int.tmod a n, ?_, by omega, by omega⟩
      rw [if_neg h]
  obtain ⟨z, h, h0, hz⟩ := key
  obtain ⟨m, rfl⟩ := Int.eq_ofNat_of_zero_le h0
  exact ⟨m, h, hz⟩

theorem known_f : hypercubelaw8_known.f = some true := by decide +kernel
theorem size_f (cs : List Int) (m n s : Int) (hok : okCards cs = true) (hn : 0 ≤ n ∧ n ≤ 1000000) (hs : 0 ≤ s ∧ s < 16) : lattice_Size.f cs m n s = some (sizeI cs n s) := by
  unfold lattice_Size.f
  rw [if_pos ⟨hok, hn, hs⟩]
theorem within1_f (a n : Int) (hn : 0 < n) (h2 : n ≤ 4611686018427387904) : ∃ z, hypercubelaw1_within.f a n = some z ∧ 0 ≤ z ∧ z < n := by
  have h1 := Int.tmod_lt_of_pos a hn
  have h3 := Int.tmod_lt_of_pos (-a) hn
  rw [Int.neg_tmod] at h3
  unfold hypercubelaw1_within.f
  rw [if_neg (by omega)]
  by_cases h : Int.tmod a n < 0
  · refine ⟨Int.tmod a n + n, ?_, by omega, by omega⟩
    rw [if_pos h]
    congr 1
    unfold wrap64
    omega
  · refine ⟨Int.tmod a n, ?_, by omega, by omega⟩
    rw [if_neg h]


theorem w64a (j : Nat) (h : j ≤ 1000) : wrap64 ((j : Int) + 1) = ((j + 1 : Nat) : Int) := next_fin j h
/-- A row of facts whose key fits the cards. -/
def GoodRow (cs : List Int) (r : S39) : Prop := r.f0.length = cs.length ∧ ∀ d, d < cs.length → 0 ≤ r.f0.getD d 0 ∧ r.f0.getD d 0 < cs.getD d 0
def FactsOut (cs : List Int) (m : Int) (o : Option (List Int × Int × List S39)) : Prop := ∃ R, o = some (cs, m, R) ∧ R.length ≤ 40 ∧ ∀ r ∈ R, GoodRow cs r
section
variable (ns : List Int) (cs : List Int) (m : Int) (hm : 0 ≤ m ∧ m ≤ 2) (hcs : ∀ c ∈ cs, 1 ≤ c ∧ c ≤ 16) (hl4 : cs.length ≤ 4)
include hm in
theorem fr_l3 (X : List S39) (hX : X.length ≤ 40) (i v : Int) (key : List Int) (hn : ∀ r : S39, r.f0 = key → ∃ k, FactsOut cs m (hypercubelaw1_Facts.l1 k ns (X ++ [r]) (wrap64 (i + 1)) cs m)) :
    ∀ (q : Nat) (j : Int) (ms : List Int), 0 ≤ j → j + q = m → ms.length = j.toNat → ∃ k, FactsOut cs m (hypercubelaw1_Facts.l3 k ns X i v j cs m key ms)
  | 0, j, ms, h0, hj, hms => by
    obtain ⟨k, hk⟩ := hn ⟨key, ms⟩ rfl
    refine ⟨k + 1, ?_⟩
    simp only [hypercubelaw1_Facts.l3]
    rw [if_neg (by omega), if_pos (by omega)]
    exact hk
  | q + 1, j, ms, h0, hj, hms => by
    obtain ⟨z, hz, hz0, hz1⟩ := within1_f (wrap64 (v + (wrap64 (7 * j)))) 201 (by decide) (by decide)
    have hw := Aside0.mk (w64 (j + 1) (by omega) (by omega))
    obtain ⟨k, hk⟩ := fr_l3 X hX i v key hn q (j + 1) (ms ++ [wrap64 (z - 100)]) (by omega) (by omega) (by rw [List.length_append, List.length_singleton]; omega)
    refine ⟨k + 1, ?_⟩
    simp only [hypercubelaw1_Facts.l3]
    rw [if_pos (by omega), hz, Option.bind_some, if_pos (by omega), hw.out]
    exact hk
include hm hcs hl4 in
theorem fr_l2 (X : List S39) (hX : X.length ≤ 40) (i : Int) (hn : ∀ r : S39, GoodRow cs r → ∃ k, FactsOut cs m (hypercubelaw1_Facts.l1 k ns (X ++ [r]) (wrap64 (i + 1)) cs m)) :
    ∀ (q j : Nat) (v : Int) (key : List Int), j + q = cs.length → key.length = j → (∀ d, d < j → 0 ≤ key.getD d 0 ∧ key.getD d 0 < cs.getD d 0) → ∃ k, FactsOut cs m (hypercubelaw1_Facts.l2 k ns X i v (j : Int) cs m key)
  | 0, j, v, key, hj, hk, hg => by
    have e : j = cs.length := by omega
    subst e
    obtain ⟨k, hk⟩ := fr_l3 ns cs m hm X hX i v key (fun r hr => hn r ⟨by rw [hr, hk], by rw [hr]; exact hg⟩) m.toNat 0 [] (by omega) (by omega) rfl
    refine ⟨k + 1, ?_⟩
    simp only [hypercubelaw1_Facts.l2]
    rw [if_neg (by omega)]
    exact hk
  | q + 1, j, v, key, hj, hk, hg => by
    have hlt : j < cs.length := by omega
    have hc := hcs cs[j] (List.getElem_mem hlt)
    have hrd : rd cs (j : Int) = cs[j] := by rw [rdn]; simp [List.getD_eq_getElem?_getD, hlt]
    obtain ⟨z, hz, hz0, hz1⟩ := within1_f v cs[j] (by omega) (by omega)
    have hw := Aside0.mk (w64a j (by omega))
    obtain ⟨k, hk⟩ := fr_l2 X hX i hn q (j + 1) (wrap64 (Int.tdiv v 5)) (key ++ [z]) (by omega) (by rw [List.length_append, List.length_singleton]; omega) (fun d hd => by
      by_cases hdj : d < j
      · have e : (key ++ [z]).getD d 0 = key.getD d 0 := by simp [List.getD_eq_getElem?_getD, List.getElem?_append_left (show d < key.length by omega)]
        rw [e]; exact hg d hdj
      · have e0 : d = key.length := by omega
        have e : (key ++ [z]).getD d 0 = z := by rw [e0]; simp [List.getD_eq_getElem?_getD]
        have e2 : cs.getD d 0 = cs[j] := by
          have : d = j := by omega
          subst this
          simp [List.getD_eq_getElem?_getD, hlt]
        rw [e, e2]; exact ⟨hz0, hz1⟩)
    refine ⟨k + 1, ?_⟩
    simp only [hypercubelaw1_Facts.l2]
    rw [if_pos (by omega), if_pos (by omega), hrd, hz, Option.bind_some, if_pos (by omega), hw.out]
    exact hk
include hm hcs hl4 in
theorem fr_l1 : ∀ (q i : Nat) (X : List S39), i + q = 40 → X.length ≤ i → (∀ r ∈ X, GoodRow cs r) → ∃ k, FactsOut cs m (hypercubelaw1_Facts.l1 k ns X (i : Int) cs m)
  | 0, i, X, hi, hX, hg => by
    refine ⟨2, X, ?_, by omega, hg⟩
    simp only [hypercubelaw1_Facts.l1, hypercubelaw1_Facts.j3]
    rw [decide_eq_false (show ¬ ((i : Int) < 40) by omega)]
    by_cases h : (i : Int) < (ns.length : Int)
    · rw [if_pos h]; simp
    · rw [if_neg h]; simp
  | q + 1, i, X, hi, hX, hg => by
    by_cases h : (i : Int) < (ns.length : Int)
    · have hw := Aside0.mk (w64a i (by omega))
      obtain ⟨k, hk⟩ := fr_l2 ns cs m hm hcs hl4 X (by omega) (i : Int) (fun r hr => by
        rw [hw.out]
        exact fr_l1 q (i + 1) (X ++ [r]) (by omega) (by rw [List.length_append, List.length_singleton]; omega) (fun r' hr' => by
          rcases List.mem_append.1 hr' with h' | h'
          · exact hg r' h'
          · rw [List.mem_singleton.1 h']; exact hr)) cs.length 0 (rd ns (i : Int)) [] (by omega) rfl (fun d hd => absurd hd (by omega))
      refine ⟨k + 1 + 1, ?_⟩
      simp only [hypercubelaw1_Facts.l1, hypercubelaw1_Facts.j3]
      rw [if_pos h, decide_eq_true (show (i : Int) < 40 by omega), if_pos rfl, if_pos (by omega), if_pos h]
      exact hk
    · refine ⟨2, X, ?_, by omega, hg⟩
      simp only [hypercubelaw1_Facts.l1, hypercubelaw1_Facts.j3]
      rw [if_neg h]; simp
end
theorem fr_l0 (a0 : Int) (l1 ns : List Int) (m : Int) (hm : 0 ≤ m ∧ m ≤ 2) (d : Nat) (hd : hypercubelaw1_within.f a0 4 = some (d : Int)) (hd3 : d ≤ 3) :
    ∀ (q i : Nat) (cs : List Int), i + q = d + 1 → cs.length = i → (∀ c ∈ cs, 1 ≤ c ∧ c ≤ 5) → ∃ (k : Nat) (cs' : List Int), FactsOut cs' m (hypercubelaw1_Facts.l0 k a0 l1 ns (i : Int) cs m) ∧ cs'.length = d + 1 ∧ ∀ c ∈ cs', 1 ≤ c ∧ c ≤ 16
  | 0, i, cs, hi, hl, hg => by
    obtain ⟨z, hz, hz0, hz1⟩ := within1_f a0 7 (by decide) (by decide)
    have hg2 : ∀ c ∈ cs, 1 ≤ c ∧ c ≤ 16 := fun c hc => by have := hg c hc; omega
    by_cases h : z = 0
    · have hg3 : ∀ c ∈ cs.set 0 16, 1 ≤ c ∧ c ≤ 16 := fun c hc => by
        rcases List.mem_or_eq_of_mem_set hc with h | h
        · exact hg2 c h
        · omega
      obtain ⟨k, hk⟩ := fr_l1 ns (cs.set 0 16) m hm hg3 (by rw [List.length_set]; omega) 40 0 [] (by omega) (by simp) (fun r hr => by simp at hr)
      refine ⟨k + 1 + 1, cs.set 0 16, ?_, by rw [List.length_set]; omega, hg3⟩
      simp only [hypercubelaw1_Facts.l0, hypercubelaw1_Facts.j1]
      rw [hd, Option.bind_some, if_neg (by omega), hz, Option.bind_some, if_pos h, if_pos (by omega)]
      exact hk
    · obtain ⟨k, hk⟩ := fr_l1 ns cs m hm hg2 (by omega) 40 0 [] (by omega) (by simp) (fun r hr => by simp at hr)
      refine ⟨k + 1 + 1, cs, ?_, by omega, hg2⟩
      simp only [hypercubelaw1_Facts.l0, hypercubelaw1_Facts.j1]
      rw [hd, Option.bind_some, if_neg (by omega), hz, Option.bind_some, if_neg h]
      exact hk
  | q + 1, i, cs, hi, hl, hg => by
    have hw := Aside0.mk (w64a i (by omega))
    have key : ∀ z : Int, 0 ≤ z → z < 5 → ∃ (k : Nat) (cs' : List Int), FactsOut cs' m (hypercubelaw1_Facts.l0 k a0 l1 ns (wrap64 ((i : Int) + 1)) (cs ++ [wrap64 (1 + z)]) m) ∧ cs'.length = d + 1 ∧ ∀ c ∈ cs', 1 ≤ c ∧ c ≤ 16 := by
      intro z h0 h1
      have hz := Aside0.mk (w64 (1 + z) (by omega) (by omega))
      rw [hw.out, hz.out]
      refine fr_l0 a0 l1 ns m hm d hd hd3 q (i + 1) (cs ++ [1 + z]) (by omega) (by rw [List.length_append, List.length_singleton]; omega) (fun c hc => ?_)
      rcases List.mem_append.1 hc with h | h
      · exact hg c h
      · have := List.mem_singleton.1 h; omega
    by_cases hl1 : (i : Int) < (l1.length : Int)
    · obtain ⟨z, hz, hz0, hz1⟩ := within1_f (rd l1 (i : Int)) 5 (by decide) (by decide)
      obtain ⟨k, cs', hk, h2⟩ := key z hz0 hz1
      refine ⟨k + 1, cs', ?_, h2⟩
      simp only [hypercubelaw1_Facts.l0]
      rw [hd, Option.bind_some, if_pos (by omega), if_pos hl1, if_pos (by omega), hz, Option.bind_some, if_pos (by omega)]
      exact hk
    · obtain ⟨z, hz, hz0, hz1⟩ := within1_f (wrap64 ((i : Int) + 2)) 5 (by decide) (by decide)
      obtain ⟨k, cs', hk, h2⟩ := key z hz0 hz1
      refine ⟨k + 1, cs', ?_, h2⟩
      simp only [hypercubelaw1_Facts.l0]
      rw [hd, Option.bind_some, if_pos (by omega), if_neg hl1, hz, Option.bind_some, if_pos (by omega)]
      exact hk
theorem facts_rows (a0 : Int) (l1 : List Int) (a2 : Int) (ns : List Int) : ∃ (k0 : Nat) (cs : List Int) (m : Int) (R : List S39), (∀ k, k0 ≤ k → hypercubelaw1_Facts.f k a0 l1 a2 ns = some (cs, m, R)) ∧ 1 ≤ cs.length ∧ cs.length ≤ 4 ∧ (∀ c ∈ cs, 1 ≤ c ∧ c ≤ 16) ∧ 0 ≤ m ∧ m ≤ 2 ∧ R.length ≤ 40 ∧ ∀ r ∈ R, GoodRow cs r := by
  obtain ⟨m, hm, hm0, hm1⟩ := within1_f a2 3 (by decide) (by decide)
  obtain ⟨d, hd, hd0, hd1⟩ := within1_f a0 4 (by decide) (by decide)
  obtain ⟨dn, rfl⟩ := Int.eq_ofNat_of_zero_le hd0
  obtain ⟨k, cs, ⟨R, hk, h1, h2⟩, h3, h4⟩ := fr_l0 a0 l1 ns m ⟨hm0, by omega⟩ dn hd (by omega) (dn + 1) 0 [] (by omega) rfl (fun c hc => by simp at hc)
  refine ⟨k, cs, m, R, fun k' hk' => ?_, by omega, by omega, h4, hm0, by omega, h1, h2⟩
  refine at_rounds (fun k => hypercubelaw1_Facts.mono _ _ _ _ k) hk' ?_
  unfold hypercubelaw1_Facts.f
  rw [hm, Option.bind_some]
  exact hk

theorem shl_fin : ∀ d : Nat, d < 5 → 0 ≤ IntKind.u64.wrap (d : Int) ∧ shl .i64 1 (IntKind.u64.wrap (d : Int)) = ((2 ^ d : Nat) : Int) := by decide +kernel
/-- All keys of some dimensions. -/
def keysB (cs : List Int) (is : List Nat) : List (List Int) := is.foldl (fun acc i => acc.flatMap fun r => (List.range (cs.getD i 0).toNat).map fun v => r ++ [((v : Nat) : Int)]) [[]]
theorem keysB_snoc (cs : List Int) (is : List Nat) (i : Nat) : keysB cs (is ++ [i]) = (keysB cs is).flatMap fun r => (List.range (cs.getD i 0).toNat).map fun v => r ++ [((v : Nat) : Int)] := by simp [keysB]
theorem keysB_len (cs : List Int) (h : ∀ c ∈ cs, 1 ≤ c) : ∀ is : List Nat, (∀ i ∈ is, i < cs.length) → ((keysB cs is.reverse).length : Int) = prodL cs is.reverse
  | [], _ => rfl
  | i :: is, hi => by
    have ih := keysB_len cs h is (fun j hj => hi j (by simp [hj]))
    have hlt := hi i (by simp)
    have hc : 1 ≤ cs.getD i 0 := by
      have e : cs.getD i 0 = cs[i] := by simp [List.getD_eq_getElem?_getD, hlt]
      rw [e]; exact h _ (List.getElem_mem hlt)
    rw [List.reverse_cons, keysB_snoc, prodL_snoc, ← ih]
    have hsum : ∀ l : List (List Int), (l.flatMap fun r => (List.range (cs.getD i 0).toNat).map fun v => r ++ [((v : Nat) : Int)]).length = l.length * (cs.getD i 0).toNat := by
      intro l
      induction l with
      | nil => simp
      | cons a l ihl => rw [List.flatMap_cons, List.length_append, ihl, List.length_map, List.length_range, List.length_cons, Nat.succ_mul]; omega
    rw [hsum, Int.natCast_mul, Int.toNat_of_nonneg (by omega)]
theorem ints_l0 (x y : List Int) (hx : x.length ≤ 1000) (hxy : x.length = y.length) : ∀ (q i : Nat), i + q = x.length → ∀ k, hypercuberef1_Ints.l0 (k + q + 1) x y (i : Int) = some (decide (x.drop i = y.drop i))
  | 0, i, h, k => by
    simp only [hypercuberef1_Ints.l0]
    rw [if_neg (by omega), List.drop_eq_nil_of_le (by omega), List.drop_eq_nil_of_le (by omega)]
    simp
  | q + 1, i, h, k => by
    have ih := ints_l0 x y hx hxy q (i + 1) (by omega) k
    have hw := Aside0.mk (w64a i (by omega))
    have hlx : i < x.length := by omega
    have hly : i < y.length := by omega
    have rx : rd x (i : Int) = x[i] := by rw [rdn]; simp [List.getD_eq_getElem?_getD, hlx]
    have ry : rd y (i : Int) = y[i] := by rw [rdn]; simp [List.getD_eq_getElem?_getD, hly]
    rw [List.drop_eq_getElem_cons hlx, List.drop_eq_getElem_cons hly]
    rw [show k + (q + 1) + 1 = (k + q + 1) + 1 by omega]
    generalize k + q + 1 = K at *
    simp only [hypercuberef1_Ints.l0]
    rw [if_pos (by omega), if_pos (by omega), if_pos (by omega), rx, ry, hw.out]
    by_cases he : x[i] = y[i]
    · rw [if_pos he, ih]
      congr 1
      rw [decide_eq_decide, List.cons.injEq]
      exact ⟨fun h => ⟨he, h⟩, fun h => h.2⟩
    · rw [if_neg he, decide_eq_false (fun h => he (List.cons.inj h).1)]
theorem ints_f (x y : List Int) (hx : x.length ≤ 1000) (k : Nat) (hk : 1001 ≤ k) : hypercuberef1_Ints.f k x y = some (decide (x = y)) := by
  unfold hypercuberef1_Ints.f
  by_cases h : x.length = y.length
  · rw [if_pos (by omega)]
    have := ints_l0 x y hx h x.length 0 (by omega) (k - x.length - 1)
    rw [show k - x.length - 1 + x.length + 1 = k by omega] at this
    exact this
  · rw [if_neg (by omega), decide_eq_false (fun e => h (by rw [e]))]
section
variable (R : List S39) (cs : List Int) (m : Int) (s : Nat) (hs : s < 16) (hcs : ∀ c ∈ cs, 1 ≤ c ∧ c ≤ 16) (hl4 : cs.length ≤ 4) (hR : R.length ≤ 40) (hg : ∀ r ∈ R, GoodRow cs r)
def idx (n : Nat) : List Nat := (List.range n).filter fun i => s.testBit i
theorem lt_l2 (K : List (List Int)) (hK : K.length ≤ 40) (hKl : ∀ r ∈ K, r.length ≤ 4) (i : Nat) (key : List Int)
    (h1 : key ∈ K → ∃ k, hypercubelaw8_LatticeTrue.l0 k R (s : Int) K (wrap64 ((i : Int) + 1)) cs m = some true)
    (h2 : key ∉ K → ∃ k, hypercubelaw8_LatticeTrue.l0 k R (s : Int) (K ++ [key]) (wrap64 ((i : Int) + 1)) cs m = some true) :
    ∀ (q j : Nat) (b : Bool), j + q = K.length → b = decide (key ∈ K.take j) → ∃ k, hypercubelaw8_LatticeTrue.l2 k R (s : Int) K (i : Int) key b (j : Int) cs m = some true
  | 0, j, b, hj, hb => by
    rw [List.take_of_length_le (by omega)] at hb
    by_cases h : key ∈ K
    · obtain ⟨k, hk⟩ := h1 h
      refine ⟨k + 1, ?_⟩
      simp only [hypercubelaw8_LatticeTrue.l2]
      rw [if_neg (by omega), if_pos (by rw [hb]; exact decide_eq_true h)]
      exact hk
    · obtain ⟨k, hk⟩ := h2 h
      refine ⟨k + 1, ?_⟩
      simp only [hypercubelaw8_LatticeTrue.l2]
      rw [if_neg (by omega), if_neg (by rw [hb, decide_eq_false h]; decide), if_pos (by omega)]
      exact hk
  | q + 1, j, b, hj, hb => by
    have hlt : j < K.length := by omega
    have hw := Aside0.mk (w64a j (by omega))
    have htk : K.take (j + 1) = K.take j ++ [K[j]] := List.take_succ_eq_append_getElem hlt
    by_cases h : key ∈ K.take j
    · obtain ⟨k, hk⟩ := lt_l2 K hK hKl i key h1 h2 q (j + 1) true (by omega) (by rw [htk, decide_eq_true (List.mem_append_left _ h)])
      refine ⟨k + 1, ?_⟩
      simp only [hypercubelaw8_LatticeTrue.l2]
      rw [if_pos (by omega), if_pos (by rw [hb]; exact decide_eq_true h), hw.out]
      exact hk
    · have hrd : rd_L1 K (j : Int) = K[j] := by
        unfold rd_L1
        simp [List.getD_eq_getElem?_getD, hlt]
      obtain ⟨k, hk⟩ := lt_l2 K hK hKl i key h1 h2 q (j + 1) (decide (K[j] = key)) (by omega) (by
        rw [htk]
        by_cases e : K[j] = key
        · rw [decide_eq_true e, decide_eq_true (List.mem_append_right _ (by rw [e]; simp))]
        · rw [decide_eq_false e, decide_eq_false (fun hm => by
            rcases List.mem_append.1 hm with hm | hm
            · exact h hm
            · exact e (List.mem_singleton.1 hm).symm)])
      have hk := at_rounds (fun k => (hypercubelaw8_LatticeTrue.mono_l k).2.2 _ _ _ _ _ _ _ _ _) (show k ≤ k + 1001 by omega) hk
      refine ⟨k + 1001 + 1, ?_⟩
      have hI := ints_f K[j] key (by have := hKl _ (List.getElem_mem hlt); omega) (k + 1001) (by omega)
      generalize k + 1001 = Q at *
      simp only [hypercubelaw8_LatticeTrue.l2]
      rw [if_pos (by omega), if_neg (by rw [hb, decide_eq_false h]; decide), if_pos (by omega), hrd, hI, Option.bind_some, hw.out]
      exact hk
include hs hl4 in
theorem lt_l1 (K : List (List Int)) (i : Nat) (hi : i < R.length) (hgi : GoodRow cs (R.getD i z39)) (h : ∀ key : List Int, key ∈ keysB cs (idx s cs.length) → key.length ≤ 4 → ∃ k, hypercubelaw8_LatticeTrue.l2 k R (s : Int) K (i : Int) key false 0 cs m = some true) :
    ∀ (q j : Nat) (key : List Int), j + q = cs.length → key ∈ keysB cs (idx s j) → key.length ≤ j → ∃ k, hypercubelaw8_LatticeTrue.l1 k R (s : Int) K (i : Int) key (j : Int) cs m = some true
  | 0, j, key, hj, hk, hl => by
    have e : j = cs.length := by omega
    subst e
    obtain ⟨k, hk⟩ := h key hk (by omega)
    refine ⟨k + 1, ?_⟩
    simp only [hypercubelaw8_LatticeTrue.l1]
    rw [if_neg (by omega)]
    exact hk
  | q + 1, j, key, hj, hk, hl => by
    have hlt : j < cs.length := by omega
    obtain ⟨b1, b2⟩ := bit_fin s hs j (by omega)
    have hw := Aside0.mk (w64a j (by omega))
    have hrd : rd_T39 R (i : Int) = R.getD i z39 := by unfold rd_T39; rw [Int.toNat_natCast]
    have hids : idx s (j + 1) = idx s j ++ if s.testBit j then [j] else [] := by
      unfold idx
      rw [List.range_succ, List.filter_append]
      cases hb : s.testBit j with
      | true => simp [hb]
      | false => simp [hb]
    have g1 := hgi.1
    have g2 := hgi.2 j hlt
    cases hb : s.testBit j with
    | true =>
      rw [hb] at b2 hids
      rw [if_pos rfl] at hids
      obtain ⟨k, hk⟩ := lt_l1 K i hi ⟨g1, hgi.2⟩ h q (j + 1) (key ++ [rd ((R.getD i z39).f0) (j : Int)]) (by omega) (by
        rw [hids, keysB_snoc, List.mem_flatMap]
        refine ⟨key, hk, List.mem_map.2 ⟨((R.getD i z39).f0.getD j 0).toNat, List.mem_range.2 (by omega), ?_⟩⟩
        rw [rdn, Int.toNat_of_nonneg g2.1]) (by rw [List.length_append, List.length_singleton]; omega)
      refine ⟨k + 1, ?_⟩
      simp only [hypercubelaw8_LatticeTrue.l1]
      rw [if_pos (by omega), if_pos b1, if_pos (of_decide_eq_true b2), if_pos (by omega), if_pos (by omega), if_pos (by omega), hrd, if_pos (by omega), if_pos (by omega), hw.out]
      exact hk
    | false =>
      rw [hb] at b2 hids
      rw [if_neg (by decide), List.append_nil] at hids
      obtain ⟨k, hk⟩ := lt_l1 K i hi ⟨g1, hgi.2⟩ h q (j + 1) key (by omega) (by rw [hids]; exact hk) (by omega)
      refine ⟨k + 1, ?_⟩
      simp only [hypercubelaw8_LatticeTrue.l1]
      rw [if_pos (by omega), if_pos b1, if_neg (of_decide_eq_false b2), hw.out]
      exact hk
include hs hcs hl4 hR hg in
theorem lt_l0 : ∀ (q i : Nat) (K : List (List Int)), i + q = R.length → K.length ≤ i → K.Nodup → (∀ r ∈ K, r ∈ keysB cs (idx s cs.length) ∧ r.length ≤ 4) → ∃ k, hypercubelaw8_LatticeTrue.l0 k R (s : Int) K (i : Int) cs m = some true
  | 0, i, K, hi, hK, hn, hk => by
    have hok : okCards cs = true := okCards_of hl4 (fun x hx => ⟨by have := hcs x hx; omega, (hcs x hx).2⟩)
    have hsub : K.length ≤ (keysB cs (idx s cs.length)).length := List.Nodup.length_le_of_subset hn (fun r hr => (hk r hr).1)
    have hlen := keysB_len cs (fun c hc => (hcs c hc).1) (idx s cs.length).reverse (fun i hi => by
      rw [List.mem_reverse] at hi
      exact List.mem_range.1 (List.mem_filter.1 hi).1)
    rw [List.reverse_reverse] at hlen
    have hsz : sizeI cs (R.length : Int) (s : Int) = min (prodL cs (idx s cs.length)) (R.length : Int) := rfl
    refine ⟨1, ?_⟩
    simp only [hypercubelaw8_LatticeTrue.l0]
    rw [if_neg (by omega), size_f cs m (R.length : Int) (s : Int) hok (by omega) (by omega), Option.bind_some, decide_eq_true (by omega)]
  | q + 1, i, K, hi, hK, hn, hk => by
    have hlt : i < R.length := by omega
    have hw := Aside0.mk (w64a i (by omega))
    have hgi : GoodRow cs (R.getD i z39) := by
      have e : R.getD i z39 = R[i] := by simp [List.getD_eq_getElem?_getD, hlt]
      rw [e]; exact hg _ (List.getElem_mem hlt)
    obtain ⟨k, hkk⟩ := lt_l1 R cs m s hs hl4 K i hlt hgi (fun key hkey hkl => by
      refine lt_l2 R cs m s K (by omega) (fun r hr => (hk r hr).2) i key (fun hmem => ?_) (fun hnot => ?_) K.length 0 false (by omega) (by simp)
      · rw [hw.out]
        exact lt_l0 q (i + 1) K (by omega) (by omega) hn hk
      · rw [hw.out]
        refine lt_l0 q (i + 1) (K ++ [key]) (by omega) (by rw [List.length_append, List.length_singleton]; omega) ?_ ?_
        · refine List.nodup_append.2 ⟨hn, by simp, ?_⟩
          intro a ha b hb hab
          rw [List.mem_singleton.1 hb] at hab
          exact hnot (hab ▸ ha)
        · intro r hr
          rcases List.mem_append.1 hr with h | h
          · exact hk r h
          · rw [List.mem_singleton.1 h]; exact ⟨hkey, hkl⟩) cs.length 0 [] (by omega) (by simp [keysB, idx]) (by simp)
    refine ⟨k + 1, ?_⟩
    simp only [hypercubelaw8_LatticeTrue.l0]
    rw [if_pos (by omega)]
    exact hkk
end
end LatticeTruep
open LatticeTruep
theorem LatticeTrue : hypercubelaw8_LatticeTrue.Pure := by
  intro a0 l1 l2 a3 _ _ _ _ _ _ _ _
  obtain ⟨k0, cs, m, R, hF, c1, c4, cr, m0, m2, hR, hg⟩ := LatticeTruep.facts_rows a0 l1 0 l2
  have hd : cs.length < 5 := by omega
  obtain ⟨u1, u2⟩ := LatticeTruep.shl_fin cs.length hd
  have hp : 0 < 2 ^ cs.length := Nat.pow_pos (by omega)
  have hle : 2 ^ cs.length ≤ 16 := Nat.pow_le_pow_right (by omega) (show cs.length ≤ 4 by omega)
  obtain ⟨z, hz, hzl⟩ := LatticeTruep.within_f a3 ((2 ^ cs.length : Nat) : Int) (by omega) (by omega)
  obtain ⟨k1, e1⟩ := LatticeTruep.lt_l0 R cs m z (by omega) cr (by omega) hR hg R.length 0 [] (by omega) (by simp) List.nodup_nil (fun r hr => by simp at hr)
  refine ⟨k0 + k1, ?_⟩
  have e0 := hF (k0 + k1) (by omega)
  have e2 := at_rounds (fun k => (hypercubelaw8_LatticeTrue.mono_l k).1 _ _ _ _ _ _) (show k1 ≤ k0 + k1 by omega) e1
  unfold hypercubelaw8_LatticeTrue.f
  rw [LatticeTruep.known_f, Option.bind_some, if_pos rfl, e0, Option.bind_some]
  dsimp only
  rw [if_pos u1, u2, hz, Option.bind_some]
  exact e2

end Go.Proofs.Ytlplaidcdocbmaa.Pure
