-- Cut by pack.py, a program of this session; not trusted: Lean checks it.
import Derived.Test.YtlplaidcdocbmaaZCore14
import Derived.Test.YtlplaidcdocbmaaZPlainU
import Derived.Test.YtlplaidcdocbmaaZPSortsScansx4
/- SortsScans: its plain side. -/
namespace Go.Proofs.Ytlplaidcdocbmaa.Pure
open Go.RowKit Go.Proofs.Ytlplaidcdocbmaa.PSortsScans Go.Proofs.YtlplaidcdocbmaaW.PrintWords Go.Proofs.YtlplaidcdocbmaaW.PrintLast Go.Proofs.YtlplaidcdocbmaaW.PrintMore Go.Proofs.Ytlplaidcdocbmaa.Core
set_option linter.unusedVariables false
set_option linter.unusedSimpArgs false
namespace SortsScansp
theorem within_f (a n : Int) (hn : 0 < n) (h2 : n ≤ 4611686018427387904) : ∃ z : Nat, hypercubelaw10_within.f a n = some (z : Int) ∧ (z : Int) < n := by
  have h1 := Int.tmod_lt_of_pos a hn
  have h3 := Int.tmod_lt_of_pos (-a) hn
  rw [Int.neg_tmod] at h3
  have key : ∃ z : Int, hypercubelaw10_within.f a n = some z ∧ 0 ≤ z ∧ z < n := by
    unfold hypercubelaw10_within.f
    rw [if_neg (by omega)]
    by_cases h : Int.tmod a n < 0
    · refine ⟨Int.tmod a n + n, ?_, by omega, by omega⟩
      rw [if_pos h]
      congr 1
      unfold wrap64
      omega
    · refine ⟨Int.tmod a n, ?_, by omega, by omega⟩
      rw [if_neg h]
  obtain ⟨z, h, h0, hz⟩ := key
  obtain ⟨m, rfl⟩ := Int.eq_ofNat_of_zero_le h0
  exact ⟨m, h, hz⟩

theorem known_f : hypercubelaw10_known.f = some true := by decide +kernel
theorem within1_f (a n : Int) (hn : 0 < n) (h2 : n ≤ 4611686018427387904) : ∃ z, hypercubelaw1_within.f a n = some z ∧ 0 ≤ z ∧ z < n := by
  have h1 := Int.tmod_lt_of_pos a hn
  have h3 := Int.tmod_lt_of_pos (-a) hn
  rw [Int.neg_tmod] at h3
  unfold hypercubelaw1_within.f
  rw [if_neg (by omega)]
  by_cases h : Int.tmod a n < 0
  · refine ⟨Int.tmod a n + n, ?_, by omega, by omega⟩
    rw [if_pos h]
    congr 1
    unfold wrap64
    omega
  · refine ⟨Int.tmod a n, ?_, by omega, by omega⟩
    rw [if_neg h]

theorem facts_step (k : Nat) (a0 d : Int) (l1 : List Int) (i : Int) (cs : List Int) (m : Int) (hd : hypercubelaw1_within.f a0 4 = some d) (h0 : 0 ≤ i) (hi : i ≤ d) (hd3 : d ≤ 3) (hcs : cs.length ≤ 16) :
    ∃ c, 1 ≤ c ∧ c ≤ 5 ∧ hypercubelaw1_Facts.l0 (k + 1) a0 l1 [] i cs m = hypercubelaw1_Facts.l0 k a0 l1 [] (i + 1) (cs ++ [c]) m := by
  have hw : wrap64 (i + 1) = i + 1 := by unfold wrap64; omega
  by_cases hl : i < (l1.length : Int)
  · obtain ⟨z, hz, hz0, hz1⟩ := within1_f (rd l1 i) 5 (by decide) (by decide)
    refine ⟨1 + z, by omega, by omega, ?_⟩
    have hw2 : wrap64 (1 + z) = 1 + z := by unfold wrap64; omega
    simp only [hypercubelaw1_Facts.l0]
    rw [hd]
    simp only [Option.bind_some]
    rw [if_pos hi, if_pos hl, if_pos h0, hz]
    simp only [Option.bind_some]
    rw [if_pos (by omega), hw, hw2]
  · obtain ⟨z, hz, hz0, hz1⟩ := within1_f (wrap64 (i + 2)) 5 (by decide) (by decide)
    refine ⟨1 + z, by omega, by omega, ?_⟩
    have hw2 : wrap64 (1 + z) = 1 + z := by unfold wrap64; omega
    simp only [hypercubelaw1_Facts.l0]
    rw [hd]
    simp only [Option.bind_some]
    rw [if_pos hi, if_neg hl, hz]
    simp only [Option.bind_some]
    rw [if_pos (by omega), hw, hw2]

theorem facts_end (k : Nat) (a0 d : Int) (l1 : List Int) (i : Int) (cs : List Int) (m : Int) (hd : hypercubelaw1_within.f a0 4 = some d) (hi : d < i) (hcs : 0 < cs.length) :
    ∃ b : Bool, hypercubelaw1_Facts.l0 (k + 4) a0 l1 [] i cs m = some (if b then cs.set 0 16 else cs, m, []) := by
  obtain ⟨z, hz, hz0, hz1⟩ := within1_f a0 7 (by decide) (by decide)
  refine ⟨decide (z = 0), ?_⟩
  simp only [hypercubelaw1_Facts.l0]
  rw [hd]
  simp only [Option.bind_some]
  rw [if_neg (by omega), hz]
  simp only [Option.bind_some]
  by_cases h : z = 0
  · rw [if_pos h, if_pos (by omega)]
    simp [hypercubelaw1_Facts.j1, hypercubelaw1_Facts.l1, hypercubelaw1_Facts.j3, h]
  · rw [if_neg h]
    simp [hypercubelaw1_Facts.j1, hypercubelaw1_Facts.l1, hypercubelaw1_Facts.j3, h]

/-- A schema of numbers: one to four cards, each 1 to 16; no rows of no numbers. -/
theorem facts_nil (a0 : Int) (l1 : List Int) (a2 : Int) : ∃ (cs : List Int) (m : Int), hypercubelaw1_Facts.f 8 a0 l1 a2 [] = some (cs, m, []) ∧
    1 ≤ cs.length ∧ cs.length ≤ 4 ∧ (∀ c ∈ cs, 1 ≤ c ∧ c ≤ 16) ∧ 0 ≤ m ∧ m ≤ 2 := by
  obtain ⟨m, hm, hm0, hm1⟩ := within1_f a2 3 (by decide) (by decide)
  obtain ⟨d, hd, hd0, hd1⟩ := within1_f a0 4 (by decide) (by decide)
  have fin : ∀ (k : Nat) (i : Int) (cs : List Int), d < i → 0 < cs.length → cs.length ≤ 4 → (∀ c ∈ cs, 1 ≤ c ∧ c ≤ 5) →
      ∃ (r : List Int), hypercubelaw1_Facts.l0 (k + 4) a0 l1 [] i cs m = some (r, m, []) ∧ 1 ≤ r.length ∧ r.length ≤ 4 ∧ (∀ c ∈ r, 1 ≤ c ∧ c ≤ 16) := by
    intro k i cs h1 h2 h3 h4
    obtain ⟨b, hb⟩ := facts_end k a0 d l1 i cs m hd h1 h2
    refine ⟨_, hb, ?_, ?_, ?_⟩
    · cases b <;> simp <;> omega
    · cases b <;> simp <;> omega
    · intro c hc
      cases b with
      | false =>
        have := h4 c (by simpa using hc)
        omega
      | true =>
        have hc' : c ∈ cs.set 0 16 := by simpa using hc
        rcases List.mem_or_eq_of_mem_set hc' with h | h
        · have := h4 c h
          omega
        · omega
  have all : ∃ (r : List Int), hypercubelaw1_Facts.l0 8 a0 l1 [] 0 [] m = some (r, m, []) ∧ 1 ≤ r.length ∧ r.length ≤ 4 ∧ (∀ c ∈ r, 1 ≤ c ∧ c ≤ 16) := by
    obtain ⟨c0, h00, h01, e0⟩ := facts_step 7 a0 d l1 0 [] m hd (by omega) (by omega) (by omega) (by simp)
    rw [e0]
    by_cases g1 : d < 1
    · exact fin 3 _ _ (by omega) (by simp) (by simp) (by simp; omega)
    obtain ⟨c1, h10, h11, e1⟩ := facts_step 6 a0 d l1 (0 + 1) ([] ++ [c0]) m hd (by omega) (by omega) (by omega) (by simp)
    rw [e1]
    by_cases g2 : d < 2
    · exact fin 2 _ _ (by omega) (by simp) (by simp) (by simp; omega)
    obtain ⟨c2, h20, h21, e2⟩ := facts_step 5 a0 d l1 (0 + 1 + 1) ([] ++ [c0] ++ [c1]) m hd (by omega) (by omega) (by omega) (by simp)
    rw [e2]
    by_cases g3 : d < 3
    · exact fin 1 _ _ (by omega) (by simp) (by simp) (by simp; omega)
    obtain ⟨c3, h30, h31, e3⟩ := facts_step 4 a0 d l1 (0 + 1 + 1 + 1) ([] ++ [c0] ++ [c1] ++ [c2]) m hd (by omega) (by omega) (by omega) (by simp)
    rw [e3]
    exact fin 0 _ _ (by omega) (by simp) (by simp) (by simp; omega)
  obtain ⟨r, hr, h1, h2, h3⟩ := all
  refine ⟨r, m, ?_, h1, h2, h3, hm0, by omega⟩
  unfold hypercubelaw1_Facts.f
  rw [hm]
  simp only [Option.bind_some]
  exact hr

theorem facts_of (K : Nat) (hK : 8 ≤ K) (a0 : Int) (l1 : List Int) : ∃ (cs : List Int) (m : Int), hypercubelaw1_Facts.f K a0 l1 0 [] = some (cs, m, []) ∧ 1 ≤ cs.length ∧ cs.length ≤ 4 ∧ (∀ c ∈ cs, 1 ≤ c ∧ c ≤ 16) ∧ okCards cs = true := by
  obtain ⟨cs, m, h, h1, h2, h3, _⟩ := facts_nil a0 l1 0
  exact ⟨cs, m, at_rounds (fun k => hypercubelaw1_Facts.mono _ _ _ _ k) hK h, h1, h2, h3, okCards_of h2 (fun x hx => ⟨by have := h3 x hx; omega, (h3 x hx).2⟩)⟩
open Go.Proofs.Ytlplaidcdocbmaa.Srt
def mkE (e : Ed) : S49 := S49.mk e.set e.par e.scan
theorem planE_eq (cs : List Int) (n : Int) : planE S49.mk cs n = (planS (scanC cs n) (sortC cs n) cs.length).map mkE := rfl
theorem rd_map (o : List Ed) (i : Nat) : rd_T49 (o.map mkE) (i : Int) = ⟨(o.getD i ed0).set, (o.getD i ed0).par, (o.getD i ed0).scan⟩ := by
  unfold rd_T49
  rw [Int.toNat_natCast]
  simp only [List.getD_eq_getElem?_getD, List.getElem?_map]
  cases o[i]? <;> rfl
theorem rd_mapE (o : List Ed) (i : Nat) : rd_T49 (o.map mkE) (i : Int) = mkE (o.getD i ed0) := rd_map o i
theorem plan_f (cs : List Int) (m n : Int) (hok : okCards cs = true) (h1 : ∀ x ∈ cs, 1 ≤ x) (h0 : 0 ≤ n) (hn : n ≤ 300) : sorts_Plan.f cs m n = some ((planS (scanC cs n) (sortC cs n) cs.length).map mkE) := by
  unfold sorts_Plan.f
  rw [if_pos (okP_of hok h1 h0 hn), planE_eq]
theorem w64n (j : Nat) (h : j ≤ 1000) : wrap64 ((j : Int) + 1) = ((j + 1 : Nat) : Int) := next_fin j h
theorem shl_fin : ∀ d : Nat, d < 5 → 0 ≤ IntKind.u64.wrap (d : Int) ∧ shl .i64 1 (IntKind.u64.wrap (d : Int)) = ((2 ^ d : Nat) : Int) := by decide +kernel

theorem l1_ok (X : List S49) (hX : X.length ≤ 16) (i : Nat) (hi : i < X.length) (cs : List Int) (m : Int) (hn : ∃ k, hypercubelaw10_SortsScans.l0 k X (wrap64 ((i : Int) + 1)) cs m = some true) :
    ∀ (d j : Nat) (fl : Bool), j + d = X.length → (fl = false ∨ ∃ q : Nat, j ≤ q ∧ q < X.length ∧ (rd_T49 X (q : Int)).f2 = true ∧ (rd_T49 X (q : Int)).f1 = (rd_T49 X (i : Int)).f1) →
      ∃ k, hypercubelaw10_SortsScans.l1 k X (i : Int) fl (j : Int) cs m = some true
  | 0, j, fl, hj, h => by
    obtain ⟨k, hk⟩ := hn
    refine ⟨k + 1, ?_⟩
    simp only [hypercubelaw10_SortsScans.l1]
    have hf : fl = false := by
      rcases h with h | ⟨q, h1, h2, _⟩
      · exact h
      · omega
    rw [if_neg (by omega), hf, if_neg (by decide)]
    exact hk
  | d + 1, j, fl, hj, h => by
    have hn1 := Aside0.mk (w64n j (by omega))
    have key : ∀ fl', (fl' = false ∨ ∃ q : Nat, j + 1 ≤ q ∧ q < X.length ∧ (rd_T49 X (q : Int)).f2 = true ∧ (rd_T49 X (q : Int)).f1 = (rd_T49 X (i : Int)).f1) → ∃ k, hypercubelaw10_SortsScans.l1 k X (i : Int) fl' (wrap64 ((j : Int) + 1)) cs m = some true := by
      intro fl' h'
      rw [hn1.out]
      exact l1_ok X hX i hi cs m hn d (j + 1) fl' (by omega) h'
    have step : ∀ q : Nat, j ≤ q → q ≠ j → j + 1 ≤ q := fun q a b => by omega
    by_cases hs : (rd_T49 X (j : Int)).f2 = true
    · by_cases he : (rd_T49 X (j : Int)).f1 = (rd_T49 X (i : Int)).f1
      · obtain ⟨k, hk⟩ := key false (.inl rfl)
        refine ⟨k + 1, ?_⟩
        simp only [hypercubelaw10_SortsScans.l1]
        rw [if_pos (by omega), if_pos (by omega), if_pos hs, if_pos (by omega), if_pos (by omega), if_pos he]
        exact hk
      · obtain ⟨k, hk⟩ := key fl (h.imp id fun ⟨q, a, b, c, e⟩ => ⟨q, step q a (fun e' => he (by rw [← e']; exact e)), b, c, e⟩)
        refine ⟨k + 1, ?_⟩
        simp only [hypercubelaw10_SortsScans.l1]
        rw [if_pos (by omega), if_pos (by omega), if_pos hs, if_pos (by omega), if_pos (by omega), if_neg he]
        exact hk
    · obtain ⟨k, hk⟩ := key fl (h.imp id fun ⟨q, a, b, c, e⟩ => ⟨q, step q a (fun e' => hs (by rw [← e']; exact c)), b, c, e⟩)
      refine ⟨k + 1, ?_⟩
      simp only [hypercubelaw10_SortsScans.l1]
      rw [if_pos (by omega), if_pos (by omega), if_neg hs]
      exact hk
theorem l0_ok (X : List S49) (hX : X.length ≤ 16) (cs : List Int) (m : Int) (hd : cs.length < 5) (hl : X.length = 2 ^ cs.length)
    (hb : ∀ i : Nat, i < X.length → 0 ≤ (rd_T49 X (i : Int)).f1 → (rd_T49 X (i : Int)).f2 = false → ∃ q : Nat, q < X.length ∧ (rd_T49 X (q : Int)).f2 = true ∧ (rd_T49 X (q : Int)).f1 = (rd_T49 X (i : Int)).f1) :
    ∀ (d i : Nat), i + d = X.length → ∃ k, hypercubelaw10_SortsScans.l0 k X (i : Int) cs m = some true
  | 0, i, hi => by
    obtain ⟨u1, u2⟩ := shl_fin cs.length hd
    refine ⟨1, ?_⟩
    simp only [hypercubelaw10_SortsScans.l0]
    rw [if_neg (by omega), if_pos u1, u2, hl]
    simp
  | d + 1, i, hi => by
    have hn1 := Aside0.mk (w64n i (by omega))
    have ih : ∃ k, hypercubelaw10_SortsScans.l0 k X (wrap64 ((i : Int) + 1)) cs m = some true := by
      rw [hn1.out]
      exact l0_ok X hX cs m hd hl hb d (i + 1) (by omega)
    have hj : ∀ b : Bool, (b = false → ∃ q : Nat, q < X.length ∧ (rd_T49 X (q : Int)).f2 = true ∧ (rd_T49 X (q : Int)).f1 = (rd_T49 X (i : Int)).f1) → ∃ k, hypercubelaw10_SortsScans.j1 k X (i : Int) b cs m = some true := by
      intro b hbb
      cases b with
      | true =>
        obtain ⟨k, hk⟩ := ih
        refine ⟨k + 1, ?_⟩
        simp only [hypercubelaw10_SortsScans.j1]
        rw [if_pos trivial]
        exact hk
      | false =>
        obtain ⟨q, h1, h2⟩ := hbb rfl
        obtain ⟨k, hk⟩ := l1_ok X hX i (by omega) cs m ih X.length 0 true (by omega) (.inr ⟨q, Nat.zero_le _, h1, h2⟩)
        refine ⟨k + 1, ?_⟩
        simp only [hypercubelaw10_SortsScans.j1]
        rw [if_neg (by decide)]
        exact hk
    by_cases hp : (rd_T49 X (i : Int)).f1 < 0
    · obtain ⟨k, hk⟩ := hj true (fun h => by cases h)
      refine ⟨k + 1, ?_⟩
      simp only [hypercubelaw10_SortsScans.l0]
      rw [if_pos (by omega), if_pos (by omega), if_pos hp]
      exact hk
    · obtain ⟨k, hk⟩ := hj (rd_T49 X (i : Int)).f2 (hb i (by omega) (by omega))
      refine ⟨k + 1, ?_⟩
      simp only [hypercubelaw10_SortsScans.l0]
      rw [if_pos (by omega), if_pos (by omega), if_neg hp]
      exact hk
theorem scans (cs : List Int) (m n : Int) (hok : okCards cs = true) (h1 : ∀ x ∈ cs, 1 ≤ x) (hn : 1 ≤ n ∧ n ≤ 300) :
    ∃ k, hypercubelaw10_SortsScans.l0 k ((planS (scanC cs n) (sortC cs n) cs.length).map mkE) 0 cs m = some true := by
  have hd : cs.length < 5 := by have := okCards_len hok; omega
  have C := cheap_of h1 (show 0 ≤ n ∧ n ≤ 300 by omega)
  have hst := less_of h1 hn
  obtain ⟨r1, r2, r3⟩ := right_at_i hd (plan_right C hd)
  have hb := plan_busy C hst hd
  generalize planS (scanC cs n) (sortC cs n) cs.length = E at *
  have hlen : (E.map mkE).length = 2 ^ cs.length := by rw [List.length_map, r2]
  have hle : 2 ^ cs.length ≤ 16 := Nat.pow_le_pow_right (by omega) (show cs.length ≤ 4 by omega)
  refine l0_ok (E.map mkE) (by omega) cs m hd hlen ?_ (E.map mkE).length 0 (by omega)
  intro i hi hp hs
  have hi' : i < E.length := by simpa using hi
  rw [rd_mapE] at hp hs ⊢
  have hm : E.getD i ed0 ∈ E := by rw [getD_of_lt _ _ _ hi']; exact List.getElem_mem hi'
  obtain ⟨e', he, h2, h3⟩ := hb _ hm hp hs
  obtain ⟨q, hq, rfl⟩ := List.mem_iff_getElem.1 he
  refine ⟨q, by simpa using hq, ?_⟩
  rw [rd_mapE, getD_of_lt _ _ _ hq]
  exact ⟨h2, h3⟩
end SortsScansp
open SortsScansp
theorem SortsScans : hypercubelaw10_SortsScans.Pure := by
  intro a0 l1 a2 _ _ _ _ _
  obtain ⟨z, hz, hzl⟩ := SortsScansp.within_f a2 300 (by decide) (by decide)
  obtain ⟨cs, m, hF, c1, c4, cr, hok⟩ := SortsScansp.facts_of 8 (Nat.le_refl _) a0 l1
  have h1 : ∀ x ∈ cs, 1 ≤ x := fun x hx => (cr x hx).1
  have ew : wrap64 (1 + (z : Int)) = 1 + (z : Int) := w64 _ (by omega) (by omega)
  obtain ⟨k1, e1⟩ := SortsScansp.scans cs m (1 + (z : Int)) hok h1 (by omega)
  refine ⟨k1 + 8, ?_⟩
  have e0 : hypercubelaw1_Facts.f (k1 + 8) a0 l1 0 [] = some (cs, m, []) := at_rounds (fun k => hypercubelaw1_Facts.mono _ _ _ _ k) (by omega) hF
  have e2 := at_rounds (fun k => (hypercubelaw10_SortsScans.mono_l k).1 _ _ _ _) (show k1 ≤ k1 + 8 by omega) e1
  unfold hypercubelaw10_SortsScans.f
  rw [SortsScansp.known_f, Option.bind_some, if_pos rfl, e0, Option.bind_some, hz, Option.bind_some]
  dsimp only
  rw [ew, SortsScansp.plan_f cs m _ hok h1 (by omega) (by omega), Option.bind_some]
  exact e2

end Go.Proofs.Ytlplaidcdocbmaa.Pure
