-- Cut by pack.py, a program of this session; not trusted: Lean checks it.
import Derived.Test.YtlplaidcdocbmaaZCore14
import Derived.Test.YtlplaidcdocbmaaZPlainV
import Derived.Test.YtlplaidcdocbmaaZPSortsOrdersx6
/- SortsOrders: its plain side. -/
namespace Go.Proofs.Ytlplaidcdocbmaa.Pure
open Go.RowKit Go.Proofs.Ytlplaidcdocbmaa.PSortsOrders Go.Proofs.YtlplaidcdocbmaaW.PrintWords Go.Proofs.YtlplaidcdocbmaaW.PrintLast Go.Proofs.YtlplaidcdocbmaaW.PrintMore Go.Proofs.Ytlplaidcdocbmaa.Core
set_option linter.unusedVariables false
set_option linter.unusedSimpArgs false
set_option linter.unusedSectionVars false
namespace SortsOrdersp
theorem within_f (a n : Int) (hn : 0 < n) (h2 : n ≤ 4611686018427387904) : ∃ z : Nat, hypercubelaw10_within.f a n = some (z : Int) ∧ (z : Int) < n := by
  have h1 := Int.tmod_lt_of_pos a hn
  have h3 := Int.tmod_lt_of_pos (-a) hn
  rw [Int.neg_tmod] at h3
  have key : ∃ z : Int, hypercubelaw10_within.f a n = some z ∧ 0 ≤ z ∧ z < n := by
    unfold hypercubelaw10_within.f
    rw [if_neg (by omega)]
    by_cases h : Int.tmod a n < 0
    · refine ⟨Int.tmod a n + n, ?_, by omega, by omega⟩
      rw [if_pos h]
      congr 1
      unfold wrap64
      omega
    · refine ⟨Int.tmod a n, ?_, by omega, by omega⟩
      rw [if_neg h]
  obtain ⟨z, h, h0, hz⟩ := key
  obtain ⟨m, rfl⟩ := Int.eq_ofNat_of_zero_le h0
  exact ⟨m, h, hz⟩

theorem known_f : hypercubelaw10_known.f = some true := by decide +kernel
open Go.Proofs.Ytlplaidcdocbmaa.Srt
def mkE (e : Ed) : S49 := S49.mk e.set e.par e.scan
theorem rd_map (o : List Ed) (i : Nat) : rd_T49 (o.map mkE) (i : Int) = ⟨(o.getD i ed0).set, (o.getD i ed0).par, (o.getD i ed0).scan⟩ := by
  unfold rd_T49
  rw [Int.toNat_natCast]
  simp only [List.getD_eq_getElem?_getD, List.getElem?_map]
  cases o[i]? <;> rfl
theorem rd_mapE (o : List Ed) (i : Nat) : rd_T49 (o.map mkE) (i : Int) = mkE (o.getD i ed0) := rd_map o i
theorem toEds_map (o : List Ed) : toEds S49.f0 S49.f1 S49.f2 (o.map mkE) = o := by
  unfold toEds
  rw [List.map_map]
  have : (toEd S49.f0 S49.f1 S49.f2 ∘ mkE) = id := by funext e; rfl
  rw [this, List.map_id]
theorem w64n (j : Nat) (h : j ≤ 1000) : wrap64 ((j : Int) + 1) = ((j + 1 : Nat) : Int) := next_fin j h
theorem par_ref : ∀ d : Nat, d < 5 → ∀ s : Nat, s < 2 ^ d → hypercuberef8_Parents.f 40 (s : Int) (d : Int) = some (ofN (parents s d)) := by decide +kernel
theorem par_none : ∀ d : Nat, d < 5 → parents ((sets d).getD 0 0) d = [] := by decide +kernel
theorem sets_ref : ∀ d : Nat, d < 5 → hypercuberef8_Sets.f 100 (d : Int) = some (ofN (sets d)) := by decide +kernel
theorem rd_ofN (P : List Nat) (j : Nat) (h : j < P.length) : rd (ofN P) (j : Int) = ((P[j] : Nat) : Int) := by
  rw [rdn]; simp [ofN, List.getD_eq_getElem?_getD, h]
theorem ofN_len (P : List Nat) : (ofN P).length = P.length := by simp [ofN]

/-- What is so of a plan that is laid as far as here. -/
def Laid (d i : Nat) (E : List Ed) (X : List Int) : Prop := E.map (·.set) = ((sets d).take i).map (fun (s : Nat) => (s : Int)) ∧ (∀ j, j < E.length → (j = 0 → (E.getD j ed0).par = -1 ∧ (E.getD j ed0).scan = false) ∧ (j ≠ 0 → ∃ p : Nat, (E.getD j ed0).par = (p : Int) ∧ p ∈ parents ((E.getD j ed0).set.toNat) d)) ∧ X = (E.filter (·.scan)).map (·.par) ∧ X.Nodup
theorem laid_len {d i : Nat} {E : List Ed} {X : List Int} (h : Laid d i E X) (hi : i ≤ (sets d).length) : E.length = i := by
  have := congrArg List.length h.1
  simp only [List.length_map, List.length_take] at this
  omega
theorem laid_end {d : Nat} (hd : d < 5) {E : List Ed} {X : List Int} (h : Laid d (sets d).length E X) : RightPlan d E := by
  have hl := laid_len h (Nat.le_refl _)
  obtain ⟨h1, h2, h3, h4⟩ := h
  have hs := sets_levels d hd
  rw [List.take_length] at h1
  cases E with
  | nil => rw [hs] at hl; simp at hl
  | cons e0 r =>
    rw [hs, List.map_cons, List.map_cons] at h1
    obtain ⟨a1, a2⟩ := List.cons.inj h1
    obtain ⟨b1, b2⟩ := (h2 0 (by simp)).1 rfl
    have b1 : e0.par = -1 := b1
    have b2 : e0.scan = false := b2
    refine ⟨e0, r, rfl, a1, b1, b2, a2, ?_, ?_⟩
    · intro e he
      obtain ⟨j, hj, rfl⟩ := List.mem_iff_getElem.1 he
      have := (h2 (j + 1) (by simp; omega)).2 (by omega)
      rw [getD_of_lt _ _ _ (show j + 1 < (e0 :: r).length by simp; omega)] at this
      exact this
    · rw [h3, List.filter_cons, b2] at h4
      exact h4
theorem laid_snoc {d i : Nat} {E : List Ed} {X : List Int} (h : Laid d i E X) (hi : i < (sets d).length) (e : Ed) (hs : e.set = (((sets d).getD i 0 : Nat) : Int))
    (h0 : i = 0 → e.par = -1 ∧ e.scan = false) (h1 : i ≠ 0 → ∃ p : Nat, e.par = (p : Int) ∧ p ∈ parents ((sets d).getD i 0) d) (hx : e.scan = true → e.par ∉ X) : Laid d (i + 1) (E ++ [e]) (if e.scan then X ++ [e.par] else X) := by
  have hl := laid_len h (by omega)
  obtain ⟨a1, a2, a3, a4⟩ := h
  refine ⟨?_, ?_, ?_, ?_⟩
  · rw [List.map_append, a1, List.take_succ_eq_append_getElem hi, List.map_append, List.map_singleton, List.map_singleton, hs, getD_of_lt _ _ _ hi]
  · intro j hj
    by_cases hje : j < E.length
    · have e1 : (E ++ [e]).getD j ed0 = E.getD j ed0 := by simp [List.getD_eq_getElem?_getD, List.getElem?_append_left hje]
      rw [e1]
      exact a2 j hje
    · have hje' : j = i := by simp at hj; omega
      subst hje'
      have e1 : (E ++ [e]).getD j ed0 = e := by rw [← hl]; simp [List.getD_eq_getElem?_getD]
      rw [e1]
      refine ⟨h0, fun hj0 => ?_⟩
      obtain ⟨p, hp, hm⟩ := h1 hj0
      exact ⟨p, hp, by rw [hs]; simpa using hm⟩
  · rw [List.filter_append, List.map_append, ← a3]
    cases he : e.scan with
    | true => simp [he]
    | false => simp [he]
  · cases he : e.scan with
    | true =>
      rw [if_pos rfl]
      refine List.nodup_append.2 ⟨a4, by simp, ?_⟩
      intro a ha b hb hab
      have : b = e.par := by simpa using hb
      subst this
      exact hx he (hab ▸ ha)
    | false => rw [if_neg (by decide)]; exact a4
section
variable (d : Nat) (ns : List Int)
def Goes (o : Option (List S49)) : Prop := ∃ E' : List Ed, o = some (E'.map mkE) ∧ RightPlan d E'
theorem oth_l1 (E : List Ed) (hE : E.length ≤ 16) (X : List Int) (hX : X.length ≤ 16) (i : Nat) (s p : Int)
    (h1 : p ∉ X → ∃ k, Goes d (hypercubelaw10_Other.l0 k d ns (E.map mkE ++ [⟨s, p, true⟩]) (ofN (sets d)) (X ++ [p]) (wrap64 ((i : Int) + 1))))
    (h2 : ∃ k, Goes d (hypercubelaw10_Other.l0 k d ns (E.map mkE ++ [⟨s, p, false⟩]) (ofN (sets d)) X (wrap64 ((i : Int) + 1)))) :
    ∀ (q j : Nat) (b : Bool), j + q = X.length → (b = true → p ∉ X.take j) → ∃ k, Goes d (hypercubelaw10_Other.l1 k d ns (E.map mkE) (ofN (sets d)) X (i : Int) (j : Int) s p b)
  | 0, j, b, hj, hb => by
    have hm : (E.map mkE).length = E.length := List.length_map ..
    cases b with
    | true =>
      obtain ⟨k, hk⟩ := h1 (by have := hb rfl; rwa [List.take_of_length_le (by omega)] at this)
      refine ⟨k + 1, ?_⟩
      simp only [hypercubelaw10_Other.l1]
      rw [if_neg (by omega), if_pos trivial, if_pos (by omega), if_pos (by omega)]
      exact hk
    | false =>
      obtain ⟨k, hk⟩ := h2
      refine ⟨k + 1, ?_⟩
      simp only [hypercubelaw10_Other.l1]
      rw [if_neg (by omega), if_neg (by decide), if_pos (by omega)]
      exact hk
  | q + 1, j, b, hj, hb => by
    have hn1 := Aside0.mk (w64n j (by omega))
    have hlt : j < X.length := by omega
    have htk : X.take (j + 1) = X.take j ++ [X[j]] := List.take_succ_eq_append_getElem hlt
    have hrd : rd X (j : Int) = X[j] := by rw [rdn, getD_of_lt _ _ _ hlt]
    by_cases he : X[j] = p
    · obtain ⟨k, hk⟩ := oth_l1 E hE X hX i s p h1 h2 q (j + 1) false (by omega) (fun h => by cases h)
      refine ⟨k + 1, ?_⟩
      simp only [hypercubelaw10_Other.l1]
      rw [if_pos (by omega), if_pos (by omega), hrd, if_pos he, hn1.out]
      exact hk
    · obtain ⟨k, hk⟩ := oth_l1 E hE X hX i s p h1 h2 q (j + 1) b (by omega) (fun h hm => by
        rw [htk] at hm
        rcases List.mem_append.1 hm with hm | hm
        · exact hb h hm
        · exact he (List.mem_singleton.1 hm).symm)
      refine ⟨k + 1, ?_⟩
      simp only [hypercubelaw10_Other.l1]
      rw [if_pos (by omega), if_pos (by omega), hrd, if_neg he, hn1.out]
      exact hk
theorem oth_l0 (hd : d < 5) : ∀ (q i : Nat) (E : List Ed) (X : List Int), i + q = (sets d).length → Laid d i E X → ∃ k, Goes d (hypercubelaw10_Other.l0 k d ns (E.map mkE) (ofN (sets d)) X (i : Int))
  | 0, i, E, X, hi, h => by
    have e : i = (sets d).length := by omega
    subst e
    refine ⟨1, E, ?_, laid_end hd h⟩
    simp only [hypercubelaw10_Other.l0]
    rw [if_neg (by rw [ofN_len]; omega)]
  | q + 1, i, E, X, hi, h => by
    have hle : 2 ^ d ≤ 16 := Nat.pow_le_pow_right (by omega) (show d ≤ 4 by omega)
    have hsl := (sets_fin d hd).1
    have hlt : i < (sets d).length := by omega
    have hl := laid_len h (by omega)
    have hm : (E.map mkE).length = E.length := List.length_map ..
    have hXl : X.length ≤ E.length := by
      rw [h.2.2.1, List.length_map]; exact List.length_filter_le ..
    have hfin := (sets_fin d hd).2 i (by omega)
    have hn1 := Aside0.mk (w64n i (by omega))
    have hrd : rd (ofN (sets d)) (i : Int) = (((sets d).getD i 0 : Nat) : Int) := by rw [rd_ofN _ _ hlt, getD_of_lt _ _ _ hlt]
    have hpr := par_ref d hd _ hfin.1
    have hsn := fun e => laid_snoc h hlt e
    have hp0 := par_none d hd
    have ih := fun E' X' h' => oth_l0 hd q (i + 1) E' X' (by omega) h'
    generalize hss : (sets d).getD i 0 = s at *
    have hol : (ofN (sets d)).length = (sets d).length := ofN_len _
    have happ : ∀ e : Ed, E.map mkE ++ [⟨e.set, e.par, e.scan⟩] = (E ++ [e]).map mkE := fun e => by rw [List.map_append]; rfl
    by_cases hi0 : i = 0
    · have hP : parents s d = [] := by rw [← hss, hi0]; exact hp0
      obtain ⟨k, hk⟩ := ih _ _ (hsn ⟨(s : Int), -1, false⟩ rfl (fun _ => ⟨rfl, rfl⟩) (fun h => absurd hi0 h) (fun h => by cases h))
      rw [if_neg (by simp), ← happ] at hk
      have hk2 := hk
      obtain ⟨E', hk, hR⟩ := hk
      have hk := at_rounds (fun k => (hypercubelaw10_Other.mono_l k).1 _ _ _ _ _ _) (show k ≤ k + 40 by omega) hk
      have hpr := at_rounds (fun k => hypercuberef8_Parents.mono _ _ k) (show 40 ≤ k + 40 by omega) hpr
      refine ⟨k + 40 + 1, E', ?_, hR⟩
      generalize k + 40 = K at *
      simp only [hypercubelaw10_Other.l0]
      rw [if_pos (by omega), if_pos (by omega), hrd, hpr, Option.bind_some, if_pos (by rw [ofN_len, hP]; rfl), if_pos (by omega), hn1.out]
      exact hk
    · have hne := hfin.2 hi0
      have hPl := parents_len s d (by omega)
      have hlp : (parents s d).length ≠ 0 := fun e => hne (List.length_eq_zero_iff.1 e)
      have hj : ∀ v : Int, ∃ k, Goes d (hypercubelaw10_Other.j1 k d ns (E.map mkE) (ofN (sets d)) X (i : Int) (ofN (parents s d)) v) := by
        intro v
        obtain ⟨z, hz, hzl⟩ := within_f v ((parents s d).length : Int) (by omega) (by omega)
        obtain ⟨y, hy, hyl⟩ := within_f (wrap64 (Int.tdiv v 4)) 2 (by decide) (by decide)
        have hzlt : z < (parents s d).length := by omega
        have hmem : (parents s d)[z] ∈ parents s d := List.getElem_mem hzlt
        have hrp := rd_ofN (parents s d) z hzlt
        generalize hpp : (parents s d)[z] = p at *
        have hc1 : ((p : Nat) : Int) ∉ X → ∃ k, Goes d (hypercubelaw10_Other.l0 k d ns (E.map mkE ++ [⟨(s : Int), ((p : Nat) : Int), true⟩]) (ofN (sets d)) (X ++ [((p : Nat) : Int)]) (wrap64 ((i : Int) + 1))) := by
          intro hx
          obtain ⟨k, hk⟩ := ih _ _ (hsn ⟨(s : Int), (p : Int), true⟩ rfl (fun h => absurd h hi0) (fun _ => ⟨p, rfl, hmem⟩) (fun _ => hx))
          rw [if_pos rfl, ← happ] at hk
          rw [hn1.out]
          exact ⟨k, hk⟩
        have hc2 : ∃ k, Goes d (hypercubelaw10_Other.l0 k d ns (E.map mkE ++ [⟨(s : Int), ((p : Nat) : Int), false⟩]) (ofN (sets d)) X (wrap64 ((i : Int) + 1))) := by
          obtain ⟨k, hk⟩ := ih _ _ (hsn ⟨(s : Int), (p : Int), false⟩ rfl (fun h => absurd h hi0) (fun _ => ⟨p, rfl, hmem⟩) (fun h => by cases h))
          rw [if_neg (by simp), ← happ] at hk
          rw [hn1.out]
          exact ⟨k, hk⟩
        obtain ⟨k, hk⟩ := oth_l1 d ns E (by omega) X (by omega) i (s : Int) (p : Int) hc1 hc2 X.length 0 ((y : Int) == 0) (by omega) (fun _ => by simp)
        refine ⟨k + 1, ?_⟩
        simp only [hypercubelaw10_Other.j1]
        rw [if_pos (by omega), if_pos (by omega), show ((ofN (parents s d)).length : Int) = ((parents s d).length : Int) by rw [ofN_len], hz, Option.bind_some, if_pos (by omega), if_pos (by omega), hy, Option.bind_some, hrd, hrp]
        exact hk
      have hjj : ∃ k, Goes d (if (i : Int) < (ns.length : Int) then hypercubelaw10_Other.j1 k d ns (E.map mkE) (ofN (sets d)) X (i : Int) (ofN (parents s d)) (rd ns (i : Int)) else hypercubelaw10_Other.j1 k d ns (E.map mkE) (ofN (sets d)) X (i : Int) (ofN (parents s d)) (i : Int)) := by
        by_cases hin : (i : Int) < (ns.length : Int)
        · obtain ⟨k, hk⟩ := hj (rd ns (i : Int)); exact ⟨k, by rw [if_pos hin]; exact hk⟩
        · obtain ⟨k, hk⟩ := hj (i : Int); exact ⟨k, by rw [if_neg hin]; exact hk⟩
      obtain ⟨k, E', hk, hR⟩ := hjj
      have hk : (if (i : Int) < (ns.length : Int) then hypercubelaw10_Other.j1 (k + 40) d ns (E.map mkE) (ofN (sets d)) X (i : Int) (ofN (parents s d)) (rd ns (i : Int)) else hypercubelaw10_Other.j1 (k + 40) d ns (E.map mkE) (ofN (sets d)) X (i : Int) (ofN (parents s d)) (i : Int)) = some (E'.map mkE) := by
        by_cases hin : (i : Int) < (ns.length : Int)
        · rw [if_pos hin] at hk ⊢; exact at_rounds (fun k => (hypercubelaw10_Other.mono_l k).2.1 _ _ _ _ _ _ _ _) (show k ≤ k + 40 by omega) hk
        · rw [if_neg hin] at hk ⊢; exact at_rounds (fun k => (hypercubelaw10_Other.mono_l k).2.1 _ _ _ _ _ _ _ _) (show k ≤ k + 40 by omega) hk
      have hpr := at_rounds (fun k => hypercuberef8_Parents.mono _ _ k) (show 40 ≤ k + 40 by omega) hpr
      refine ⟨k + 40 + 1, E', ?_, hR⟩
      generalize k + 40 = K at *
      simp only [hypercubelaw10_Other.l0]
      rw [if_pos (by omega), if_pos (by omega), hrd, hpr, Option.bind_some, if_neg (by rw [ofN_len]; omega)]
      exact hk
theorem other_f (hd : d < 5) : ∃ (k0 : Nat) (E : List Ed), RightPlan d E ∧ ∀ k, k0 ≤ k → hypercubelaw10_Other.f k (d : Int) ns = some (E.map mkE) := by
  obtain ⟨k, E, hk, hR⟩ := oth_l0 d ns hd (sets d).length 0 [] [] (by omega) ⟨rfl, fun j hj => absurd hj (by simp), rfl, List.nodup_nil⟩
  refine ⟨k + 100, E, hR, fun k' hk' => ?_⟩
  unfold hypercubelaw10_Other.f
  rw [show hypercuberef8_Sets.f k' (d : Int) = some (ofN (sets d)) from at_rounds (fun k => hypercuberef8_Sets.mono _ k) (by omega) (sets_ref d hd), Option.bind_some]
  exact at_rounds (fun k => (hypercubelaw10_Other.mono_l k).1 _ _ _ _ _ _) (show k ≤ k' by omega) hk
end

theorem l2_fin : ∀ d : Nat, d < 5 → ∀ s : Nat, s < 2 ^ d → hypercuberef10_order.l2 30 (s : Int) [] 0 = some (intsL (bitsL d s)) := by decide +kernel
theorem l1_ok : ∀ v : Nat, v < 16 → ∀ (q i : Nat) (X : List Int), i + q = 4 → X.length + q ≤ 100 → ∀ k, hypercuberef10_order.l1 (k + q + 1) X (v : Int) (i : Int) = some (X ++ intsL (((List.range 4).drop i).filter fun j => v.testBit j)) := by
  intro v hv q
  induction q with
  | zero =>
    intro i X hi hX k
    have e : i = 4 := by omega
    subst e
    simp only [hypercuberef10_order.l1]
    rw [if_neg (by decide), show (List.range 4).drop 4 = [] from rfl]
    simp [intsL]
  | succ q ih =>
    intro i X hi hX k
    obtain ⟨b1, b2⟩ := bit_fin v hv i (by omega)
    have hn1 := Aside0.mk (w64n i (by omega))
    have hdr : (List.range 4).drop i = i :: (List.range 4).drop (i + 1) := by
      rw [List.drop_eq_getElem_cons (show i < (List.range 4).length by simp; omega)]
      simp
    rw [show k + (q + 1) + 1 = (k + q + 1) + 1 by omega]
    cases hb : v.testBit i with
    | true =>
      have ih := ih (i + 1) (X ++ [(i : Int)]) (by omega) (by simp; omega) k
      rw [hb] at b2
      generalize k + q + 1 = K at *
      simp only [hypercuberef10_order.l1]
      rw [if_pos (by omega), if_pos b1, if_pos (of_decide_eq_true b2), if_pos (by omega), hn1.out, ih, hdr, List.filter_cons, if_pos hb]
      simp [intsL]
    | false =>
      have ih := ih (i + 1) X (by omega) (by omega) k
      rw [hb] at b2
      generalize k + q + 1 = K at *
      simp only [hypercuberef10_order.l1]
      rw [if_pos (by omega), if_pos b1, if_neg (of_decide_eq_false b2), hn1.out, ih, hdr, List.filter_cons, if_neg (by rw [hb]; decide)]
theorem bits4 : ∀ d : Nat, d < 5 → ∀ s : Nat, s < 2 ^ d → ((List.range 4).drop 0).filter (fun j => s.testBit j) = bitsL d s := by decide +kernel
theorem andNot_fin : ∀ d : Nat, d < 5 → ∀ t : Nat, t < 2 ^ d → ∀ p ∈ parents t d, Go.bits .andNot .i64 (p : Int) (t : Int) = ((p - t : Nat) : Int) ∧ p - t < 2 ^ d ∧ p < 2 ^ d ∧ p &&& t = t ∧ lev p = lev t + 1 := by decide +kernel
section
variable (d : Nat) (hd : d < 5) (o : List Ed) (ho : o.length ≤ 16) (hp : ∀ e ∈ o, e.scan = true → ∃ t p : Nat, e.set = (t : Int) ∧ e.par = (p : Int) ∧ t < 2 ^ d ∧ p ∈ parents t d)
def hit (s : Nat) (e : Ed) : Bool := e.scan && e.par == (s : Int)
include ho in
theorem ord_l0 (s : Nat) (r : List Int)
    (hr : ∀ i, i < o.length → o.find? (hit s) = some (o.getD i ed0) → ∃ k0, ∀ k, k0 ≤ k → hypercuberef10_order.j1 k (o.map mkE) (s : Int) (i : Int) true = some r)
    (h2 : o.find? (hit s) = none → ∃ k0, ∀ k, k0 ≤ k → hypercuberef10_order.l2 k (s : Int) [] 0 = some r) :
    ∀ (q i : Nat), i + q = o.length → (∀ j, j < i → hit s (o.getD j ed0) = false) → ∃ k0, ∀ k, k0 ≤ k → hypercuberef10_order.l0 k (o.map mkE) (s : Int) (i : Int) = some r
  | 0, i, hi, hno => by
    obtain ⟨k0, h⟩ := h2 (by
      rw [List.find?_eq_none]
      intro e he
      obtain ⟨j, hj, rfl⟩ := List.mem_iff_getElem.1 he
      have := hno j (by omega)
      rw [getD_of_lt _ _ _ hj] at this
      rw [this]; decide)
    refine ⟨k0 + 1, fun k hk => ?_⟩
    obtain ⟨K, rfl⟩ : ∃ K, k = K + 1 := ⟨k - 1, by omega⟩
    simp only [hypercuberef10_order.l0]
    rw [if_neg (by rw [List.length_map]; omega)]
    exact h K (by omega)
  | q + 1, i, hi, hno => by
    have hlt : i < o.length := by omega
    have hn1 := Aside0.mk (w64n i (by omega))
    have hrd := rd_mapE o i
    have hm : (o.map mkE).length = o.length := List.length_map ..
    have hbool : ∀ (k : Nat), (if (mkE (o.getD i ed0)).f2 = true then hypercuberef10_order.j1 k (o.map mkE) (s : Int) (i : Int) ((mkE (o.getD i ed0)).f1 == (s : Int)) else hypercuberef10_order.j1 k (o.map mkE) (s : Int) (i : Int) false) = hypercuberef10_order.j1 k (o.map mkE) (s : Int) (i : Int) (hit s (o.getD i ed0)) := by
      intro k
      have e2 : (mkE (o.getD i ed0)).f2 = (o.getD i ed0).scan := rfl
      have e1 : (mkE (o.getD i ed0)).f1 = (o.getD i ed0).par := rfl
      rw [e1, e2]
      unfold hit
      cases (o.getD i ed0).scan with
      | true => rw [if_pos rfl, Bool.true_and]
      | false => rw [if_neg (by decide), Bool.false_and]
    have key : ∃ k0, ∀ k, k0 ≤ k → hypercuberef10_order.j1 k (o.map mkE) (s : Int) (i : Int) (hit s (o.getD i ed0)) = some r := by
      cases hh : hit s (o.getD i ed0) with
      | true =>
        refine hr i hlt ?_
        rw [List.find?_eq_some_iff_getElem]
        refine ⟨hh, i, hlt, (getD_of_lt _ _ _ hlt).symm, fun j hj => ?_⟩
        have := hno j hj
        rw [getD_of_lt _ _ _ (by omega)] at this
        rw [this]; rfl
      | false =>
        obtain ⟨k0, h⟩ := ord_l0 s r hr h2 q (i + 1) (by omega) (fun j hj => by
          by_cases hje : j = i
          · rw [hje]; exact hh
          · exact hno j (by omega))
        refine ⟨k0 + 1, fun k hk => ?_⟩
        obtain ⟨K, rfl⟩ : ∃ K, k = K + 1 := ⟨k - 1, by omega⟩
        simp only [hypercuberef10_order.j1]
        rw [if_neg (by decide), hn1.out]
        exact h K (by omega)
    obtain ⟨k0, h⟩ := key
    refine ⟨k0 + 1, fun k hk => ?_⟩
    obtain ⟨K, rfl⟩ : ∃ K, k = K + 1 := ⟨k - 1, by omega⟩
    simp only [hypercuberef10_order.l0]
    rw [if_pos (by omega), if_pos (by omega), hrd, hbool]
    exact h K (by omega)
include hd hp ho in
theorem ord_f : ∀ (n s : Nat), lev s = n → s < 2 ^ d → ∀ f, n < f → f ≤ 6 → ∃ k0, ∀ k, k0 ≤ k → hypercuberef10_order.f k (o.map mkE) (s : Int) = some (intsL (orderS o d f s)) := by
  intro n
  induction n using Nat.strongRecOn with
  | ind n ih =>
    intro s hs hlt f hf hf6
    obtain ⟨g, rfl⟩ : ∃ g, f = g + 1 := ⟨f - 1, by omega⟩
    have hle : 2 ^ d ≤ 16 := Nat.pow_le_pow_right (by omega) (show d ≤ 4 by omega)
    have hlev := lev_lt5 s
    have main := ord_l0 o ho s (intsL (orderS o d (g + 1) s)) (fun i hi hfi => by
        have hmem := List.mem_of_find?_eq_some hfi
        have hhit := List.find?_some hfi
        unfold hit at hhit
        rw [Bool.and_eq_true, beq_iff_eq] at hhit
        obtain ⟨t, p, e1, e2, e3, e4⟩ := hp _ hmem hhit.1
        obtain ⟨a1, a2, a3, a4, a5⟩ := andNot_fin d hd t e3 p e4
        have hps : p = s := by have := hhit.2; omega
        subst hps
        obtain ⟨k0, h⟩ := ih (lev t) (by omega) t rfl e3 g (by omega) (by omega)
        have hol := orderS_len o d (by omega) g t
        have hord : orderS o d (g + 1) p = orderS o d g t ++ bitsL d (p - t) := by
          have : o.find? (fun e => e.scan && e.par == (p : Int)) = some (o.getD i ed0) := hfi
          rw [orderS, this]
          dsimp only
          rw [e1]
          simp
        have hl1 := fun k => l1_ok (p - t) (by omega) 4 0 (intsL (orderS o d g t)) (by omega) (by unfold intsL; rw [List.length_map]; omega) k
        refine ⟨k0 + 10, fun k hk => ?_⟩
        obtain ⟨K, rfl⟩ : ∃ K, k = K + 4 + 1 + 1 := ⟨k - 6, by omega⟩
        have h := h (K + 4 + 1) (by omega)
        have hl1 := hl1 K
        generalize K + 4 + 1 = q at *
        have hrd := rd_mapE o i
        simp only [hypercuberef10_order.j1]
        rw [if_pos trivial, if_pos (by omega), if_pos (by rw [List.length_map]; omega), hrd]
        show ((hypercuberef10_order.f q (o.map mkE) (o.getD i ed0).set).bind fun t357 => hypercuberef10_order.l1 q t357 (Go.bits .andNot .i64 (p : Int) (o.getD i ed0).set) 0) = _
        rw [e1, h, Option.bind_some, a1]
        rw [bits4 d hd _ a2] at hl1
        rw [hord]
        unfold intsL at *
        rw [List.map_append]
        exact hl1) (fun hno => by
        have e : orderS o d (g + 1) s = bitsL d s := by
          have : o.find? (fun e => e.scan && e.par == (s : Int)) = none := hno
          rw [orderS, this]
        refine ⟨30, fun k hk => ?_⟩
        rw [e]
        exact at_rounds (fun k => (hypercuberef10_order.mono_l k).2.2.2.2 _ _ _) hk (l2_fin d hd s hlt)) o.length 0 (by omega) (fun j hj => absurd hj (by omega))
    obtain ⟨k0, h⟩ := main
    refine ⟨k0 + 1, fun k hk => ?_⟩
    obtain ⟨K, rfl⟩ : ∃ K, k = K + 1 := ⟨k - 1, by omega⟩
    simp only [hypercuberef10_order.f]
    exact h K (by omega)

include hd hp ho in
theorem refOrders_l0 (hd0 : 0 < d) (hsets : ∀ e ∈ o, ∃ s : Nat, e.set = (s : Int) ∧ s < 2 ^ d) : ∀ (q i : Nat), i + q = o.length → ∃ k0, ∀ k, k0 ≤ k → hypercuberef10_Orders.l0 k (o.map mkE) (d : Int) (((ordersS o d).take i).map intsL) (i : Int) = some ((ordersS o d).map intsL)
  | 0, i, hi => by
    refine ⟨1, fun k hk => ?_⟩
    obtain ⟨K, rfl⟩ : ∃ K, k = K + 1 := ⟨k - 1, by omega⟩
    simp only [hypercuberef10_Orders.l0]
    rw [if_neg (by rw [List.length_map]; omega), List.take_of_length_le (by unfold ordersS; rw [List.length_map]; omega)]
  | q + 1, i, hi => by
    have hlt : i < o.length := by omega
    obtain ⟨k1, ih⟩ := refOrders_l0 hd0 hsets q (i + 1) (by omega)
    have hmem : o.getD i ed0 ∈ o := by rw [getD_of_lt _ _ _ hlt]; exact List.getElem_mem hlt
    obtain ⟨s, hs, hs2⟩ := hsets _ hmem
    have hlev := lev_lt5 s
    obtain ⟨k0, h⟩ := ord_f d hd o ho hp (lev s) s rfl hs2 5 (by omega) (by omega)
    have hn1 := Aside0.mk (w64n i (by omega))
    have hrd := rd_mapE o i
    have hol : (ordersS o d).length = o.length := by unfold ordersS; rw [List.length_map]
    have htk : (ordersS o d).take (i + 1) = (ordersS o d).take i ++ [orderS o d 5 s] := by
      rw [List.take_succ_eq_append_getElem (by omega)]
      congr 2
      unfold ordersS
      rw [List.getElem_map]
      rw [getD_of_lt _ _ _ hlt] at hs
      rw [hs]; simp
    rw [htk, List.map_append, List.map_singleton] at ih
    refine ⟨k0 + k1 + 1, fun k hk => ?_⟩
    obtain ⟨K, rfl⟩ : ∃ K, k = K + 1 := ⟨k - 1, by omega⟩
    have h := h K (by omega)
    have ih := ih K (by omega)
    simp only [hypercuberef10_Orders.l0]
    rw [if_pos (by rw [List.length_map]; omega), if_pos (by omega), if_pos (by omega), hrd]
    show ((hypercuberef10_order.f K (o.map mkE) (o.getD i ed0).set).bind fun t368 => _) = _
    rw [hs, h, Option.bind_some, if_pos (by rw [List.length_map, List.length_take]; omega), hn1.out]
    exact ih
end
theorem ints_l0 (x : List Int) (hx : x.length ≤ 1000) : ∀ (q i : Nat), i + q = x.length → ∀ k, hypercuberef1_Ints.l0 (k + q + 1) x x (i : Int) = some true
  | 0, i, h, k => by
    simp only [hypercuberef1_Ints.l0]
    rw [if_neg (by omega)]
  | q + 1, i, h, k => by
    have ih := ints_l0 x hx q (i + 1) (by omega) k
    have hw := Aside0.mk (w64n i (by omega))
    rw [show k + (q + 1) + 1 = (k + q + 1) + 1 by omega]
    generalize k + q + 1 = K at *
    simp only [hypercuberef1_Ints.l0]
    rw [if_pos (by omega), if_pos (by omega), if_pos (by omega), if_pos trivial, hw.out]
    exact ih
theorem ints_f (x : List Int) (hx : x.length ≤ 1000) (k : Nat) (hk : 1001 ≤ k) : hypercuberef1_Ints.f k x x = some true := by
  unfold hypercuberef1_Ints.f
  rw [if_pos rfl]
  have := ints_l0 x hx x.length 0 (by omega) (k - x.length - 1)
  rw [show k - x.length - 1 + x.length + 1 = k by omega] at this
  exact this
theorem same2_l0 (x : List (List Int)) (hx : x.length ≤ 1000) (hr : ∀ r ∈ x, r.length ≤ 1000) : ∀ (q i : Nat), i + q = x.length → ∀ k, 1001 ≤ k → hypercubelaw10_same.l0 (k + q + 1) x x (i : Int) = some true
  | 0, i, h, k, hk => by
    simp only [hypercubelaw10_same.l0]
    rw [if_neg (by omega)]
  | q + 1, i, h, k, hk => by
    have ih := same2_l0 x hx hr q (i + 1) (by omega) k hk
    have hw := Aside0.mk (w64n i (by omega))
    have hlt : i < x.length := by omega
    have hrl : (rd_L3 x (i : Int)).length ≤ 1000 := by
      unfold rd_L3
      rw [Int.toNat_natCast, getD_of_lt _ _ _ hlt]
      exact hr _ (List.getElem_mem hlt)
    rw [show k + (q + 1) + 1 = (k + q + 1) + 1 by omega]
    have hI := ints_f (rd_L3 x (i : Int)) hrl (k + q + 1) (by omega)
    generalize k + q + 1 = K at *
    simp only [hypercubelaw10_same.l0]
    rw [if_pos (by omega), if_pos (by omega), if_pos (by omega), hI, Option.bind_some, if_pos rfl, hw.out]
    exact ih
theorem same2_f (x : List (List Int)) (hx : x.length ≤ 16) (hr : ∀ r ∈ x, r.length ≤ 1000) (k : Nat) (hk : 1100 ≤ k) : hypercubelaw10_same.f k x x = some true := by
  unfold hypercubelaw10_same.f
  rw [if_pos rfl]
  have := same2_l0 x (by omega) hr x.length 0 (by omega) (k - x.length - 1) (by omega)
  rw [show k - x.length - 1 + x.length + 1 = k by omega] at this
  exact this
/-- Orders, both ways, of a right plan. -/
theorem right_scan {d : Nat} (hd : d < 5) {o : List Ed} (h : RightPlan d o) : (∀ e ∈ o, e.scan = true → ∃ t p : Nat, e.set = (t : Int) ∧ e.par = (p : Int) ∧ t < 2 ^ d ∧ p ∈ parents t d) ∧ (∀ e ∈ o, ∃ s : Nat, e.set = (s : Int) ∧ s < 2 ^ d) := by
  obtain ⟨h1, h2, h3⟩ := right_at_i hd h
  constructor
  · intro e he hsc
    obtain ⟨i, hi, rfl⟩ := List.mem_iff_getElem.1 he
    obtain ⟨a, b, c⟩ := h3 i hi
    rw [getD_of_lt _ _ _ hi] at a b c
    by_cases h0 : i = 0
    · have := (b h0).2; rw [this] at hsc; cases hsc
    · obtain ⟨p, hp, hm⟩ := c h0
      exact ⟨_, p, a, hp, ((sets_fin d hd).2 i (by omega)).1, hm⟩
  · intro e he
    obtain ⟨i, hi, rfl⟩ := List.mem_iff_getElem.1 he
    obtain ⟨a, b, c⟩ := h3 i hi
    rw [getD_of_lt _ _ _ hi] at a
    exact ⟨_, a, ((sets_fin d hd).2 i (by omega)).1⟩
theorem right_okO {d : Nat} (hd : d < 5) {o : List Ed} (h : RightPlan d o) : okO d o = true := by
  obtain ⟨h1, h2, h3⟩ := right_at_i hd h
  obtain ⟨g1, g2⟩ := right_scan hd h
  have hle : 2 ^ d ≤ 16 := Nat.pow_le_pow_right (by omega) (show d ≤ 4 by omega)
  unfold okO
  rw [Bool.and_eq_true, decide_eq_true_eq, List.all_eq_true]
  refine ⟨by omega, fun e he => ?_⟩
  obtain ⟨s, hs, hs2⟩ := g2 e he
  rw [Bool.and_eq_true, Bool.and_eq_true, decide_eq_true_eq, decide_eq_true_eq]
  refine ⟨⟨?_, by omega⟩, by rw [hs]; simpa using hs2⟩
  unfold stepB
  cases hsc : e.scan with
  | false => rfl
  | true =>
    obtain ⟨t, p, e1, e2, e3, e4⟩ := g1 e he hsc
    obtain ⟨a1, a2, a3, a4, a5⟩ := andNot_fin d hd t e3 p e4
    simp [e1, e2, e3, a3, a4, a5]
theorem orders_f (d : Nat) (hd : d < 5) (o : List Ed) (h : RightPlan d o) : sorts_Orders.f (o.map mkE) (d : Int) = some ((ordersS o d).map intsL) := by
  unfold sorts_Orders.f
  rw [toEds_map, Int.toNat_natCast, if_pos ⟨⟨by omega, by omega⟩, right_okO hd h⟩]
theorem refOrders_f (d : Nat) (hd : d < 5) (hd0 : 0 < d) (o : List Ed) (h : RightPlan d o) : ∃ k0, ∀ k, k0 ≤ k → hypercuberef10_Orders.f k (o.map mkE) (d : Int) = some ((ordersS o d).map intsL) := by
  obtain ⟨h1, h2, h3⟩ := right_at_i hd h
  have hle : 2 ^ d ≤ 16 := Nat.pow_le_pow_right (by omega) (show d ≤ 4 by omega)
  obtain ⟨g1, g2⟩ := right_scan hd h
  obtain ⟨k0, hk⟩ := refOrders_l0 d hd o (by omega) g1 hd0 g2 o.length 0 (by omega)
  exact ⟨k0, hk⟩
theorem orders_small (d : Nat) (hd : d < 5) (o : List Ed) (h : RightPlan d o) : ((ordersS o d).map intsL).length ≤ 16 ∧ ∀ r ∈ (ordersS o d).map intsL, r.length ≤ 1000 := by
  obtain ⟨h1, h2, h3⟩ := right_at_i hd h
  have hle : 2 ^ d ≤ 16 := Nat.pow_le_pow_right (by omega) (show d ≤ 4 by omega)
  constructor
  · unfold ordersS; rw [List.length_map, List.length_map]; omega
  · intro r hr
    obtain ⟨l, hl, rfl⟩ := List.mem_map.1 hr
    obtain ⟨e, he, rfl⟩ := List.mem_map.1 hl
    have := orderS_len o d (by omega) 5 e.set.toNat
    unfold intsL
    rw [List.length_map]
    omega

theorem sub_fin : ∀ d : Nat, d < 5 → ∀ t : Nat, t < 2 ^ d → ∀ p ∈ parents t d, (bitsL d (p - t)).length = 1 ∧ ∀ x : Nat, x < d → (p - t).testBit x = (p.testBit x && !t.testBit x) ∧ (t.testBit x = true → p.testBit x = true) := by decide +kernel
theorem or_fin : ∀ a : Nat, a < 16 → ∀ k : Nat, k < 4 → 0 ≤ IntKind.u64.wrap (k : Int) ∧ Go.bits .or .i64 (a : Int) (shl .i64 1 (IntKind.u64.wrap (k : Int))) = ((a ||| 2 ^ k : Nat) : Int) ∧ (a ||| 2 ^ k) < 16 := by decide +kernel
theorem bitsL_mem (d s x : Nat) : x ∈ bitsL d s ↔ x < d ∧ s.testBit x = true := by unfold bitsL; rw [List.mem_filter, List.mem_range]
theorem bitsL_nodup (d s : Nat) : (bitsL d s).Nodup := List.Nodup.sublist List.filter_sublist List.nodup_range
def orL (l : List Nat) : Nat := l.foldl (fun a k => a ||| 2 ^ k) 0
theorem orL_snoc (l : List Nat) (k : Nat) : orL (l ++ [k]) = orL l ||| 2 ^ k := by simp [orL]
theorem orL_bit : ∀ (n : Nat) (l : List Nat), l.length = n → ∀ x, (orL l).testBit x = decide (x ∈ l)
  | 0, l, hl, x => by rw [List.length_eq_zero_iff.1 hl]; simp [orL]
  | n + 1, l, hl, x => by
    have hne : l ≠ [] := by intro e; rw [e] at hl; simp at hl
    obtain ⟨Q, y, rfl⟩ : ∃ Q y, l = Q ++ [y] := ⟨l.dropLast, l.getLast hne, (List.dropLast_concat_getLast hne).symm⟩
    rw [orL_snoc, Nat.testBit_or, orL_bit n Q (by simpa using hl) x, Nat.testBit_two_pow]
    by_cases h : y = x
    · subst h; simp
    · have : ¬ x = y := fun e => h e.symm
      simp [h, this]
section
variable (d : Nat) (hd : d < 5) (E : List Ed) (hR : RightPlan d E)
include hd hR
theorem right_nodup : ((E.filter (·.scan)).map (·.par)).Nodup := by
  obtain ⟨e0, r, rfl, h1, h2, h3, h4, h5, h6⟩ := hR
  rw [List.filter_cons, h3]
  exact h6
theorem order_mem : ∀ (n s : Nat), lev s = n → s < 2 ^ d → ∀ f, n < f → (orderS E d f s).Nodup ∧ ∀ x, x ∈ orderS E d f s ↔ x < d ∧ s.testBit x = true := by
  intro n
  induction n using Nat.strongRecOn with
  | ind n ih =>
    intro s hs hlt f hf
    obtain ⟨g, rfl⟩ : ∃ g, f = g + 1 := ⟨f - 1, by omega⟩
    rw [orderS]
    cases hfi : E.find? (fun e => e.scan && e.par == (s : Int)) with
    | none =>
      dsimp only
      exact ⟨bitsL_nodup d s, bitsL_mem d s⟩
    | some e =>
      dsimp only
      have hh := List.find?_some hfi
      rw [Bool.and_eq_true, beq_iff_eq] at hh
      obtain ⟨t, p, e1, e2, e3, e4⟩ := (right_scan hd hR).1 e (List.mem_of_find?_eq_some hfi) hh.1
      obtain ⟨a1, a2, a3, a4, a5⟩ := andNot_fin d hd t e3 p e4
      obtain ⟨b1, b2⟩ := sub_fin d hd t e3 p e4
      have hps : p = s := by have := hh.2; omega
      subst hps
      obtain ⟨i1, i2⟩ := ih (lev t) (by omega) t rfl e3 g (by omega)
      rw [e1, Int.toNat_natCast]
      constructor
      · refine List.nodup_append.2 ⟨i1, bitsL_nodup d _, ?_⟩
        intro a ha b hb hab
        subst hab
        obtain ⟨x1, x2⟩ := (i2 a).1 ha
        obtain ⟨y1, y2⟩ := (bitsL_mem d _ a).1 hb
        rw [(b2 a x1).1, x2] at y2
        simp at y2
      · intro x
        rw [List.mem_append, i2 x, bitsL_mem]
        constructor
        · rintro (⟨h1, h2⟩ | ⟨h1, h2⟩)
          · exact ⟨h1, (b2 x h1).2 h2⟩
          · rw [(b2 x h1).1, Bool.and_eq_true] at h2; exact ⟨h1, h2.1⟩
        · rintro ⟨h1, h2⟩
          cases ht : t.testBit x with
          | true => exact .inl ⟨h1, rfl⟩
          | false => exact .inr ⟨h1, by rw [(b2 x h1).1, h2, ht]; rfl⟩
theorem order_fuel : ∀ (n s : Nat), lev s = n → s < 2 ^ d → ∀ f g, n < f → n < g → orderS E d f s = orderS E d g s := by
  intro n
  induction n using Nat.strongRecOn with
  | ind n ih =>
    intro s hs hlt f g hf hg
    obtain ⟨f', rfl⟩ : ∃ q, f = q + 1 := ⟨f - 1, by omega⟩
    obtain ⟨g', rfl⟩ : ∃ q, g = q + 1 := ⟨g - 1, by omega⟩
    rw [orderS, orderS]
    cases hfi : E.find? (fun e => e.scan && e.par == (s : Int)) with
    | none => rfl
    | some e =>
      dsimp only
      have hh := List.find?_some hfi
      rw [Bool.and_eq_true, beq_iff_eq] at hh
      obtain ⟨t, p, e1, e2, e3, e4⟩ := (right_scan hd hR).1 e (List.mem_of_find?_eq_some hfi) hh.1
      obtain ⟨a1, a2, a3, a4, a5⟩ := andNot_fin d hd t e3 p e4
      have hps : p = s := by have := hh.2; omega
      subst hps
      rw [e1, Int.toNat_natCast, ih (lev t) (by omega) t rfl e3 f' g' (by omega) (by omega)]
theorem order_front (i : Nat) (hi : i < E.length) (hsc : (E.getD i ed0).scan = true) : ∃ t p k : Nat, (E.getD i ed0).set = (t : Int) ∧ (E.getD i ed0).par = (p : Int) ∧ orderS E d 5 p = orderS E d 5 t ++ [k] := by
  have hmem : E.getD i ed0 ∈ E := by rw [getD_of_lt _ _ _ hi]; exact List.getElem_mem hi
  obtain ⟨t, p, e1, e2, e3, e4⟩ := (right_scan hd hR).1 _ hmem hsc
  obtain ⟨a1, a2, a3, a4, a5⟩ := andNot_fin d hd t e3 p e4
  obtain ⟨b1, b2⟩ := sub_fin d hd t e3 p e4
  have hl5 := lev_lt5 p
  have hfi : E.find? (fun e => e.scan && e.par == (p : Int)) = some (E.getD i ed0) := by
    cases hf : E.find? (fun e => e.scan && e.par == (p : Int)) with
    | none =>
      have := List.find?_eq_none.1 hf _ hmem
      rw [hsc, e2] at this
      simp at this
    | some e =>
      have hh := List.find?_some hf
      rw [Bool.and_eq_true, beq_iff_eq] at hh
      obtain ⟨j, hj, hje⟩ := List.mem_iff_getElem.1 (List.mem_of_find?_eq_some hf)
      have hij := nodup_filter_map (right_nodup d hd E hR) (i := j) (j := i) (a := e) (b := E.getD i ed0) (by rw [List.getElem?_eq_getElem hj, hje]) (by rw [List.getElem?_eq_getElem hi, getD_of_lt _ _ _ hi]) hh.1 hsc (by rw [hh.2, e2])
      subst hij
      rw [getD_of_lt _ _ _ hi, hje]
  obtain ⟨k, hk⟩ : ∃ k, bitsL d (p - t) = [k] := by
    match h : bitsL d (p - t), b1 with
    | [k], _ => exact ⟨k, rfl⟩
  refine ⟨t, p, k, e1, e2, ?_⟩
  rw [orderS, hfi]
  dsimp only
  rw [e1, Int.toNat_natCast, hk, order_fuel d hd E hR (lev t) t rfl e3 4 5 (by omega) (by omega)]
end
section
variable (d : Nat) (hd : d < 5) (E : List Ed) (hR : RightPlan d E)
def ordN (i : Nat) : List Nat := orderS E d 5 ((E.getD i ed0).set.toNat)
theorem rdO (i : Nat) (hi : i < E.length) : rd_L3 ((ordersS E d).map intsL) (i : Int) = intsL (ordN d E i) := by
  unfold rd_L3 ordersS ordN
  rw [Int.toNat_natCast, List.map_map, getD_map _ _ _ ed0 _ hi]
  rfl
include hd hR
theorem ordN_facts (i : Nat) (hi : i < E.length) : (ordN d E i).Nodup ∧ (∀ x ∈ ordN d E i, x < d) ∧ (ordN d E i).length ≤ 24 ∧ ((orL (ordN d E i) : Nat) : Int) = (E.getD i ed0).set := by
  have hmem : E.getD i ed0 ∈ E := by rw [getD_of_lt _ _ _ hi]; exact List.getElem_mem hi
  obtain ⟨s, hs, hs2⟩ := (right_scan hd hR).2 _ hmem
  have hle : 2 ^ d ≤ 16 := Nat.pow_le_pow_right (by omega) (show d ≤ 4 by omega)
  obtain ⟨m1, m2⟩ := order_mem d hd E hR (lev s) s rfl hs2 5 (lev_lt5 s)
  have hol := orderS_len E d (by omega) 5 s
  unfold ordN
  rw [hs, Int.toNat_natCast]
  refine ⟨m1, fun x hx => ((m2 x).1 hx).1, by omega, ?_⟩
  congr 1
  apply Nat.eq_of_testBit_eq
  intro x
  rw [orL_bit _ _ rfl]
  by_cases hx : x < d
  · cases hb : s.testBit x with
    | true => exact decide_eq_true ((m2 x).2 ⟨hx, hb⟩)
    | false => exact decide_eq_false (fun h => by have := ((m2 x).1 h).2; rw [hb] at this; cases this)
  · rw [decide_eq_false (fun h => hx ((m2 x).1 h).1)]
    have : s < 2 ^ x := Nat.lt_of_lt_of_le hs2 (Nat.pow_le_pow_right (by omega) (by omega))
    exact (Nat.testBit_lt_two_pow this).symm
theorem so_l2 (i : Nat) (hi : i < E.length) (hn : ∃ k, hypercubelaw10_SortsOrders.l0 k (d : Int) (E.map mkE) ((ordersS E d).map intsL) (wrap64 ((i : Int) + 1)) = some true) (hsc : (E.getD i ed0).scan = true) :
    ∀ (q j : Nat), j + q = E.length → ∃ k, hypercubelaw10_SortsOrders.l2 k (d : Int) (E.map mkE) ((ordersS E d).map intsL) (i : Int) (j : Int) = some true
  | 0, j, hj => by
    obtain ⟨k, hk⟩ := hn
    refine ⟨k + 1 + 1, ?_⟩
    simp only [hypercubelaw10_SortsOrders.l2, hypercubelaw10_SortsOrders.j4]
    rw [if_neg (by rw [List.length_map]; omega), if_neg (by decide)]
    exact hk
  | q + 1, j, hj => by
    have hlt : j < E.length := by omega
    obtain ⟨k, hk⟩ := so_l2 i hi hn hsc q (j + 1) (by omega)
    obtain ⟨r1, r2, r3⟩ := right_at_i hd hR
    have hle : 2 ^ d ≤ 16 := Nat.pow_le_pow_right (by omega) (show d ≤ 4 by omega)
    have hw := Aside0.mk (w64n j (by omega))
    have ri := rd_mapE E i
    have rj := rd_mapE E j
    have oi := rdO d E i hi
    have oj := rdO d E j hlt
    have hm : (E.map mkE).length = E.length := List.length_map ..
    have hO : ((ordersS E d).map intsL).length = E.length := by unfold ordersS; rw [List.length_map, List.length_map]
    obtain ⟨f1, f2, f3, f4⟩ := ordN_facts d hd E hR i hi
    have hk := at_rounds (fun k => (hypercubelaw10_SortsOrders.mono_l k).2.2.2.1 _ _ _ _ _) (show k ≤ k + 1100 by omega) hk
    refine ⟨k + 1100 + 1 + 1, ?_⟩
    have hI := ints_f (intsL (ordN d E i)) (by unfold intsL; rw [List.length_map]; omega) (k + 1100) (by omega)
    generalize k + 1100 = Q at *
    have g0 : (mkE (E.getD i ed0)).f2 = true := hsc
    have g1 : (mkE (E.getD j ed0)).f0 = (E.getD j ed0).set := rfl
    have g2 : (mkE (E.getD i ed0)).f1 = (E.getD i ed0).par := rfl
    simp only [hypercubelaw10_SortsOrders.l2, hypercubelaw10_SortsOrders.j4]
    rw [if_pos (by omega), if_pos (by omega), if_pos (by omega), ri, g0, if_pos rfl, if_pos (by omega), if_pos (by omega), if_pos (by omega), if_pos (by omega), rj, g1, g2]
    by_cases he : (E.getD j ed0).set = (E.getD i ed0).par
    · obtain ⟨t, p, x, e1, e2, e3⟩ := order_front d hd E hR i hi hsc
      have hoj : ordN d E j = ordN d E i ++ [x] := by
        unfold ordN
        rw [he, e2, e1, Int.toNat_natCast, Int.toNat_natCast, e3]
      have hln : (intsL (ordN d E j)).length = (intsL (ordN d E i)).length + 1 := by rw [hoj]; unfold intsL; simp
      have hil : (intsL (ordN d E i)).length ≤ 24 := by unfold intsL; rw [List.length_map]; omega
      have hw2 := Aside0.mk (w64n (intsL (ordN d E i)).length (by omega))
      have htk : (intsL (ordN d E j)).take (intsL (ordN d E i)).length = intsL (ordN d E i) := by
        rw [hoj]; unfold intsL; rw [List.map_append]; simp
      rw [if_pos he, if_pos (by omega), if_pos (by omega), oi, oj, hw2.out, if_pos (by omega), if_pos (by omega), if_pos (by omega), Int.toNat_natCast, htk, hI, Option.bind_some, if_pos rfl, hw.out]
      exact hk
    · rw [if_neg he, hw.out]
      exact hk
theorem so_l1 (i : Nat) (hi : i < E.length) (hn : ∃ k, hypercubelaw10_SortsOrders.l2 k (d : Int) (E.map mkE) ((ordersS E d).map intsL) (i : Int) 0 = some true) :
    ∀ (q j : Nat), j + q = (ordN d E i).length → ∃ k, hypercubelaw10_SortsOrders.l1 k (d : Int) (E.map mkE) ((ordersS E d).map intsL) (i : Int) ((orL ((ordN d E i).take j) : Nat) : Int) (j : Int) = some true
  | 0, j, hj => by
    obtain ⟨k, hk⟩ := hn
    obtain ⟨f1, f2, f3, f4⟩ := ordN_facts d hd E hR i hi
    have oi := rdO d E i hi
    have ri := rd_mapE E i
    have hO : ((ordersS E d).map intsL).length = E.length := by unfold ordersS; rw [List.length_map, List.length_map]
    have hil : (intsL (ordN d E i)).length = (ordN d E i).length := by unfold intsL; rw [List.length_map]
    refine ⟨k + 1, ?_⟩
    simp only [hypercubelaw10_SortsOrders.l1]
    rw [if_pos (by omega), if_pos (by omega), oi, if_neg (by omega), if_pos (by rw [List.length_map]; omega), List.take_of_length_le (by omega), ri, if_pos (show ((orL (ordN d E i) : Nat) : Int) = (mkE (E.getD i ed0)).f0 from f4)]
    exact hk
  | q + 1, j, hj => by
    obtain ⟨f1, f2, f3, f4⟩ := ordN_facts d hd E hR i hi
    obtain ⟨k, hk⟩ := so_l1 i hi hn q (j + 1) (by omega)
    have oi := rdO d E i hi
    have hlt : j < (ordN d E i).length := by omega
    have hO : ((ordersS E d).map intsL).length = E.length := by unfold ordersS; rw [List.length_map, List.length_map]
    have hil : (intsL (ordN d E i)).length = (ordN d E i).length := by unfold intsL; rw [List.length_map]
    have hw := Aside0.mk (w64n j (by omega))
    have hrd : rd (intsL (ordN d E i)) (j : Int) = (((ordN d E i)[j] : Nat) : Int) := by
      rw [rdn]; unfold intsL; simp [List.getD_eq_getElem?_getD, hlt]
    have hx := f2 _ (List.getElem_mem hlt)
    have htk : (ordN d E i).take (j + 1) = (ordN d E i).take j ++ [(ordN d E i)[j]] := List.take_succ_eq_append_getElem hlt
    have ha16 : orL ((ordN d E i).take j) < 16 := by
      refine Nat.lt_pow_two_of_testBit _ (n := 4) (fun x hx4 => ?_)
      rw [orL_bit _ _ rfl]
      exact decide_eq_false (fun h => by have := f2 x (List.mem_of_mem_take h); omega)
    have hnot : (orL ((ordN d E i).take j)).testBit (ordN d E i)[j] = false := by
      rw [orL_bit _ _ rfl]
      refine decide_eq_false (fun h => ?_)
      have hn2 := f1
      rw [← List.take_append_drop (j + 1) (ordN d E i), htk] at hn2
      have := (List.nodup_append.1 (List.nodup_append.1 hn2).1).2.2 _ h _ (List.mem_singleton.2 rfl)
      exact this rfl
    rw [htk, orL_snoc] at hk
    generalize (ordN d E i)[j] = x at *
    generalize orL ((ordN d E i).take j) = a at *
    obtain ⟨o1, o2, o3⟩ := or_fin a ha16 x (by omega)
    obtain ⟨b1, b2⟩ := bit_fin a ha16 x (by omega)
    rw [hnot] at b2
    refine ⟨k + 1, ?_⟩
    simp only [hypercubelaw10_SortsOrders.l1]
    rw [if_pos (by omega), if_pos (by omega), oi, if_pos (by omega), if_pos (by omega), hrd, if_neg (by omega), if_neg (by omega), if_pos o1, if_neg (of_decide_eq_false b2), o2, hw.out]
    exact hk
theorem so_l0 : ∀ (q i : Nat), i + q = E.length → ∃ k, hypercubelaw10_SortsOrders.l0 k (d : Int) (E.map mkE) ((ordersS E d).map intsL) (i : Int) = some true
  | 0, i, hi => by
    refine ⟨1, ?_⟩
    simp only [hypercubelaw10_SortsOrders.l0]
    rw [if_neg (by rw [List.length_map]; omega)]
  | q + 1, i, hi => by
    have hlt : i < E.length := by omega
    obtain ⟨r1, r2, r3⟩ := right_at_i hd hR
    have hle : 2 ^ d ≤ 16 := Nat.pow_le_pow_right (by omega) (show d ≤ 4 by omega)
    have hw := Aside0.mk (w64n i (by omega))
    have ih : ∃ k, hypercubelaw10_SortsOrders.l0 k (d : Int) (E.map mkE) ((ordersS E d).map intsL) (wrap64 ((i : Int) + 1)) = some true := by
      rw [hw.out]; exact so_l0 q (i + 1) (by omega)
    have h2 : ∃ k, hypercubelaw10_SortsOrders.l2 k (d : Int) (E.map mkE) ((ordersS E d).map intsL) (i : Int) 0 = some true := by
      cases hsc : (E.getD i ed0).scan with
      | true => exact so_l2 d hd E hR i hlt ih hsc E.length 0 (by omega)
      | false =>
        obtain ⟨k, hk⟩ := ih
        have ri := rd_mapE E i
        have g0 : (mkE (E.getD i ed0)).f2 = false := hsc
        refine ⟨k + 1 + 1, ?_⟩
        simp only [hypercubelaw10_SortsOrders.l2, hypercubelaw10_SortsOrders.j4]
        rw [if_pos (by rw [List.length_map]; omega), if_pos (by omega), if_pos (by rw [List.length_map]; omega), ri, g0, if_neg (by decide)]
        exact hk
    obtain ⟨k, hk⟩ := so_l1 d hd E hR i hlt h2 (ordN d E i).length 0 (by omega)
    refine ⟨k + 1, ?_⟩
    simp only [hypercubelaw10_SortsOrders.l0]
    rw [if_pos (by rw [List.length_map]; omega)]
    exact hk
end
end SortsOrdersp
open SortsOrdersp
open Go.Proofs.Ytlplaidcdocbmaa.Srt
theorem SortsOrders : hypercubelaw10_SortsOrders.Pure := by
  intro a0 l1 _ _ _ _
  obtain ⟨z, hz, hzl⟩ := SortsOrdersp.within_f a0 4 (by decide) (by decide)
  have ew := Aside0.mk (w64 (1 + (z : Int)) (by omega) (by omega))
  have hd : z + 1 < 5 := by omega
  have hzd : (1 + (z : Int)) = ((z + 1 : Nat) : Int) := by omega
  obtain ⟨k1, O, hO, e1⟩ := SortsOrdersp.other_f (z + 1) l1 hd
  obtain ⟨k2, e7⟩ := SortsOrdersp.refOrders_f (z + 1) hd (by omega) O hO
  obtain ⟨s1, s2⟩ := SortsOrdersp.orders_small (z + 1) hd O hO
  have e8 := SortsOrdersp.orders_f (z + 1) hd O hO
  obtain ⟨k3, e9⟩ := SortsOrdersp.so_l0 (z + 1) hd O hO O.length 0 (by omega)
  have hol : ((ordersS O (z + 1)).map intsL).length = (O.map SortsOrdersp.mkE).length := by unfold ordersS; rw [List.length_map, List.length_map, List.length_map]
  have hK : ∃ K, K = k1 + k2 + k3 + 1200 := ⟨_, rfl⟩
  obtain ⟨K, hK⟩ := hK
  have e1 := e1 (K + 1) (by omega)
  have e7 := e7 (K + 1) (by omega)
  have e2 := SortsOrdersp.same2_f _ s1 s2 (K + 1) (by omega)
  have e9 := at_rounds (fun k => (hypercubelaw10_SortsOrders.mono_l k).2.1 _ _ _ _) (show k3 ≤ K by omega) e9
  refine ⟨K + 1, ?_⟩
  unfold hypercubelaw10_SortsOrders.f
  rw [SortsOrdersp.known_f, Option.bind_some, if_pos rfl, hz, Option.bind_some, ew.out, hzd, e1, Option.bind_some, e8, Option.bind_some, if_pos (by omega), e7, Option.bind_some, e2, Option.bind_some]
  simp only [hypercubelaw10_SortsOrders.j0]
  rw [if_neg (by decide)]
  exact e9

end Go.Proofs.Ytlplaidcdocbmaa.Pure
