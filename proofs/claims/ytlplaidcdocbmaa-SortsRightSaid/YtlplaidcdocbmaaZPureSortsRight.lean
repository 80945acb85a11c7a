-- Cut by pack.py, a program of this session; not trusted: Lean checks it.
import Derived.Test.YtlplaidcdocbmaaZCore14
import Derived.Test.YtlplaidcdocbmaaZPlainV
import Derived.Test.YtlplaidcdocbmaaZPSortsRightx5
/- SortsRight: its plain side. -/
namespace Go.Proofs.Ytlplaidcdocbmaa.Pure
open Go.RowKit Go.Proofs.Ytlplaidcdocbmaa.PSortsRight Go.Proofs.YtlplaidcdocbmaaW.PrintWords Go.Proofs.YtlplaidcdocbmaaW.PrintLast Go.Proofs.YtlplaidcdocbmaaW.PrintMore Go.Proofs.Ytlplaidcdocbmaa.Core
set_option linter.unusedVariables false
set_option linter.unusedSimpArgs false
set_option linter.unusedSectionVars false
namespace SortsRightp
theorem within_f (a n : Int) (hn : 0 < n) (h2 : n ≤ 4611686018427387904) : ∃ z : Nat, hypercubelaw10_within.f a n = some (z : Int) ∧ (z : Int) < n := by
  have h1 := Int.tmod_lt_of_pos a hn
  have h3 := Int.tmod_lt_of_pos (-a) hn
  rw [Int.neg_tmod] at h3
  have key : ∃ z : Int, hypercubelaw10_within.f a n = some z ∧ 0 ≤ z ∧ z < n := by
    unfold hypercubelaw10_within.f
    rw [if_neg (by omega)]
    by_cases h : Int.tmod a n < 0
    · refine ⟨Int.tmod a n + n, ?_, by omega, by omega⟩
      rw [if_pos h]
      congr 1
      unfold wrap64
      omega
    · refine ⟨Int.tmod a n, ?_, by omega, by omega⟩
      rw [if_neg h]
  obtain ⟨z, h, h0, hz⟩ := key
  obtain ⟨m, rfl⟩ := Int.eq_ofNat_of_zero_le h0
  exact ⟨m, h, hz⟩

theorem known_f : hypercubelaw10_known.f = some true := by decide +kernel
open Go.Proofs.Ytlplaidcdocbmaa.Srt
def mkE (e : Ed) : S49 := S49.mk e.set e.par e.scan
theorem rd_map (o : List Ed) (i : Nat) : rd_T49 (o.map mkE) (i : Int) = ⟨(o.getD i ed0).set, (o.getD i ed0).par, (o.getD i ed0).scan⟩ := by
  unfold rd_T49
  rw [Int.toNat_natCast]
  simp only [List.getD_eq_getElem?_getD, List.getElem?_map]
  cases o[i]? <;> rfl
theorem toEds_map (o : List Ed) : toEds S49.f0 S49.f1 S49.f2 (o.map mkE) = o := by
  unfold toEds
  rw [List.map_map]
  have : (toEd S49.f0 S49.f1 S49.f2 ∘ mkE) = id := by funext e; rfl
  rw [this, List.map_id]
theorem w64n (j : Nat) (h : j ≤ 1000) : wrap64 ((j : Int) + 1) = ((j + 1 : Nat) : Int) := next_fin j h
theorem par_ref : ∀ d : Nat, d < 5 → ∀ s : Nat, s < 2 ^ d → hypercuberef8_Parents.f 40 (s : Int) (d : Int) = some (ofN (parents s d)) := by decide +kernel
theorem par_none : ∀ d : Nat, d < 5 → parents ((sets d).getD 0 0) d = [] := by decide +kernel
theorem sets_ref : ∀ d : Nat, d < 5 → hypercuberef8_Sets.f 100 (d : Int) = some (ofN (sets d)) := by decide +kernel
theorem rd_ofN (P : List Nat) (j : Nat) (h : j < P.length) : rd (ofN P) (j : Int) = ((P[j] : Nat) : Int) := by
  rw [rdn]; simp [ofN, List.getD_eq_getElem?_getD, h]
theorem ofN_len (P : List Nat) : (ofN P).length = P.length := by simp [ofN]

/-- What is so of a plan that is laid as far as here. -/
def Laid (d i : Nat) (E : List Ed) (X : List Int) : Prop := E.map (·.set) = ((sets d).take i).map (fun (s : Nat) => (s : Int)) ∧ (∀ j, j < E.length → (j = 0 → (E.getD j ed0).par = -1 ∧ (E.getD j ed0).scan = false) ∧ (j ≠ 0 → ∃ p : Nat, (E.getD j ed0).par = (p : Int) ∧ p ∈ parents ((E.getD j ed0).set.toNat) d)) ∧ X = (E.filter (·.scan)).map (·.par) ∧ X.Nodup
theorem laid_len {d i : Nat} {E : List Ed} {X : List Int} (h : Laid d i E X) (hi : i ≤ (sets d).length) : E.length = i := by
  have := congrArg List.length h.1
  simp only [List.length_map, List.length_take] at this
  omega
theorem laid_end {d : Nat} (hd : d < 5) {E : List Ed} {X : List Int} (h : Laid d (sets d).length E X) : RightPlan d E := by
  have hl := laid_len h (Nat.le_refl _)
  obtain ⟨h1, h2, h3, h4⟩ := h
  have hs := sets_levels d hd
  rw [List.take_length] at h1
  cases E with
  | nil => rw [hs] at hl; simp at hl
  | cons e0 r =>
    rw [hs, List.map_cons, List.map_cons] at h1
    obtain ⟨a1, a2⟩ := List.cons.inj h1
    obtain ⟨b1, b2⟩ := (h2 0 (by simp)).1 rfl
    have b1 : e0.par = -1 := b1
    have b2 : e0.scan = false := b2
    refine ⟨e0, r, rfl, a1, b1, b2, a2, ?_, ?_⟩
    · intro e he
      obtain ⟨j, hj, rfl⟩ := List.mem_iff_getElem.1 he
      have := (h2 (j + 1) (by simp; omega)).2 (by omega)
      rw [getD_of_lt _ _ _ (show j + 1 < (e0 :: r).length by simp; omega)] at this
      exact this
    · rw [h3, List.filter_cons, b2] at h4
      exact h4
theorem laid_snoc {d i : Nat} {E : List Ed} {X : List Int} (h : Laid d i E X) (hi : i < (sets d).length) (e : Ed) (hs : e.set = (((sets d).getD i 0 : Nat) : Int))
    (h0 : i = 0 → e.par = -1 ∧ e.scan = false) (h1 : i ≠ 0 → ∃ p : Nat, e.par = (p : Int) ∧ p ∈ parents ((sets d).getD i 0) d) (hx : e.scan = true → e.par ∉ X) : Laid d (i + 1) (E ++ [e]) (if e.scan then X ++ [e.par] else X) := by
  have hl := laid_len h (by omega)
  obtain ⟨a1, a2, a3, a4⟩ := h
  refine ⟨?_, ?_, ?_, ?_⟩
  · rw [List.map_append, a1, List.take_succ_eq_append_getElem hi, List.map_append, List.map_singleton, List.map_singleton, hs, getD_of_lt _ _ _ hi]
  · intro j hj
    by_cases hje : j < E.length
    · have e1 : (E ++ [e]).getD j ed0 = E.getD j ed0 := by simp [List.getD_eq_getElem?_getD, List.getElem?_append_left hje]
      rw [e1]
      exact a2 j hje
    · have hje' : j = i := by simp at hj; omega
      subst hje'
      have e1 : (E ++ [e]).getD j ed0 = e := by rw [← hl]; simp [List.getD_eq_getElem?_getD]
      rw [e1]
      refine ⟨h0, fun hj0 => ?_⟩
      obtain ⟨p, hp, hm⟩ := h1 hj0
      exact ⟨p, hp, by rw [hs]; simpa using hm⟩
  · rw [List.filter_append, List.map_append, ← a3]
    cases he : e.scan with
    | true => simp [he]
    | false => simp [he]
  · cases he : e.scan with
    | true =>
      rw [if_pos rfl]
      refine List.nodup_append.2 ⟨a4, by simp, ?_⟩
      intro a ha b hb hab
      have : b = e.par := by simpa using hb
      subst this
      exact hx he (hab ▸ ha)
    | false => rw [if_neg (by decide)]; exact a4
section
variable (d : Nat) (ns : List Int)
def Goes (o : Option (List S49)) : Prop := ∃ E' : List Ed, o = some (E'.map mkE) ∧ RightPlan d E'
theorem oth_l1 (E : List Ed) (hE : E.length ≤ 16) (X : List Int) (hX : X.length ≤ 16) (i : Nat) (s p : Int)
    (h1 : p ∉ X → ∃ k, Goes d (hypercubelaw10_Other.l0 k d ns (E.map mkE ++ [⟨s, p, true⟩]) (ofN (sets d)) (X ++ [p]) (wrap64 ((i : Int) + 1))))
    (h2 : ∃ k, Goes d (hypercubelaw10_Other.l0 k d ns (E.map mkE ++ [⟨s, p, false⟩]) (ofN (sets d)) X (wrap64 ((i : Int) + 1)))) :
    ∀ (q j : Nat) (b : Bool), j + q = X.length → (b = true → p ∉ X.take j) → ∃ k, Goes d (hypercubelaw10_Other.l1 k d ns (E.map mkE) (ofN (sets d)) X (i : Int) (j : Int) s p b)
  | 0, j, b, hj, hb => by
    have hm : (E.map mkE).length = E.length := List.length_map ..
    cases b with
    | true =>
      obtain ⟨k, hk⟩ := h1 (by have := hb rfl; rwa [List.take_of_length_le (by omega)] at this)
      refine ⟨k + 1, ?_⟩
      simp only [hypercubelaw10_Other.l1]
      rw [if_neg (by omega), if_pos trivial, if_pos (by omega), if_pos (by omega)]
      exact hk
    | false =>
      obtain ⟨k, hk⟩ := h2
      refine ⟨k + 1, ?_⟩
      simp only [hypercubelaw10_Other.l1]
      rw [if_neg (by omega), if_neg (by decide), if_pos (by omega)]
      exact hk
  | q + 1, j, b, hj, hb => by
    have hn1 := Aside0.mk (w64n j (by omega))
    have hlt : j < X.length := by omega
    have htk : X.take (j + 1) = X.take j ++ [X[j]] := List.take_succ_eq_append_getElem hlt
    have hrd : rd X (j : Int) = X[j] := by rw [rdn, getD_of_lt _ _ _ hlt]
    by_cases he : X[j] = p
    · obtain ⟨k, hk⟩ := oth_l1 E hE X hX i s p h1 h2 q (j + 1) false (by omega) (fun h => by cases h)
      refine ⟨k + 1, ?_⟩
      simp only [hypercubelaw10_Other.l1]
      rw [if_pos (by omega), if_pos (by omega), hrd, if_pos he, hn1.out]
      exact hk
    · obtain ⟨k, hk⟩ := oth_l1 E hE X hX i s p h1 h2 q (j + 1) b (by omega) (fun h hm => by
        rw [htk] at hm
        rcases List.mem_append.1 hm with hm | hm
        · exact hb h hm
        · exact he (List.mem_singleton.1 hm).symm)
      refine ⟨k + 1, ?_⟩
      simp only [hypercubelaw10_Other.l1]
      rw [if_pos (by omega), if_pos (by omega), hrd, if_neg he, hn1.out]
      exact hk
theorem oth_l0 (hd : d < 5) : ∀ (q i : Nat) (E : List Ed) (X : List Int), i + q = (sets d).length → Laid d i E X → ∃ k, Goes d (hypercubelaw10_Other.l0 k d ns (E.map mkE) (ofN (sets d)) X (i : Int))
  | 0, i, E, X, hi, h => by
    have e : i = (sets d).length := by omega
    subst e
    refine ⟨1, E, ?_, laid_end hd h⟩
    simp only [hypercubelaw10_Other.l0]
    rw [if_neg (by rw [ofN_len]; omega)]
  | q + 1, i, E, X, hi, h => by
    have hle : 2 ^ d ≤ 16 := Nat.pow_le_pow_right (by omega) (show d ≤ 4 by omega)
    have hsl := (sets_fin d hd).1
    have hlt : i < (sets d).length := by omega
    have hl := laid_len h (by omega)
    have hm : (E.map mkE).length = E.length := List.length_map ..
    have hXl : X.length ≤ E.length := by
      rw [h.2.2.1, List.length_map]; exact List.length_filter_le ..
    have hfin := (sets_fin d hd).2 i (by omega)
    have hn1 := Aside0.mk (w64n i (by omega))
    have hrd : rd (ofN (sets d)) (i : Int) = (((sets d).getD i 0 : Nat) : Int) := by rw [rd_ofN _ _ hlt, getD_of_lt _ _ _ hlt]
    have hpr := par_ref d hd _ hfin.1
    have hsn := fun e => laid_snoc h hlt e
    have hp0 := par_none d hd
    have ih := fun E' X' h' => oth_l0 hd q (i + 1) E' X' (by omega) h'
    generalize hss : (sets d).getD i 0 = s at *
    have hol : (ofN (sets d)).length = (sets d).length := ofN_len _
    have happ : ∀ e : Ed, E.map mkE ++ [⟨e.set, e.par, e.scan⟩] = (E ++ [e]).map mkE := fun e => by rw [List.map_append]; rfl
    by_cases hi0 : i = 0
    · have hP : parents s d = [] := by rw [← hss, hi0]; exact hp0
      obtain ⟨k, hk⟩ := ih _ _ (hsn ⟨(s : Int), -1, false⟩ rfl (fun _ => ⟨rfl, rfl⟩) (fun h => absurd hi0 h) (fun h => by cases h))
      rw [if_neg (by simp), ← happ] at hk
      have hk2 := hk
      obtain ⟨E', hk, hR⟩ := hk
      have hk := at_rounds (fun k => (hypercubelaw10_Other.mono_l k).1 _ _ _ _ _ _) (show k ≤ k + 40 by omega) hk
      have hpr := at_rounds (fun k => hypercuberef8_Parents.mono _ _ k) (show 40 ≤ k + 40 by omega) hpr
      refine ⟨k + 40 + 1, E', ?_, hR⟩
      generalize k + 40 = K at *
      simp only [hypercubelaw10_Other.l0]
      rw [if_pos (by omega), if_pos (by omega), hrd, hpr, Option.bind_some, if_pos (by rw [ofN_len, hP]; rfl), if_pos (by omega), hn1.out]
      exact hk
    · have hne := hfin.2 hi0
      have hPl := parents_len s d (by omega)
      have hlp : (parents s d).length ≠ 0 := fun e => hne (List.length_eq_zero_iff.1 e)
      have hj : ∀ v : Int, ∃ k, Goes d (hypercubelaw10_Other.j1 k d ns (E.map mkE) (ofN (sets d)) X (i : Int) (ofN (parents s d)) v) := by
        intro v
        obtain ⟨z, hz, hzl⟩ := within_f v ((parents s d).length : Int) (by omega) (by omega)
        obtain ⟨y, hy, hyl⟩ := within_f (wrap64 (Int.tdiv v 4)) 2 (by decide) (by decide)
        have hzlt : z < (parents s d).length := by omega
        have hmem : (parents s d)[z] ∈ parents s d := List.getElem_mem hzlt
        have hrp := rd_ofN (parents s d) z hzlt
        generalize hpp : (parents s d)[z] = p at *
        have hc1 : ((p : Nat) : Int) ∉ X → ∃ k, Goes d (hypercubelaw10_Other.l0 k d ns (E.map mkE ++ [⟨(s : Int), ((p : Nat) : Int), true⟩]) (ofN (sets d)) (X ++ [((p : Nat) : Int)]) (wrap64 ((i : Int) + 1))) := by
          intro hx
          obtain ⟨k, hk⟩ := ih _ _ (hsn ⟨(s : Int), (p : Int), true⟩ rfl (fun h => absurd h hi0) (fun _ => ⟨p, rfl, hmem⟩) (fun _ => hx))
          rw [if_pos rfl, ← happ] at hk
          rw [hn1.out]
          exact ⟨k, hk⟩
        have hc2 : ∃ k, Goes d (hypercubelaw10_Other.l0 k d ns (E.map mkE ++ [⟨(s : Int), ((p : Nat) : Int), false⟩]) (ofN (sets d)) X (wrap64 ((i : Int) + 1))) := by
          obtain ⟨k, hk⟩ := ih _ _ (hsn ⟨(s : Int), (p : Int), false⟩ rfl (fun h => absurd h hi0) (fun _ => ⟨p, rfl, hmem⟩) (fun h => by cases h))
          rw [if_neg (by simp), ← happ] at hk
          rw [hn1.out]
          exact ⟨k, hk⟩
        obtain ⟨k, hk⟩ := oth_l1 d ns E (by omega) X (by omega) i (s : Int) (p : Int) hc1 hc2 X.length 0 ((y : Int) == 0) (by omega) (fun _ => by simp)
        refine ⟨k + 1, ?_⟩
        simp only [hypercubelaw10_Other.j1]
        rw [if_pos (by omega), if_pos (by omega), show ((ofN (parents s d)).length : Int) = ((parents s d).length : Int) by rw [ofN_len], hz, Option.bind_some, if_pos (by omega), if_pos (by omega), hy, Option.bind_some, hrd, hrp]
        exact hk
      have hjj : ∃ k, Goes d (if (i : Int) < (ns.length : Int) then hypercubelaw10_Other.j1 k d ns (E.map mkE) (ofN (sets d)) X (i : Int) (ofN (parents s d)) (rd ns (i : Int)) else hypercubelaw10_Other.j1 k d ns (E.map mkE) (ofN (sets d)) X (i : Int) (ofN (parents s d)) (i : Int)) := by
        by_cases hin : (i : Int) < (ns.length : Int)
        · obtain ⟨k, hk⟩ := hj (rd ns (i : Int)); exact ⟨k, by rw [if_pos hin]; exact hk⟩
        · obtain ⟨k, hk⟩ := hj (i : Int); exact ⟨k, by rw [if_neg hin]; exact hk⟩
      obtain ⟨k, E', hk, hR⟩ := hjj
      have hk : (if (i : Int) < (ns.length : Int) then hypercubelaw10_Other.j1 (k + 40) d ns (E.map mkE) (ofN (sets d)) X (i : Int) (ofN (parents s d)) (rd ns (i : Int)) else hypercubelaw10_Other.j1 (k + 40) d ns (E.map mkE) (ofN (sets d)) X (i : Int) (ofN (parents s d)) (i : Int)) = some (E'.map mkE) := by
        by_cases hin : (i : Int) < (ns.length : Int)
        · rw [if_pos hin] at hk ⊢; exact at_rounds (fun k => (hypercubelaw10_Other.mono_l k).2.1 _ _ _ _ _ _ _ _) (show k ≤ k + 40 by omega) hk
        · rw [if_neg hin] at hk ⊢; exact at_rounds (fun k => (hypercubelaw10_Other.mono_l k).2.1 _ _ _ _ _ _ _ _) (show k ≤ k + 40 by omega) hk
      have hpr := at_rounds (fun k => hypercuberef8_Parents.mono _ _ k) (show 40 ≤ k + 40 by omega) hpr
      refine ⟨k + 40 + 1, E', ?_, hR⟩
      generalize k + 40 = K at *
      simp only [hypercubelaw10_Other.l0]
      rw [if_pos (by omega), if_pos (by omega), hrd, hpr, Option.bind_some, if_neg (by rw [ofN_len]; omega)]
      exact hk
theorem other_f (hd : d < 5) : ∃ (k0 : Nat) (E : List Ed), RightPlan d E ∧ ∀ k, k0 ≤ k → hypercubelaw10_Other.f k (d : Int) ns = some (E.map mkE) := by
  obtain ⟨k, E, hk, hR⟩ := oth_l0 d ns hd (sets d).length 0 [] [] (by omega) ⟨rfl, fun j hj => absurd hj (by simp), rfl, List.nodup_nil⟩
  refine ⟨k + 100, E, hR, fun k' hk' => ?_⟩
  unfold hypercubelaw10_Other.f
  rw [show hypercuberef8_Sets.f k' (d : Int) = some (ofN (sets d)) from at_rounds (fun k => hypercuberef8_Sets.mono _ k) (by omega) (sets_ref d hd), Option.bind_some]
  exact at_rounds (fun k => (hypercubelaw10_Other.mono_l k).1 _ _ _ _ _ _) (show k ≤ k' by omega) hk
end

theorem any_ofN (P : List Nat) (v : Int) : (ofN P).contains v = P.any (fun p => ((p : Nat) : Int) == v) := by
  induction P with
  | nil => rfl
  | cons p P ih =>
    have e : ofN (p :: P) = (p : Int) :: ofN P := rfl
    rw [e, List.contains_cons, ih, List.any_cons]
    congr 1
    rw [Bool.eq_iff_iff, beq_iff_eq, beq_iff_eq]
    exact eq_comm
theorem rin_l0 (X : List Int) (v : Int) (hl : X.length ≤ 40) : ∀ (q j : Nat), j + q = X.length → ∀ K, hypercuberef10_in.l0 (K + q + 1) X v (j : Int) = some ((X.drop j).contains v)
  | 0, j, hj, K => by
    simp only [hypercuberef10_in.l0]
    rw [if_neg (by omega), List.drop_eq_nil_of_le (by omega)]
    rfl
  | q + 1, j, hj, K => by
    have hlt : j < X.length := by omega
    have ih := rin_l0 X v hl q (j + 1) (by omega) K
    have hn := Aside0.mk (w64n j (by omega))
    have hrd : rd X (j : Int) = X[j] := by rw [rdn, getD_of_lt _ _ _ hlt]
    have hdr : X.drop j = X[j] :: X.drop (j + 1) := List.drop_eq_getElem_cons hlt
    show hypercuberef10_in.l0 ((K + q + 1) + 1) X v (j : Int) = _
    generalize K + q + 1 = M at *
    simp only [hypercuberef10_in.l0]
    rw [if_pos (by omega), if_pos (by omega), hrd, hdr, List.contains_cons]
    by_cases e : X[j] = v
    · rw [if_pos e, beq_iff_eq.2 e.symm, Bool.true_or]
    · rw [if_neg e, hn.out, ih, beq_eq_false_iff_ne.2 (fun h => e h.symm), Bool.false_or]
theorem rin_f (X : List Int) (v : Int) (hl : X.length ≤ 40) (k : Nat) (hk : 41 ≤ k) : hypercuberef10_in.f k X v = some (X.contains v) := by
  have h := rin_l0 X v hl X.length 0 (by omega) (k - X.length - 1)
  rw [show k - X.length - 1 + X.length + 1 = k by omega, List.drop_zero] at h
  exact h
theorem rr_l (d : Nat) (hd : d < 5) (E : List Ed) (hE : E.length = (sets d).length) : ∀ (q i : Nat) (X : List Int), i + q = E.length → X.length ≤ i → ∀ K, 45 ≤ K →
    hypercuberef10_Right.l0 (K + 2 * q + 1) (E.map mkE) (d : Int) (ofN (sets d)) X (i : Int) = some (rightGo d i X (E.drop i))
  | 0, i, X, hi, hX, K, hK => by
    have hm : (E.map mkE).length = E.length := List.length_map ..
    simp only [hypercuberef10_Right.l0]
    rw [if_neg (by omega), List.drop_eq_nil_of_le (by omega)]
    rfl
  | q + 1, i, X, hi, hX, K, hK => by
    have hle : 2 ^ d ≤ 16 := Nat.pow_le_pow_right (by omega) (show d ≤ 4 by omega)
    have hsl := (sets_fin d hd).1
    have hlt : i < (sets d).length := by omega
    have hm : (E.map mkE).length = E.length := List.length_map ..
    have hfin := (sets_fin d hd).2 i (by omega)
    have hn1 := Aside0.mk (w64n i (by omega))
    have hrd : rd (ofN (sets d)) (i : Int) = (((sets d).getD i 0 : Nat) : Int) := by rw [rd_ofN _ _ hlt, getD_of_lt _ _ _ hlt]
    have hpr := par_ref d hd _ hfin.1
    have hgo := go_drop d E i X (by omega)
    have hrm := rd_map E i
    have ih1 : ∀ X' : List Int, X'.length ≤ i + 1 → hypercuberef10_Right.l0 (K + 2 * q + 1 + 1) (E.map mkE) (d : Int) (ofN (sets d)) X' ((i + 1 : Nat) : Int) = some (rightGo d (i + 1) X' (E.drop (i + 1))) := fun X' h => by
      have := rr_l d hd E hE q (i + 1) X' (by omega) h (K + 1) (by omega)
      rwa [show K + 1 + 2 * q + 1 = K + 2 * q + 1 + 1 by omega] at this
    have ih2 : ∀ X' : List Int, X'.length ≤ i + 1 → hypercuberef10_Right.l0 (K + 2 * q + 1) (E.map mkE) (d : Int) (ofN (sets d)) X' ((i + 1 : Nat) : Int) = some (rightGo d (i + 1) X' (E.drop (i + 1))) := fun X' h => rr_l d hd E hE q (i + 1) X' (by omega) h K hK
    have hol : (ofN (sets d)).length = (sets d).length := ofN_len _
    have hPl := parents_len ((sets d).getD i 0) d (by omega)
    have hin := rin_f
    have hok : ∀ e : Ed, okE d i e = ((e.set == (((sets d).getD i 0 : Nat) : Int)) && (if i = 0 then e.par == -1 && !e.scan else (ofN (parents ((sets d).getD i 0) d)).contains e.par)) := fun e => by
      unfold okE; rw [any_ofN]
    have hpl2 : (ofN (parents ((sets d).getD i 0) d)).length = (parents ((sets d).getD i 0) d).length := ofN_len _
    generalize (sets d).getD i 0 = s at *
    rw [show K + 2 * (q + 1) + 1 = (K + 2 * q + 1 + 1) + 1 by omega, hgo]
    have hed : ed0 = ⟨0, 0, false⟩ := rfl
    rw [← hed, hok]
    generalize E.getD i ed0 = e at *
    obtain ⟨es, ep, ec⟩ := e
    dsimp only at *
    have hpr := at_rounds (fun k => hypercuberef8_Parents.mono _ _ k) (show 40 ≤ K + 2 * q + 1 + 1 by omega) hpr
    have hinP := hin (ofN (parents s d)) ep (by omega) (K + 2 * q + 1 + 1) (by omega)
    have hinX := hin X ep (by omega) (K + 2 * q + 1 + 1) (by omega)
    have hj1 : ∀ b : Bool, hypercuberef10_Right.j1 (K + 2 * q + 1 + 1) (E.map mkE) (d : Int) (ofN (sets d)) X (i : Int) b es ep ec = some (!b && rightGo d (i + 1) (if ec = true then X ++ [ep] else X) (E.drop (i + 1))) := by
      intro b
      generalize K + 2 * q + 1 = M at *
      simp only [hypercuberef10_Right.j1]
      cases b with
      | true => rw [if_pos rfl]; rfl
      | false =>
        rw [if_neg (by decide), Bool.not_false, Bool.true_and, hn1.out]
        cases ec with
        | true =>
          rw [if_pos rfl, if_pos (by omega), if_pos rfl]
          exact ih2 _ (by simp; omega)
        | false =>
          rw [if_neg (by decide), if_neg (by decide)]
          exact ih2 _ (by omega)
    generalize K + 2 * q + 1 + 1 = M at *
    simp only [hypercuberef10_Right.l0]
    rw [if_pos (by omega), if_pos (by omega), if_pos (by omega), hrm, hrd]
    dsimp only
    by_cases hs : es = (s : Int)
    · subst hs
      rw [if_pos rfl, beq_iff_eq.2 rfl, Bool.true_and]
      by_cases hi0 : i = 0
      · rw [if_pos (by omega), if_pos hi0]
        by_cases hp : ep = -1
        · rw [if_pos hp, beq_iff_eq.2 hp, Bool.true_and]
          cases ec with
          | true => rw [if_pos rfl]; rfl
          | false =>
            rw [if_neg (by decide), hn1.out, ih1 X (by omega)]
            simp
        · rw [if_neg hp, beq_eq_false_iff_ne.2 hp]
          rfl
      · rw [if_neg (by omega), if_neg hi0, hpr, Option.bind_some, hinP, Option.bind_some]
        cases hc : (ofN (parents s d)).contains ep with
        | true =>
          rw [if_pos rfl, Bool.true_and]
          cases ec with
          | true =>
            rw [if_pos rfl, hinX, Option.bind_some, hj1, Bool.true_and]
          | false =>
            rw [if_neg (by decide), hj1]
            simp
        | false =>
          rw [if_neg (by decide), hj1]
          rfl
    · rw [if_neg hs, beq_eq_false_iff_ne.2 hs]
      rfl
theorem refRight_f (d : Nat) (hd : d < 5) (E : List Ed) (k : Nat) (hk : 200 ≤ k) : hypercuberef10_Right.f k (E.map mkE) (d : Int) = some (rightS d E) := by
  have hle : 2 ^ d ≤ 16 := Nat.pow_le_pow_right (by omega) (show d ≤ 4 by omega)
  have hsl := (sets_fin d hd).1
  have hm : (E.map mkE).length = E.length := List.length_map ..
  have hol : (ofN (sets d)).length = (sets d).length := ofN_len _
  unfold hypercuberef10_Right.f
  rw [at_rounds (fun k => hypercuberef8_Sets.mono _ k) (show 100 ≤ k by omega) (sets_ref d hd), Option.bind_some]
  unfold rightS
  by_cases he : E.length = (sets d).length
  · rw [if_pos (by omega), beq_iff_eq.2 he, Bool.true_and]
    have h := rr_l d hd E he E.length 0 [] (by omega) (by simp) (k - 2 * E.length - 1) (by omega)
    rw [show k - 2 * E.length - 1 + 2 * E.length + 1 = k by omega, List.drop_zero] at h
    exact h
  · rw [if_neg (by omega), beq_eq_false_iff_ne.2 he]
    rfl
theorem sr_f (d : Nat) (hd : d < 5) (E : List Ed) (h : okW E = true) : sorts_Right.f (E.map mkE) (d : Int) = some (rightS d E) := by
  unfold sorts_Right.f
  rw [toEds_map, if_pos ⟨⟨by omega, by omega⟩, h⟩, Int.toNat_natCast]
theorem sr_l (L L' : List Ed) (hL : okW L = true) (hL' : okW L' = true) (d : Nat) (hd : d < 5) : ∀ q i : Nat, i + q = 5 → ∀ K, 200 ≤ K → hypercubelaw10_SortsRight.l0 (K + q + 1) (L.map mkE) (d : Int) (L'.map mkE) (i : Int) = some true
  | 0, i, hi, K, hK => by
    simp only [hypercubelaw10_SortsRight.l0]
    rw [if_neg (by omega), sr_f d hd L' hL', Option.bind_some, refRight_f d hd L' K (by omega), Option.bind_some]
    simp
  | q + 1, i, hi, K, hK => by
    have ih := sr_l L L' hL hL' d hd q (i + 1) (by omega) K hK
    have hn := Aside0.mk (w64n i (by omega))
    show hypercubelaw10_SortsRight.l0 ((K + q + 1) + 1) _ _ _ _ = _
    have e2 := refRight_f i (by omega) L (K + q + 1) (by omega)
    generalize K + q + 1 = M at *
    simp only [hypercubelaw10_SortsRight.l0]
    rw [if_pos (by omega), sr_f i (by omega) L hL, Option.bind_some, e2, Option.bind_some, if_neg (by simp), hn.out]
    exact ih
theorem sr_j (L L' : List Ed) (hL : okW L = true) (hL' : okW L' = true) (d : Nat) (hd : d < 5) (k : Nat) (hk : 300 ≤ k) : hypercubelaw10_SortsRight.j0 k (L.map mkE) (d : Int) (L'.map mkE) = some true := by
  obtain ⟨k, rfl⟩ : ∃ m, k = m + 1 := ⟨k - 1, by omega⟩
  have h := sr_l L L' hL hL' d hd 4 1 (by omega) (k - 5) (by omega)
  rw [show k - 5 + 4 + 1 = k by omega] at h
  simp only [hypercubelaw10_SortsRight.j0]
  exact h
theorem okW_of (E : List Ed) (h : ∀ e ∈ E, (Lit.int .i64 e.par).wf = true) : okW E = true := List.all_eq_true.2 h
theorem okW_mem {E : List Ed} (h : okW E = true) : ∀ e ∈ E, (Lit.int .i64 e.par).wf = true := List.all_eq_true.1 h
theorem okW_set (E : List Ed) (h : okW E = true) (n : Nat) (e : Ed) (he : (Lit.int .i64 e.par).wf = true) : okW (E.set n e) = true := okW_of _ fun x hx => by
  rcases List.mem_or_eq_of_mem_set hx with hx | rfl
  · exact okW_mem h x hx
  · exact he
theorem okW_take (E : List Ed) (h : okW E = true) (n : Nat) : okW (E.take n) = true := okW_of _ fun x hx => okW_mem h x (List.mem_of_mem_take hx)
theorem okW_snoc (E : List Ed) (h : okW E = true) (e : Ed) (he : (Lit.int .i64 e.par).wf = true) : okW (E ++ [e]) = true := okW_of _ fun x hx => by
  rcases List.mem_append.1 hx with hx | hx
  · exact okW_mem h x hx
  · rw [List.mem_singleton.1 hx]; exact he
theorem okW_get (E : List Ed) (h : okW E = true) (i : Nat) (hi : i < E.length) : (Lit.int .i64 (E.getD i ed0).par).wf = true := by
  rw [getD_of_lt _ _ _ hi]; exact okW_mem h _ (List.getElem_mem hi)
theorem wf_small : ∀ z : Nat, z < 18 → (Lit.int .i64 (wrap64 ((z : Int) - 2))).wf = true := by decide +kernel
theorem mk_back (L : List S49) : L = (toEds S49.f0 S49.f1 S49.f2 L).map mkE := by
  unfold toEds
  rw [List.map_map]
  have : (mkE ∘ toEd S49.f0 S49.f1 S49.f2) = id := by funext e; rfl
  rw [this, List.map_id]
end SortsRightp
open SortsRightp
open Go.Proofs.Ytlplaidcdocbmaa.Srt
open Go.Proofs.Ytlplaidcdocbmaa.Srt
theorem SortsRight (L0 : List S49) (hL0 : ∀ e ∈ L0, (Lit.int .i64 e.f1).wf = true) (a1 : Int) (l2 : List Int) (a3 a4 a5 : Int) : ∃ k, hypercubelaw10_SortsRight.f k L0 a1 l2 a3 a4 a5 = some true := by
  obtain ⟨L, hL, hLe⟩ : ∃ L : List Ed, okW L = true ∧ L0 = L.map SortsRightp.mkE := ⟨_, SortsRightp.okW_of _ (fun e he => by
    obtain ⟨x, hx, rfl⟩ := List.mem_map.1 he
    exact hL0 x hx), SortsRightp.mk_back L0⟩
  subst hLe
  clear hL0
  by_cases hbig : ((L.map SortsRightp.mkE).length : Int) > 40
  · refine ⟨0, ?_⟩
    unfold hypercubelaw10_SortsRight.f
    rw [SortsRightp.known_f, Option.bind_some, if_pos rfl, if_pos hbig]
  obtain ⟨z, hz, hzl⟩ := SortsRightp.within_f a1 4 (by decide) (by decide)
  have ew := Aside0.mk (w64 (1 + (z : Int)) (by omega) (by omega))
  have hd : z + 1 < 5 := by omega
  have hzd : (1 + (z : Int)) = ((z + 1 : Nat) : Int) := by omega
  obtain ⟨k1, O, hO, e1⟩ := SortsRightp.other_f (z + 1) l2 hd
  have e1 := e1 (k1 + 400) (by omega)
  obtain ⟨o1, o2, _⟩ := right_at_i hd hO
  have hle : 2 ^ (z + 1) ≤ 16 := Nat.pow_le_pow_right (by omega) (show z + 1 ≤ 4 by omega)
  have hpos : 0 < 2 ^ (z + 1) := Nat.pow_pos (by omega)
  have hokO := (right_okW hd hO).1
  have hlo : (O.map SortsRightp.mkE).length = O.length := List.length_map ..
  obtain ⟨t, ht, htl⟩ := SortsRightp.within_f a3 ((O.map SortsRightp.mkE).length : Int) (by omega) (by omega)
  obtain ⟨u, hu, hul⟩ := SortsRightp.within_f a4 6 (by decide) (by decide)
  obtain ⟨x, hx, hxl⟩ := SortsRightp.within_f a5 17 (by decide) (by decide)
  obtain ⟨y, hy, hyl⟩ := SortsRightp.within_f a5 18 (by decide) (by decide)
  have hsj := fun L' h => SortsRightp.sr_j L L' hL h (z + 1) hd (k1 + 400) (by omega)
  have hwt := SortsRightp.okW_get O hokO t (by omega)
  have hrm := SortsRightp.rd_map O t
  have hwy := SortsRightp.wf_small y (by omega)
  have hset : ∀ e : Ed, (O.map SortsRightp.mkE).set t (SortsRightp.mkE e) = (O.set t e).map SortsRightp.mkE := fun e => by rw [List.map_set]
  have c0 := hsj _ (SortsRightp.okW_set O hokO t ⟨wrap64 ((x : Int) - 1), (O.getD t ed0).par, (O.getD t ed0).scan⟩ hwt)
  have c1 := hsj _ (SortsRightp.okW_set O hokO t ⟨(O.getD t ed0).set, wrap64 ((y : Int) - 2), (O.getD t ed0).scan⟩ hwy)
  have c2 := hsj _ (SortsRightp.okW_set O hokO t ⟨(O.getD t ed0).set, (O.getD t ed0).par, !(O.getD t ed0).scan⟩ hwt)
  have c3 := fun n => hsj _ (SortsRightp.okW_take O hokO n)
  have c4 := hsj _ (SortsRightp.okW_snoc O hokO ⟨(O.getD t ed0).set, (O.getD t ed0).par, (O.getD t ed0).scan⟩ hwt)
  have c5 := hsj _ hokO
  rw [← hset] at c0 c1 c2
  rw [List.map_append] at c4
  have wn : 0 ≤ wrap64 (((O.map SortsRightp.mkE).length : Int) - 1) ∧ wrap64 (((O.map SortsRightp.mkE).length : Int) - 1) ≤ ((O.map SortsRightp.mkE).length : Int) := by
    rw [w64 _ (by omega) (by omega)]; omega
  have WN := Aside0.mk wn
  clear wn
  generalize O.getD t ed0 = e at *
  refine ⟨k1 + 400, ?_⟩
  unfold hypercubelaw10_SortsRight.f
  rw [SortsRightp.known_f, Option.bind_some, if_pos rfl, if_neg hbig, hz, Option.bind_some, ew.out, hzd, e1, Option.bind_some, ht, Option.bind_some, hu, Option.bind_some, hrm]
  generalize k1 + 400 = K at *
  have ht0 : (0 : Int) ≤ (t : Int) := by omega
  have ht1 : (t : Int) < ((O.map SortsRightp.mkE).length : Int) := htl
  by_cases u0 : (u : Int) = 0
  · rw [if_pos u0, hx, Option.bind_some, if_pos ht0, if_pos ht1, Int.toNat_natCast]
    exact c0
  rw [if_neg u0]
  by_cases u1 : (u : Int) = 1
  · rw [if_pos u1, hy, Option.bind_some, if_pos ht0, if_pos ht1, Int.toNat_natCast]
    exact c1
  rw [if_neg u1]
  by_cases u2 : (u : Int) = 2
  · rw [if_pos u2, if_pos ht0, if_pos ht1, Int.toNat_natCast]
    exact c2
  rw [if_neg u2]
  by_cases u3 : (u : Int) = 3
  · rw [if_pos u3, if_pos WN.out.1, if_pos WN.out.2, ← List.map_take]
    exact c3 _
  rw [if_neg u3]
  by_cases u4 : (u : Int) = 4
  · rw [if_pos u4, if_pos ht0, if_pos ht1, if_pos (by rw [hlo]; omega)]
    exact c4
  rw [if_neg u4]
  exact c5

end Go.Proofs.Ytlplaidcdocbmaa.Pure
