/- TreeMany: its plain side. -/
import Derived.Test.YtlplaidcdocbmaaCore14
import Derived.Test.YtlplaidcdocbmaaCore19
import Derived.Test.YtlplaidcdocbmaaPTreeManyx3
namespace Go.Proofs.Ytlplaidcdocbmaa.Pure
open Go.RowKit Go.Proofs.Ytlplaidcdocbmaa.PTreeMany Go.Proofs.YtlplaidcdocbmaaW.PrintWords Go.Proofs.YtlplaidcdocbmaaW.PrintLast Go.Proofs.YtlplaidcdocbmaaW.PrintMore Go.Proofs.Ytlplaidcdocbmaa.Core
set_option linter.unusedVariables false
set_option linter.unusedSimpArgs false
namespace TreeManyp
theorem within_f (a n : Int) (hn : 0 < n) (h2 : n ≤ 4611686018427387904) : ∃ z : Nat, hypercubelaw11_within.f a n = some (z : Int) ∧ (z : Int) < n := by
  have h1 := Int.tmod_lt_of_pos a hn
  have h3 := Int.tmod_lt_of_pos (-a) hn
  rw [Int.neg_tmod] at h3
  have key : ∃ z : Int, hypercubelaw11_within.f a n = some z ∧ 0 ≤ z ∧ z < n := by
    unfold hypercubelaw11_within.f
    rw [if_neg (by omega)]
    by_cases h : Int.tmod a n < 0
    · refine ⟨Int.tmod a n + n, ?_, by omega, by omega⟩
      rw [if_pos h]
      congr 1
      unfold wrap64
      omega
    · refine ⟨Int.tmod a n, ?_, by omega, by omega⟩
      rw [if_neg h]
  obtain ⟨z, h, h0, hz⟩ := key
  obtain ⟨m, rfl⟩ := Int.eq_ofNat_of_zero_le h0
  exact ⟨m, h, hz⟩

theorem known_f : hypercubelaw11_known.f = some true := by decide +kernel
def full (cs : List Int) : Int := cs.foldl (fun a c => a * c) 1
theorem full_snoc (cs : List Int) (c : Int) : full (cs ++ [c]) = full cs * c := by simp [full]
theorem full_bd : ∀ (i : Nat) (cs : List Int), cs.length = i → (∀ x ∈ cs, 1 ≤ x ∧ x ≤ 4) → 1 ≤ full cs ∧ full cs ≤ 4 ^ i
  | 0, cs, hl, h => by
    have : cs = [] := List.length_eq_zero_iff.1 hl
    subst this
    simp [full]
  | i + 1, cs, hl, h => by
    have hne : cs ≠ [] := by intro e; subst e; simp at hl
    obtain ⟨ds, c, rfl⟩ : ∃ ds c, cs = ds ++ [c] := ⟨cs.dropLast, cs.getLast hne, (List.dropLast_concat_getLast hne).symm⟩
    have hd := full_bd i ds (by simp at hl; omega) (fun x hx => h x (by simp [hx]))
    have hc := h c (by simp)
    rw [full_snoc, Int.pow_succ]
    constructor
    · have := Int.mul_le_mul hd.1 hc.1 (by omega) (by omega)
      simpa using this
    · exact Int.mul_le_mul hd.2 hc.2 (by omega) (by have := hd.1; have := hd.2; omega)
theorem upTo_le (cs : List Int) (hc : ∀ x ∈ cs, 1 ≤ x ∧ x ≤ 4) (s : Nat) : ∀ i : Nat, i ≤ cs.length → 0 ≤ upTo cs s i ∧ upTo cs s i ≤ full (cs.take i)
  | 0, _ => by simp [upTo, prodL, full]
  | i + 1, hi => by
    have ih := upTo_le cs hc s i (by omega)
    have hlt : i < cs.length := by omega
    have htk : cs.take (i + 1) = cs.take i ++ [cs[i]] := List.take_succ_eq_append_getElem hlt
    have hci := hc cs[i] (List.getElem_mem hlt)
    have hg : cs.getD i 0 = cs[i] := by simp [List.getD_eq_getElem?_getD, hlt]
    rw [htk, full_snoc]
    by_cases hb : s.testBit i = true
    · have e : upTo cs s (i + 1) = upTo cs s i * cs[i] := by
        unfold upTo
        rw [List.range_succ, List.filter_append, show [i].filter (fun j => s.testBit j) = [i] by simp [hb], prodL_snoc, hg]
      rw [e]
      exact ⟨Int.mul_nonneg ih.1 (by omega), Int.mul_le_mul_of_nonneg_right ih.2 (by omega)⟩
    · have e : upTo cs s (i + 1) = upTo cs s i := by
        unfold upTo
        rw [List.range_succ, List.filter_append, show [i].filter (fun j => s.testBit j) = [] by simp [hb], List.append_nil]
      rw [e]
      refine ⟨ih.1, Int.le_trans ih.2 ?_⟩
      have h0 : 0 ≤ full (cs.take i) := Int.le_trans ih.1 ih.2
      have := Int.mul_le_mul_of_nonneg_left (c := full (cs.take i)) hci.1 h0
      simpa using this
theorem size_same (cs : List Int) (hc : ∀ x ∈ cs, 1 ≤ x ∧ x ≤ 4) (n s : Int) (hn : full cs ≤ n) : sizeI cs n s = upTo cs s.toNat cs.length := by
  have h := (upTo_le cs hc s.toNat cs.length (Nat.le_refl _)).2
  rw [List.take_length] at h
  exact Int.min_eq_left (Int.le_trans h hn)
theorem plan_same (cs : List Int) (hc : ∀ x ∈ cs, 1 ≤ x ∧ x ≤ 4) (n n' : Int) (hn : full cs ≤ n) (hn' : full cs ≤ n') : planL S49.mk cs n = planL S49.mk cs n' := by
  have e : (fun p : Nat => sizeI cs n p) = (fun p : Nat => sizeI cs n' p) := funext fun p => by rw [size_same cs hc n p hn, size_same cs hc n' p hn']
  unfold planL parentT
  rw [e]
theorem plan_len (cs : List Int) (h4 : cs.length ≤ 4) (n : Int) : (planL S49.mk cs n).length ≤ 16 := by
  unfold planL
  rw [List.length_map, List.length_range, (sets_fin cs.length (by omega)).1]
  exact pow16 _ h4
theorem same_l0 (x : List S49) (hx : x.length ≤ 1000) : ∀ (d k i : Nat), i + d = x.length → hypercuberef10_Same.l0 (k + d + 1) x x (i : Int) = some true
  | 0, k, i, h => by
    simp only [hypercuberef10_Same.l0]
    rw [if_neg (by omega)]
  | d + 1, k, i, h => by
    have ih := same_l0 x hx d k (i + 1) (by omega)
    have hw : wrap64 ((i : Int) + 1) = ((i + 1 : Nat) : Int) := by unfold wrap64; omega
    rw [show k + (d + 1) + 1 = (k + d + 1) + 1 by omega]
    generalize k + d + 1 = K at *
    simp only [hypercuberef10_Same.l0]
    rw [if_pos (by omega), if_pos (by omega), if_pos (by omega), if_neg (by simp), hw]
    exact ih
theorem same_f (x : List S49) (hx : x.length ≤ 16) (k : Nat) (hk : 17 ≤ k) : hypercuberef10_Same.f k x x = some true := by
  unfold hypercuberef10_Same.f
  rw [if_pos rfl]
  have := same_l0 x (by omega) x.length (k - x.length - 1) 0 (by omega)
  rw [show k - x.length - 1 + x.length + 1 = k by omega] at this
  exact this
theorem plan_f (cs : List Int) (m n : Int) (hc : ∀ x ∈ cs, 1 ≤ x ∧ x ≤ 4) (h4 : cs.length ≤ 4) (h0 : 0 ≤ n) (h1 : n ≤ 1000000) : tree_Plan.f cs m n = some (planL S49.mk cs n) := by
  unfold tree_Plan.f
  rw [if_pos ⟨okCards_of h4 (fun x hx => by have := hc x hx; omega), h0, h1⟩]
theorem end_j1 (k : Nat) (hk : 17 ≤ k) (x1 m : Int) (cs : List Int) (hc : ∀ x ∈ cs, 1 ≤ x ∧ x ≤ 4) (h4 : cs.length ≤ 4) : hypercubelaw11_TreeMany.j1 (k + 1) x1 (full cs) cs m = some true := by
  obtain ⟨b1, b2⟩ := full_bd cs.length cs rfl hc
  have b3 : (4 : Int) ^ cs.length ≤ 256 := by
    have : cs.length = 0 ∨ cs.length = 1 ∨ cs.length = 2 ∨ cs.length = 3 ∨ cs.length = 4 := by omega
    rcases this with h | h | h | h | h <;> rw [h] <;> decide
  have b4 : full cs ≤ 256 := Int.le_trans b2 b3
  clear b2 b3
  simp only [hypercubelaw11_TreeMany.j1]
  by_cases he : (cs.length : Int) = 0
  · rw [if_pos he]
  · rw [if_neg he]
    have hw : wrap64 (301 - full cs) = 301 - full cs := by unfold wrap64; omega
    rw [hw]
    clear hw
    obtain ⟨z, hz, hzl⟩ := within_f x1 (301 - full cs) (by omega) (by omega)
    have hw2 : wrap64 (full cs + (z : Int)) = full cs + (z : Int) := by unfold wrap64; omega
    rw [hz, Option.bind_some, hw2]
    clear hw2
    rw [plan_f cs m (full cs) hc h4 (by omega) (by omega), Option.bind_some, plan_f cs m (full cs + (z : Int)) hc h4 (by omega) (by omega), Option.bind_some, plan_same cs hc (full cs + (z : Int)) (full cs) (by omega) (Int.le_refl _), same_f _ (plan_len cs h4 _) k hk, Option.bind_some]
theorem loop (x0 : List Int) (x1 m : Int) : ∀ (d : Nat) (cs : List Int), cs.length + d = 4 → (∀ x ∈ cs, 1 ≤ x ∧ x ≤ 4) → hypercubelaw11_TreeMany.l0 (d + 40) x0 x1 (full cs) (cs.length : Int) cs m = some true
  | 0, cs, h, hc => by
    rw [show 0 + 40 = 38 + 1 + 1 by rfl]
    have hj := end_j1 38 (by omega) x1 m cs hc (by omega)
    generalize 38 + 1 = K at *
    simp only [hypercubelaw11_TreeMany.l0]
    by_cases hl : (cs.length : Int) < (x0.length : Int)
    · rw [if_pos hl, if_neg (by omega)]; exact hj
    · rw [if_neg hl]; exact hj
  | d + 1, cs, h, hc => by
    have hj := end_j1 (d + 39) (by omega) x1 m cs hc (by omega)
    rw [show d + 1 + 40 = (d + 39 + 1) + 1 by omega]
    rw [show d + 39 + 1 = d + 40 by omega] at *
    obtain ⟨z, hz, hzl⟩ := within_f (rd x0 (cs.length : Int)) 4 (by decide) (by decide)
    have hw : wrap64 (1 + (z : Int)) = 1 + (z : Int) := by unfold wrap64; omega
    have hc' : ∀ x ∈ cs ++ [1 + (z : Int)], 1 ≤ x ∧ x ≤ 4 := by
      intro x hx
      rcases List.mem_append.1 hx with hx | hx
      · exact hc x hx
      · have := List.mem_singleton.1 hx; omega
    have ih := loop x0 x1 m d (cs ++ [1 + (z : Int)]) (by simp; omega) hc'
    obtain ⟨b1, b2⟩ := full_bd _ (cs ++ [1 + (z : Int)]) rfl hc'
    have b3 : (4 : Int) ^ (cs ++ [1 + (z : Int)]).length ≤ 256 := by
      have : (cs ++ [1 + (z : Int)]).length = 1 ∨ (cs ++ [1 + (z : Int)]).length = 2 ∨ (cs ++ [1 + (z : Int)]).length = 3 ∨ (cs ++ [1 + (z : Int)]).length = 4 := by rw [List.length_append, List.length_singleton]; omega
      rcases this with h | h | h | h <;> rw [h] <;> decide
    have b4 := Int.le_trans b2 b3
    have hP : wrap64 (full cs * rd (cs ++ [1 + (z : Int)]) (cs.length : Int)) = full (cs ++ [1 + (z : Int)]) := by
      have hr : rd (cs ++ [1 + (z : Int)]) (cs.length : Int) = 1 + (z : Int) := by simp [rd]
      rw [hr, ← full_snoc]
      clear b2 b3 ih hj
      generalize full (cs ++ [1 + (z : Int)]) = q at *
      unfold wrap64; omega
    have hwi : wrap64 ((cs.length : Int) + 1) = (((cs ++ [1 + (z : Int)]).length : Nat) : Int) := by
      rw [List.length_append, List.length_singleton]
      unfold wrap64; omega
    have HW := Aside0.mk hw
    have HP := Aside0.mk hP
    have HWI := Aside0.mk hwi
    clear b1 b2 b3 b4 hw hP hwi
    generalize d + 40 = K at *
    simp only [hypercubelaw11_TreeMany.l0]
    by_cases hl : (cs.length : Int) < (x0.length : Int)
    · rw [if_pos hl, if_pos (by omega), if_pos (by omega), hz, Option.bind_some, if_pos (by omega), HW.out, Option.bind_some, if_pos (by rw [List.length_append, List.length_singleton]; omega), HP.out, HWI.out]
      exact ih
    · rw [if_neg hl]; exact hj
end TreeManyp
open TreeManyp
theorem TreeMany : hypercubelaw11_TreeMany.Pure := by
  intro l0 a1 _ _ _ _
  refine ⟨4 + 40, ?_⟩
  unfold hypercubelaw11_TreeMany.f
  rw [TreeManyp.known_f, Option.bind_some, if_pos rfl]
  exact TreeManyp.loop l0 a1 0 4 [] rfl (by simp)

end Go.Proofs.Ytlplaidcdocbmaa.Pure
