-- Cut by pack.py, a program of this session; not trusted: Lean checks it.
import Derived.Test.YtgnkpahnhhmceaaZCore13
import Derived.Test.YtgnkpahnhhmceaaZCore11
/- Choices moved: one row dearer, a column more, columns in another order, a square turned about. -/
namespace Go.Proofs.Ytgnkpahnhhmceaa.Core
set_option linter.unusedVariables false
set_option linter.unusedSimpArgs false

theorem good_rowc {m : Nat} {c : List (List Int)} (h : ∀ r ∈ c, RowC m r) : Good m c := by
  intro r hr
  obtain ⟨h1, h2⟩ := h r hr
  refine ⟨h1, fun k => ?_⟩
  by_cases hk : k < r.length
  · have e : r.getD k 0 = r[k] := by simp [hk]
    rw [e]; exact h2 _ (List.getElem_mem hk)
  · rw [List.getD_eq_getElem?_getD, List.getElem?_eq_none (by omega)]; simp
/-- A choice that is there: the first columns. -/
theorem first_fits {m : Nat} {c : List (List Int)} (hcm : c.length ≤ m) : Fits m c 0 (List.range c.length) :=
  fits_of m c 0 _ (by simp) List.nodup_range (fun k hk => ⟨by have := List.mem_range.1 hk; omega, by simp⟩)
theorem tot_le {m : Nat} : ∀ (rs : List (List Int)) (ks : List Nat), Good m rs → tot rs ks ≤ 1000000 * (rs.length : Int)
  | [], ks, _ => by simp [tot]
  | r :: rs, [], _ => by simp [tot]; omega
  | r :: rs, k :: ks, hg => by
    have ih := tot_le rs ks (fun r hr => hg r (by simp [hr]))
    have hr := (hg r (by simp)).2 k
    show r.getD k 0 + tot rs ks ≤ 1000000 * ((r :: rs).length : Int)
    simp only [List.length_cons]
    omega
theorem best_hope {m : Nat} {c : List (List Int)} (hc : c.length ≤ 12) (hcm : c.length ≤ m) (h : ∀ r ∈ c, RowC m r) : best c 0 < HOPE := by
  have h1 := best_le_tot m c 0 _ (good_rowc h) (first_fits hcm)
  have h2 := tot_le (m := m) c (List.range c.length) (good_rowc h)
  unfold HOPE
  omega
/-- The choice, all that is known of it. -/
theorem chosen {m : Nat} {c : List (List Int)} (hc : c.length ≤ 12) (hcm : c.length ≤ m) (h : ∀ r ∈ c, RowC m r) :
    ∃ ks : List Nat, pick c 0 = ks.map (fun k : Nat => (k : Int)) ∧ Fits m c 0 ks ∧ tot c ks = best c 0 ∧ (∀ ls, Fits m c 0 ls → best c 0 ≤ tot c ls) ∧ (∀ ls, Fits m c 0 ls → tot c ls = best c 0 → ¬ Ahead ls ks) := by
  have hb := best_hope hc hcm h
  obtain ⟨ks, h1, h2, h3⟩ := pick_fits m c 0 hc (good_rowc h) hb
  exact ⟨ks, h1, h2, h3, fun ls hl => best_le_tot m c 0 ls (good_rowc h) hl, fun ls hl he => pick_first m c 0 ks ls hc (good_rowc h) hb h1 hl he⟩

-- one row dearer
def dearer (c : List (List Int)) (k : Nat) (w : Int) : List (List Int) := c.set k ((c.getD k []).map (· + w))
-- one more column
-- sums over an order
theorem sum_perm {a b : List Int} (h : List.Perm a b) : a.sum = b.sum := by
  induction h with
  | nil => rfl
  | cons x _ ih => rw [List.sum_cons, List.sum_cons, ih]
  | swap x y l => simp only [List.sum_cons]; omega
  | trans _ _ ih1 ih2 => rw [ih1, ih2]
theorem tot_sum : ∀ (rs : List (List Int)) (ks : List Nat), ks.length = rs.length → tot rs ks = ((List.range rs.length).map fun i => (rs.getD i []).getD (ks.getD i 0) 0).sum
  | [], ks, _ => by simp [tot]
  | r :: rs, [], h => by simp at h
  | r :: rs, k :: ks, h => by
    rw [List.length_cons, List.range_succ_eq_map, List.map_cons, List.sum_cons, List.map_map]
    have ih := tot_sum rs ks (by simpa using h)
    show r.getD k 0 + tot rs ks = _
    rw [ih]
    congr 1
theorem range_perm {n : Nat} {l : List Nat} (hl : l.length = n) (hn : l.Nodup) (hb : ∀ x ∈ l, x < n) : List.Perm l (List.range n) := by
  refine (List.perm_ext_iff_of_nodup hn List.nodup_range).2 (fun x => ⟨fun h => List.mem_range.2 (hb x h), fun h => ?_⟩)
  refine Classical.byContradiction (fun hx => ?_)
  have := List.Nodup.length_le_of_subset (l₁ := x :: l) (l₂ := List.range n) (List.nodup_cons.2 ⟨hx, hn⟩) (fun y hy => by
    rcases List.mem_cons.1 hy with rfl | hy
    · exact h
    · exact List.mem_range.2 (hb y hy))
  simp at this
  omega
theorem getD_lt {α : Type} (l : List α) (i : Nat) (x : α) (h : i < l.length) : l.getD i x = l[i] := by simp [h]

-- a square's other way about
def inv (ks : List Nat) : List Nat := (List.range ks.length).map fun j => ks.idxOf j
theorem inv_fits {n : Nat} {c e : List (List Int)} (hc : c.length = n) (he : e.length = n) {ks : List Nat} (h : Fits n c 0 ks) : Fits n e 0 (inv ks) ∧ (∀ j, j < n → ks.getD ((inv ks).getD j 0) 0 = j ∧ (inv ks).getD j 0 < n) ∧ ks.length = n := by
  obtain ⟨h1, h2, h3⟩ := of_fits n _ _ _ h
  have hlen : ks.length = n := by omega
  have hp := range_perm hlen h2 (fun x hx => (h3 x hx).1)
  have hmem : ∀ j, j < n → j ∈ ks := fun j hj => hp.mem_iff.2 (List.mem_range.2 hj)
  have hg : ∀ j, j < n → (inv ks).getD j 0 = ks.idxOf j := fun j hj => by
    unfold inv
    simp [hlen, hj]
  have hv : ∀ j, j < n → ks.getD ((inv ks).getD j 0) 0 = j ∧ (inv ks).getD j 0 < n := fun j hj => by
    have hi := List.idxOf_lt_length_of_mem (hmem j hj)
    rw [hg j hj, getD_lt _ _ _ hi]
    exact ⟨List.getElem_idxOf hi, by omega⟩
  refine ⟨fits_of n e 0 _ (by simp [inv]; omega) ?_ (fun k hk => ?_), hv, hlen⟩
  · unfold List.Nodup
    rw [List.pairwise_iff_getElem]
    intro a b ha hb hab e
    have ha' : a < n := by simpa [inv, hlen] using ha
    have hb' : b < n := by simpa [inv, hlen] using hb
    have h4 := (hv a ha').1
    have h5 := (hv b hb').1
    rw [getD_lt _ _ _ ha] at h4
    rw [getD_lt _ _ _ hb] at h5
    rw [e, h5] at h4
    omega
  · obtain ⟨j, hj, rfl⟩ := List.mem_map.1 hk
    have hj' : j < n := by have := List.mem_range.1 hj; omega
    have := (hv j hj').2
    rw [hg j hj'] at this
    exact ⟨this, by simp⟩
theorem turned_tot {n : Nat} {c e : List (List Int)} (hc : c.length = n) (he : e.length = n) (hce : ∀ i j, i < n → j < n → (e.getD j []).getD i 0 = (c.getD i []).getD j 0) {ks : List Nat} (h : Fits n c 0 ks) : tot e (inv ks) = tot c ks := by
  obtain ⟨h1, h2, h3⟩ := inv_fits hc he h
  have hks := of_fits n _ _ _ h
  have hiv := of_fits n _ _ _ h1
  rw [tot_sum e (inv ks) (by omega), tot_sum c ks (by omega), hc, he]
  have e1 : ((List.range n).map fun j => (e.getD j []).getD ((inv ks).getD j 0) 0) = (inv ks).map fun i => (c.getD i []).getD (ks.getD i 0) 0 := by
    have hl : (inv ks).length = n := by omega
    apply List.ext_getElem (by simp [hl])
    intro j g1 g2
    have hj : j < n := by simpa using g1
    obtain ⟨h4, h5⟩ := h2 j hj
    rw [List.getElem_map, List.getElem_map, List.getElem_range, ← getD_lt (inv ks) j 0 (by omega), hce _ j h5 hj, h4]
  rw [e1]
  refine sum_perm (List.Perm.map _ (range_perm (by omega) hiv.2.1 (fun x hx => (hiv.2.2 x hx).1)))
theorem turned_best {n : Nat} {c e : List (List Int)} (hn : n ≤ 12) (hc : c.length = n) (he : e.length = n) (hrc : ∀ r ∈ c, RowC n r) (hre : ∀ r ∈ e, RowC n r)
    (hce : ∀ i j, i < n → j < n → (e.getD j []).getD i 0 = (c.getD i []).getD j 0) : best e 0 = best c 0 := by
  obtain ⟨ks, p1, f1, t1, b1, a1⟩ := chosen (m := n) (c := c) (by omega) (by omega) hrc
  obtain ⟨ls, p2, f2, t2, b2, a2⟩ := chosen (m := n) (c := e) (by omega) (by omega) hre
  have h1 := b2 _ (inv_fits hc he f1).1
  have h2 := b1 _ (inv_fits he hc f2).1
  have h3 := turned_tot hc he hce f1
  have h4 := turned_tot he hc (fun i j hi hj => (hce j i hj hi).symm) f2
  omega

-- columns in another order
theorem moved_tot {n : Nat} {c d : List (List Int)} (hc : c.length = n) (hd : d.length = n) (t : Nat → Nat) (hcd : ∀ i j, i < n → j < n → (d.getD i []).getD (t j) 0 = (c.getD i []).getD j 0) {ks : List Nat} (hl : ks.length = n) (hb : ∀ k ∈ ks, k < n) :
    tot d (ks.map t) = tot c ks := by
  rw [tot_sum d _ (by simp; omega), tot_sum c ks (by omega), hc, hd]
  congr 1
  refine List.map_congr_left (fun i hi => ?_)
  have hi' := List.mem_range.1 hi
  have e : (ks.map t).getD i 0 = t (ks.getD i 0) := by simp [show i < ks.length by omega]
  rw [e]
  refine hcd i _ hi' ?_
  rw [getD_lt _ _ _ (by omega)]
  exact hb _ (List.getElem_mem _)
theorem moved_le {n : Nat} {c d : List (List Int)} (hn : n ≤ 12) (hc : c.length = n) (hd : d.length = n) (hrc : ∀ r ∈ c, RowC n r) (hrd : ∀ r ∈ d, RowC n r) (t : Nat → Nat) (ht : ∀ j, j < n → t j < n) (hti : ∀ i j, i < n → j < n → t i = t j → i = j)
    (hcd : ∀ i j, i < n → j < n → (d.getD i []).getD (t j) 0 = (c.getD i []).getD j 0) : best d 0 ≤ best c 0 := by
  obtain ⟨ks, p1, f1, t1, b1, a1⟩ := chosen (m := n) (c := c) (by omega) (by omega) hrc
  obtain ⟨ls, p2, f2, t2, b2, a2⟩ := chosen (m := n) (c := d) (by omega) (by omega) hrd
  obtain ⟨g1, g2, g3⟩ := of_fits n _ _ _ f1
  have hf : Fits n d 0 (ks.map t) := by
    refine fits_of n d 0 _ (by simp; omega) ?_ (fun k hk => ?_)
    · unfold List.Nodup
      rw [List.pairwise_map]
      refine List.Pairwise.imp_of_mem ?_ g2
      intro a b ha hb hne e
      exact hne (hti a b (g3 a ha).1 (g3 b hb).1 e)
    · obtain ⟨j, hj, rfl⟩ := List.mem_map.1 hk
      exact ⟨ht j (g3 j hj).1, by simp⟩
  have h1 := b2 _ hf
  have h2 := moved_tot hc hd t hcd (ks := ks) (by omega) (fun k hk => (g3 k hk).1)
  omega
theorem moved_best {n : Nat} {c d : List (List Int)} (hn : n ≤ 12) (hc : c.length = n) (hd : d.length = n) (hrc : ∀ r ∈ c, RowC n r) (hrd : ∀ r ∈ d, RowC n r) (t : Nat → Nat) (ht : ∀ j, j < n → t j < n) (hti : ∀ i j, i < n → j < n → t i = t j → i = j)
    (hcd : ∀ i j, i < n → j < n → (d.getD i []).getD (t j) 0 = (c.getD i []).getD j 0) : best d 0 = best c 0 := by
  have h1 := moved_le hn hc hd hrc hrd t ht hti hcd
  have hp : List.Perm ((List.range n).map t) (List.range n) := range_perm (by simp) (by
    unfold List.Nodup
    rw [List.pairwise_map]
    refine List.Pairwise.imp_of_mem ?_ (List.nodup_range (n := n))
    intro a b ha hb hne e
    exact hne (hti a b (List.mem_range.1 ha) (List.mem_range.1 hb) e)) (fun x hx => by
    obtain ⟨j, hj, rfl⟩ := List.mem_map.1 hx
    exact ht j (List.mem_range.1 hj))
  have hinv : ∀ x, x < n → ∃ j, j < n ∧ t j = x := fun x hx => by
    obtain ⟨j, hj, e⟩ := List.mem_map.1 (hp.mem_iff.2 (List.mem_range.2 hx))
    exact ⟨j, List.mem_range.1 hj, e⟩
  let u : Nat → Nat := fun x => if h : x < n then Classical.choose (hinv x h) else 0
  have hu : ∀ x, x < n → u x < n ∧ t (u x) = x := fun x hx => by
    have e : u x = Classical.choose (hinv x hx) := dif_pos hx
    rw [e]
    exact Classical.choose_spec (hinv x hx)
  have h2 := moved_le hn hd hc hrd hrc u (fun j hj => (hu j hj).1) (fun i j hi hj e => by rw [← (hu i hi).2, ← (hu j hj).2, e]) (fun i j hi hj => by
    have := hcd i (u j) hi (hu j hj).1
    rw [(hu j hj).2] at this
    exact this.symm)
  omega
end Go.Proofs.Ytgnkpahnhhmceaa.Core
