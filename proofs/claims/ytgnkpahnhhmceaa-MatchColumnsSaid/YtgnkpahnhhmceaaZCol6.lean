-- Cut by pack.py, a program of this session; not trusted: Lean checks it.
import Derived.Test.YtgnkpahnhhmceaaZCol4
/- MatchColumns: what the three grids hold while they are filled. -/
namespace Go.Proofs.Ytgnkpahnhhmceaa.Core
open Go Go.RowKit Go.Proofs.YtgnkpahnhhmceaaW.PrintWords Go.Proofs.YtgnkpahnhhmceaaW.PrintLast Go.Proofs.YtgnkpahnhhmceaaW.PrintMore
set_option linter.unusedVariables false
set_option linter.unusedSimpArgs false
/-- The three grids lie apart and hold C. -/
def Grids (w : World) (s k : Nat) (gs cs : Nat → Nat) (C : Nat → List (List Int)) : Prop :=
  ∃ ok : Nat → Nat → Prop, (∀ x y q, x < 3 → y < 3 → x ≠ y → ok x q → ok y q → False) ∧ (∀ x q, x < 3 → ok x q → q < w.heap.size) ∧ ∀ x, x < 3 → Kd.S Gd 22 w s (ok x) (.slice (some ⟨gs x, 0, none⟩) k (cs x)) (C x)
theorem grids_below {w w' : World} {s k : Nat} {gs cs : Nat → Nat} {C : Nat → List (List Int)} (h : Grids w s k gs cs C) (hb : Below w.heap.size w w') : Grids w' s k gs cs C := by
  obtain ⟨ok, d1, b1, hS⟩ := h
  exact ⟨ok, d1, fun x q hx hq => Nat.lt_of_lt_of_le (b1 x q hx hq) hb.size, fun x hx => Kd.S_below (hS x hx) hb⟩
theorem getD_setg {α : Type} (t : List α) (a i : Nat) (v d : α) (h : a < t.length) : (t.set a v).getD i d = if i = a then v else t.getD i d := by
  by_cases e : i = a
  · subst e; simp [h]
  · have : a ≠ i := fun h => e h.symm
    simp [List.getD_eq_getElem?_getD, List.getElem?_set, this, e]
theorem get2 (c : List (List Int)) (p q i j : Nat) (v : Int) (hp : p < c.length) (hq : q < (c.getD p []).length) :
    ((c.set p ((c.getD p []).set q v)).getD i []).getD j 0 = if i = p ∧ j = q then v else (c.getD i []).getD j 0 := by
  rw [getD_setg _ _ _ _ _ hp]
  by_cases e : i = p
  · subst e
    rw [if_pos rfl, getD_setg _ _ _ _ _ hq]
    by_cases e2 : j = q
    · rw [if_pos e2, if_pos ⟨rfl, e2⟩]
    · rw [if_neg e2, if_neg (fun h => e2 h.2)]
  · rw [if_neg e, if_neg (fun h => e h.1)]
theorem row_mem {c : List (List Int)} {k p : Nat} (hl : c.length = k) (h : ∀ r ∈ c, RowC k r) (hp : p < k) : RowC k (c.getD p []) := by
  refine h _ ?_
  rw [getD_lt _ _ _ (by omega)]
  exact List.getElem_mem _
theorem rows_set {c : List (List Int)} {k p q : Nat} {v : Int} (hl : c.length = k) (h : ∀ r ∈ c, RowC k r) (hp : p < k) (hv : 0 ≤ v ∧ v ≤ 1000000) : ∀ r ∈ c.set p ((c.getD p []).set q v), RowC k r := by
  intro r hr
  rcases List.mem_or_eq_of_mem_set hr with h1 | rfl
  · exact h r h1
  · have hR := row_mem hl h hp
    refine ⟨by rw [List.length_set]; exact hR.1, fun u hu => ?_⟩
    rcases List.mem_or_eq_of_mem_set hu with h2 | rfl
    · exact hR.2 u h2
    · exact hv
def Filled (k : Nat) (T : List Int) (C : Nat → List (List Int)) (p q : Nat) : Prop :=
  (∀ x, x < 3 → (C x).length = k ∧ ∀ r ∈ C x, RowC k r) ∧
    ∀ i j, i < k → j < k → (i < p ∨ (i = p ∧ j < q)) → ((C 1).getD i []).getD (T.getD j 0).toNat 0 = ((C 0).getD i []).getD j 0 ∧ ((C 2).getD j []).getD i 0 = ((C 0).getD i []).getD j 0
theorem filled_zero (k : Nat) (T : List Int) : Filled k T (fun _ => zrows k k) 0 0 := by
  refine ⟨fun x hx => ⟨zrows_len k k, fun r hr => ?_⟩, fun i j _ _ h => by omega⟩
  unfold zrows at hr
  obtain ⟨j, hj, rfl⟩ := List.mem_map.1 hr
  rw [if_pos (List.mem_range.1 hj)]
  exact ⟨List.length_replicate, fun v hv => by rw [List.eq_of_mem_replicate hv]; omega⟩
theorem filled_next {k : Nat} {T : List Int} {C : Nat → List (List Int)} {p : Nat} (h : Filled k T C p k) : Filled k T C (p + 1) 0 :=
  ⟨h.1, fun i j hi hj hc => h.2 i j hi hj (by omega)⟩
def rOf (p q : Nat) (x : Nat) : Nat := if x = 2 then q else p
def iOf (T : List Int) (p q : Nat) (x : Nat) : Nat := if x = 0 then q else if x = 1 then (T.getD q 0).toNat else p
theorem filled_put {k : Nat} {T : List Int} {C : Nat → List (List Int)} {p q : Nat} {v : Int} (hT : Per k T) (h : Filled k T C p q) (hp : p < k) (hq : q < k) (hv : 0 ≤ v ∧ v ≤ 1000000) :
    Filled k T (fun x => (C x).set (rOf p q x) (((C x).getD (rOf p q x) []).set (iOf T p q x) v)) p (q + 1) := by
  have hr : ∀ x, x < 3 → rOf p q x < k := fun x hx => by unfold rOf; split <;> assumption
  have htq := hT.2.1 q hq
  have l0 := row_mem (h.1 0 (by omega)).1 (h.1 0 (by omega)).2 (hr 0 (by omega))
  have l1 := row_mem (h.1 1 (by omega)).1 (h.1 1 (by omega)).2 (hr 1 (by omega))
  have l2 := row_mem (h.1 2 (by omega)).1 (h.1 2 (by omega)).2 (hr 2 (by omega))
  refine ⟨fun x hx => ⟨by rw [List.length_set]; exact (h.1 x hx).1, rows_set (h.1 x hx).1 (h.1 x hx).2 (hr x hx) hv⟩, fun i j hi hj hc => ?_⟩
  dsimp only
  rw [get2 (C 0) _ _ i j v (by rw [(h.1 0 (by omega)).1]; exact hr 0 (by omega)) (by rw [l0.1]; show q < k; exact hq),
    get2 (C 1) _ _ i _ v (by rw [(h.1 1 (by omega)).1]; exact hr 1 (by omega)) (by rw [l1.1]; show (T.getD q 0).toNat < k; omega),
    get2 (C 2) _ _ j i v (by rw [(h.1 2 (by omega)).1]; exact hr 2 (by omega)) (by rw [l2.1]; show p < k; exact hp)]
  show (if i = p ∧ (T.getD j 0).toNat = (T.getD q 0).toNat then v else _) = (if i = p ∧ j = q then v else _) ∧ (if j = q ∧ i = p then v else _) = (if i = p ∧ j = q then v else _)
  by_cases e : i = p ∧ j = q
  · obtain ⟨rfl, rfl⟩ := e
    rw [if_pos ⟨rfl, rfl⟩, if_pos ⟨rfl, rfl⟩, if_pos ⟨rfl, rfl⟩]
    exact ⟨rfl, rfl⟩
  · have htj := hT.2.1 j hj
    have n1 : ¬ (i = p ∧ (T.getD j 0).toNat = (T.getD q 0).toNat) := fun h1 => e ⟨h1.1, hT.2.2 j q hj hq (by omega)⟩
    rw [if_neg n1, if_neg e, if_neg (fun h1 => e ⟨h1.2, h1.1⟩)]
    exact h.2 i j hi hj (by omega)
theorem filled_best {k : Nat} {T : List Int} {C : Nat → List (List Int)} (hk : k ≤ 5) (hT : Per k T) (h : Filled k T C k 0) : best (C 1) 0 = best (C 0) 0 ∧ best (C 2) 0 = best (C 0) 0 := by
  refine ⟨moved_best (n := k) (by omega) (h.1 0 (by omega)).1 (h.1 1 (by omega)).1 (h.1 0 (by omega)).2 (h.1 1 (by omega)).2 (fun j => (T.getD j 0).toNat) ?_ ?_ ?_, turned_best (n := k) (by omega) (h.1 0 (by omega)).1 (h.1 2 (by omega)).1 (h.1 0 (by omega)).2 (h.1 2 (by omega)).2 ?_⟩
  · intro j hj
    have := hT.2.1 j hj
    omega
  · intro i j hi hj e
    have h1 := hT.2.1 i hi
    have h2 := hT.2.1 j hj
    exact hT.2.2 i j hi hj (by omega)
  · exact fun i j hi hj => (h.2 i j hi hj (.inl hi)).1
  · exact fun i j hi hj => (h.2 i j hi hj (.inl hi)).2
theorem mul5 (p k : Nat) (hp : p ≤ 5) (hk : k ≤ 5) : ∃ n : Nat, n ≤ 25 ∧ (p : Int) * (k : Int) = (n : Int) := by
  have h : p * k ≤ 25 := Nat.mul_le_mul hp hk
  exact ⟨p * k, h, (Int.natCast_mul p k).symm⟩
end Go.Proofs.Ytgnkpahnhhmceaa.Core
