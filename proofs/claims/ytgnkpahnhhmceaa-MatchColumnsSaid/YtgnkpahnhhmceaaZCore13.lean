-- Cut by pack.py, a program of this session; not trusted: Lean checks it.
import Derived.Test.YtgnkpahnhhmceaaZCore12
/- Choices by numbers: orders of columns, two of them changed about; sums along a choice. -/
namespace Go.Proofs.Ytgnkpahnhhmceaa.Core
open Go.RowKit Go.Proofs.YtgnkpahnhhmceaaW.PrintWords Go.Proofs.YtgnkpahnhhmceaaW.PrintLast Go.Proofs.YtgnkpahnhhmceaaW.PrintMore
set_option linter.unusedVariables false
set_option linter.unusedSimpArgs false

theorem fits_of (m : Nat) : ∀ (rs : List (List Int)) (s : Nat) (ks : List Nat), ks.length = rs.length → ks.Nodup → (∀ k ∈ ks, k < m ∧ s.testBit k = false) → Fits m rs s ks
  | [], s, ks, hl, _, _ => List.length_eq_zero_iff.1 (by simpa using hl)
  | r :: rs, s, [], hl, _, _ => by simp at hl
  | r :: rs, s, k :: l, hl, hn, hk => by
    rw [List.nodup_cons] at hn
    refine ⟨k, l, rfl, (hk k (by simp)).1, (hk k (by simp)).2, fits_of m rs _ l (by simpa using hl) hn.2 (fun j hj => ⟨(hk j (by simp [hj])).1, ?_⟩)⟩
    rw [testBit_put, (hk j (by simp [hj])).2, Bool.false_or]
    exact decide_eq_false (fun e : k = j => hn.1 (by rw [e]; exact hj))
theorem of_fits (m : Nat) : ∀ (rs : List (List Int)) (s : Nat) (ks : List Nat), Fits m rs s ks → ks.length = rs.length ∧ ks.Nodup ∧ ∀ k ∈ ks, k < m ∧ s.testBit k = false
  | [], s, ks, h => by
    obtain rfl : ks = [] := h
    simp
  | r :: rs, s, ks, h => by
    obtain ⟨k, l, rfl, hk, hf, h'⟩ := h
    obtain ⟨h1, h2, h3⟩ := of_fits m rs _ l h'
    have h4 : ∀ j ∈ l, s.testBit j = false ∧ ¬ k = j := fun j hj => by
      have := (h3 j hj).2
      rw [testBit_put, Bool.or_eq_false_iff] at this
      exact ⟨this.1, of_decide_eq_false this.2⟩
    refine ⟨by simp [h1], List.nodup_cons.2 ⟨fun hm => (h4 k hm).2 rfl, h2⟩, fun j hj => ?_⟩
    rcases List.mem_cons.1 hj with rfl | hj
    · exact ⟨hk, hf⟩
    · exact ⟨(h3 j hj).1, (h4 j hj).1⟩

/-- An order of the columns. -/
def Per (m : Nat) (t : List Int) : Prop := t.length = m ∧ (∀ i, i < m → 0 ≤ t.getD i 0 ∧ t.getD i 0 < (m : Int)) ∧ ∀ i j, i < m → j < m → t.getD i 0 = t.getD j 0 → i = j
theorem getD_set (t : List Int) (a i : Nat) (v : Int) (h : a < t.length) : (t.set a v).getD i 0 = if a = i then v else t.getD i 0 := by
  rw [List.getD_eq_getElem?_getD, List.getElem?_set]
  by_cases e : a = i
  · rw [if_pos e, if_pos e, if_pos h]; rfl
  · rw [if_neg e, if_neg e, List.getD_eq_getElem?_getD]
theorem per_swap {m : Nat} {t : List Int} (h : Per m t) {a b : Nat} (ha : a < m) (hb : b < m) : Per m ((t.set a (t.getD b 0)).set b (t.getD a 0)) := by
  obtain ⟨h0, h1, h2⟩ := h
  have hg : ∀ i, ((t.set a (t.getD b 0)).set b (t.getD a 0)).getD i 0 = if b = i then t.getD a 0 else if a = i then t.getD b 0 else t.getD i 0 := fun i => by
    rw [getD_set _ _ _ _ (by simpa [h0] using hb), getD_set _ _ _ _ (by omega)]
  refine ⟨by simpa using h0, fun i hi => ?_, fun i j hi hj e => ?_⟩
  · rw [hg]
    split
    · exact h1 a ha
    · split
      · exact h1 b hb
      · exact h1 i hi
  · rw [hg, hg] at e
    by_cases e1 : b = i <;> by_cases e2 : b = j
    · omega
    · rw [if_pos e1, if_neg e2] at e
      by_cases e3 : a = j
      · rw [if_pos e3] at e
        have := h2 a b ha hb e
        omega
      · rw [if_neg e3] at e
        exact absurd (h2 a j ha hj e) e3
    · rw [if_neg e1, if_pos e2] at e
      by_cases e3 : a = i
      · rw [if_pos e3] at e
        have := h2 b a hb ha e
        omega
      · rw [if_neg e3] at e
        exact absurd (h2 i a hi ha e).symm e3
    · rw [if_neg e1, if_neg e2] at e
      by_cases e3 : a = i <;> by_cases e4 : a = j
      · omega
      · rw [if_pos e3, if_neg e4] at e
        exact absurd (h2 b j hb hj e) e2
      · rw [if_neg e3, if_pos e4] at e
        exact absurd (h2 i b hi hb e).symm e1
      · rw [if_neg e3, if_neg e4] at e
        exact h2 i j hi hj e
theorem per_range (m : Nat) : Per m ((List.range m).map (fun k : Nat => (k : Int))) := by
  have hg : ∀ i, i < m → ((List.range m).map (fun k : Nat => (k : Int))).getD i 0 = (i : Int) := fun i hi => by simp [hi]
  refine ⟨by simp, fun i hi => ?_, fun i j hi hj e => ?_⟩
  · rw [hg i hi]; omega
  · rw [hg i hi, hg j hj] at e; omega
/-- The first of an order, as a choice. -/
def front (n : Nat) (t : List Int) : List Nat := (List.range n).map (fun i => (t.getD i 0).toNat)
end Go.Proofs.Ytgnkpahnhhmceaa.Core
