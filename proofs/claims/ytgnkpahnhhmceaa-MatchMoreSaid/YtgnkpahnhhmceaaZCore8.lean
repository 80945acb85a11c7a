-- Cut by pack.py, a program of this session; not trusted: Lean checks it.
import Derived.Test.YtgnkpahnhhmceaaZCore3
/- The plain choice: it is there where enough columns are free; the document's own totals tell the same. -/
namespace Go.Proofs.Ytgnkpahnhhmceaa.Core
open Go.RowKit Go.Proofs.YtgnkpahnhhmceaaW.PrintWords Go.Proofs.YtgnkpahnhhmceaaW.PrintLast Go.Proofs.YtgnkpahnhhmceaaW.PrintMore
set_option linter.unusedVariables false
set_option linter.unusedSimpArgs false

theorem fold_le_acc (r : List Int) (B : Nat → Int) (s : Nat) : ∀ (l : List Nat) (a : Int), l.foldl (step r B s) a ≤ a
  | [], a => Int.le_refl _
  | k :: l, a => by
    rw [List.foldl_cons]
    refine Int.le_trans (fold_le_acc r B s l _) ?_
    unfold step mn
    split
    · exact Int.le_refl _
    · split <;> omega
theorem fold_le_at (r : List Int) (B : Nat → Int) (s k : Nat) (hk : s.testBit k = false) : ∀ (l : List Nat) (a : Int), k ∈ l → l.foldl (step r B s) a ≤ r.getD k 0 + B (s ||| 2 ^ k)
  | [], a, h => by simp at h
  | j :: l, a, h => by
    rw [List.foldl_cons]
    rcases List.mem_cons.1 h with rfl | h
    · refine Int.le_trans (fold_le_acc r B s l _) ?_
      unfold step mn
      rw [if_neg (by simp [hk])]
      split <;> omega
    · exact fold_le_at r B s k hk l _ h
theorem best_le_at {m : Nat} {r : List Int} (rs : List (List Int)) (s k : Nat) (hr : GoodRow m r) (hk : k < m) (hf : s.testBit k = false) : best (r :: rs) s ≤ r.getD k 0 + best rs (s ||| 2 ^ k) :=
  fold_le_at r (best rs) s k hf _ _ (by rw [hr.1]; simpa using hk)
theorem best_attained {m : Nat} {r : List Int} (rs : List (List Int)) (s : Nat) (hr : GoodRow m r) : best (r :: rs) s = HOPE ∨ ∃ k, k < m ∧ s.testBit k = false ∧ best (r :: rs) s = r.getD k 0 + best rs (s ||| 2 ^ k) := by
  show (List.range r.length).foldl (step r (best rs) s) HOPE = HOPE ∨ ∃ k, k < m ∧ s.testBit k = false ∧ (List.range r.length).foldl (step r (best rs) s) HOPE = r.getD k 0 + best rs (s ||| 2 ^ k)
  refine foldl_inv (P := fun a => a = HOPE ∨ ∃ k, k < m ∧ s.testBit k = false ∧ a = r.getD k 0 + best rs (s ||| 2 ^ k)) _ _ _ (.inl rfl) (fun a k hk ha => ?_)
  have hk' : k < m := by rw [← hr.1]; simpa using hk
  unfold step mn
  by_cases h : s.testBit k = true
  · rw [if_pos h]; exact ha
  · rw [if_neg h]
    split
    · exact .inr ⟨k, hk', by simpa using h, rfl⟩
    · exact ha

theorem testBit_put (s k j : Nat) : (s ||| 2 ^ k).testBit j = (s.testBit j || decide (k = j)) := by
  rw [Nat.testBit_or, Nat.testBit_two_pow]
theorem find_hit {m : Nat} {r : List Int} {rs : List (List Int)} {s : Nat} (hr : GoodRow m r) (hb : best (r :: rs) s < HOPE) :
    ∃ k, (List.range m).find? (hit r (best rs) (best (r :: rs) s) s) = some k ∧ k < m ∧ s.testBit k = false ∧ r.getD k 0 + best rs (s ||| 2 ^ k) = best (r :: rs) s ∧ ∀ j, j < k → hit r (best rs) (best (r :: rs) s) s j = false := by
  rcases best_attained rs s hr with h | ⟨k, hk, hf, he⟩
  · rw [h] at hb; exact absurd hb (Int.lt_irrefl _)
  · have hs : ((List.range m).find? (hit r (best rs) (best (r :: rs) s) s)).isSome = true := by
      rw [List.find?_isSome]
      exact ⟨k, by simpa using hk, by simp only [hit, Bool.and_eq_true]; exact ⟨by simp [hf], decide_eq_true he.symm⟩⟩
    obtain ⟨j, hj⟩ := Option.isSome_iff_exists.1 hs
    refine ⟨j, hj, ?_⟩
    have hm := List.mem_of_find?_eq_some hj
    have hh := List.find?_some hj
    simp only [hit, Bool.and_eq_true, decide_eq_true_eq] at hh
    refine ⟨by simpa using hm, by simpa using hh.1, hh.2, fun i hi => ?_⟩
    have h3 := (List.find?_range_eq_some.1 hj).2.2 i hi
    simpa using h3

theorem pick_cons {m : Nat} {r : List Int} {rs : List (List Int)} {s k : Nat} (hr : GoodRow m r) (h : (List.range m).find? (hit r (best rs) (best (r :: rs) s) s) = some k) : pick (r :: rs) s = (k : Int) :: pick rs (s ||| 2 ^ k) := by
  show (match (List.range r.length).find? (hit r (best rs) (best (r :: rs) s) s) with | some k => (k : Int) :: pick rs (s ||| 2 ^ k) | none => pick rs s) = _
  rw [hr.1, h]

/-! The document's totals: -1 where there is none. -/
end Go.Proofs.Ytgnkpahnhhmceaa.Core
