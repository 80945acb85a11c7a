-- Cut by pack.py, a program of this session; not trusted: Lean checks it.
import Derived.Test.YtgnkpahnhhmceaaZCore12
/- Choices by numbers: orders of columns, two of them changed about; sums along a choice. -/
namespace Go.Proofs.Ytgnkpahnhhmceaa.Core
open Go.RowKit Go.Proofs.YtgnkpahnhhmceaaW.PrintWords Go.Proofs.YtgnkpahnhhmceaaW.PrintLast Go.Proofs.YtgnkpahnhhmceaaW.PrintMore
set_option linter.unusedVariables false
set_option linter.unusedSimpArgs false

theorem fits_of (m : Nat) : ∀ (rs : List (List Int)) (s : Nat) (ks : List Nat), ks.length = rs.length → ks.Nodup → (∀ k ∈ ks, k < m ∧ s.testBit k = false) → Fits m rs s ks
  | [], s, ks, hl, _, _ => List.length_eq_zero_iff.1 (by simpa using hl)
  | r :: rs, s, [], hl, _, _ => by simp at hl
  | r :: rs, s, k :: l, hl, hn, hk => by
    rw [List.nodup_cons] at hn
    refine ⟨k, l, rfl, (hk k (by simp)).1, (hk k (by simp)).2, fits_of m rs _ l (by simpa using hl) hn.2 (fun j hj => ⟨(hk j (by simp [hj])).1, ?_⟩)⟩
    rw [testBit_put, (hk j (by simp [hj])).2, Bool.false_or]
    exact decide_eq_false (fun e : k = j => hn.1 (by rw [e]; exact hj))
theorem of_fits (m : Nat) : ∀ (rs : List (List Int)) (s : Nat) (ks : List Nat), Fits m rs s ks → ks.length = rs.length ∧ ks.Nodup ∧ ∀ k ∈ ks, k < m ∧ s.testBit k = false
  | [], s, ks, h => by
    obtain rfl : ks = [] := h
    simp
  | r :: rs, s, ks, h => by
    obtain ⟨k, l, rfl, hk, hf, h'⟩ := h
    obtain ⟨h1, h2, h3⟩ := of_fits m rs _ l h'
    have h4 : ∀ j ∈ l, s.testBit j = false ∧ ¬ k = j := fun j hj => by
      have := (h3 j hj).2
      rw [testBit_put, Bool.or_eq_false_iff] at this
      exact ⟨this.1, of_decide_eq_false this.2⟩
    refine ⟨by simp [h1], List.nodup_cons.2 ⟨fun hm => (h4 k hm).2 rfl, h2⟩, fun j hj => ?_⟩
    rcases List.mem_cons.1 hj with rfl | hj
    · exact ⟨hk, hf⟩
    · exact ⟨(h3 j hj).1, (h4 j hj).1⟩

/-- The first of an order, as a choice. -/
def front (n : Nat) (t : List Int) : List Nat := (List.range n).map (fun i => (t.getD i 0).toNat)
end Go.Proofs.Ytgnkpahnhhmceaa.Core
