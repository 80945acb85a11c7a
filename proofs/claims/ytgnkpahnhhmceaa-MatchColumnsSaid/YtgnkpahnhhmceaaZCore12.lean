-- Cut by pack.py, a program of this session; not trusted: Lean checks it.
import Derived.Test.YtgnkpahnhhmceaaZCore8
/- More of the plain choice: its length, that it is a choice, that its total is the least, that it is ahead of the others of its total. -/
namespace Go.Proofs.Ytgnkpahnhhmceaa.Core
open Go.RowKit Go.Proofs.YtgnkpahnhhmceaaW.PrintWords Go.Proofs.YtgnkpahnhhmceaaW.PrintLast Go.Proofs.YtgnkpahnhhmceaaW.PrintMore
set_option linter.unusedVariables false
set_option linter.unusedSimpArgs false

/-- A choice: a column of its own for each row, none of those that are taken. -/
def Fits (m : Nat) : List (List Int) → Nat → List Nat → Prop
  | [], _, ks => ks = []
  | _ :: rs, s, ks => ∃ k l, ks = k :: l ∧ k < m ∧ s.testBit k = false ∧ Fits m rs (s ||| 2 ^ k) l
def tot : List (List Int) → List Nat → Int
  | r :: rs, k :: ks => r.getD k 0 + tot rs ks
  | _, _ => 0
theorem best_le_tot (m : Nat) : ∀ (rs : List (List Int)) (s : Nat) (ks : List Nat), Good m rs → Fits m rs s ks → best rs s ≤ tot rs ks
  | [], s, ks, _, h => by show (0 : Int) ≤ _; simp [tot]
  | r :: rs, s, ks, hg, h => by
    obtain ⟨k, l, rfl, hk, hf, h'⟩ := h
    have h1 := best_le_at rs s k (hg r (by simp)) hk hf
    have h2 := best_le_tot m rs _ l (fun r hr => hg r (by simp [hr])) h'
    show best (r :: rs) s ≤ r.getD k 0 + tot rs l
    omega
theorem pick_fits (m : Nat) : ∀ (rs : List (List Int)) (s : Nat), rs.length ≤ 12 → Good m rs → best rs s < HOPE → ∃ ks : List Nat, pick rs s = ks.map (fun k : Nat => (k : Int)) ∧ Fits m rs s ks ∧ tot rs ks = best rs s
  | [], s, _, _, _ => ⟨[], by simp [pick], rfl, by simp [tot, best]⟩
  | r :: rs, s, hl, hg, hb => by
    have hl1 : rs.length ≤ 11 := by simpa using hl
    have hr := hg r (by simp)
    have hg' : Good m rs := fun r hr => hg r (by simp [hr])
    obtain ⟨k, hfk, hk, hf, he, _⟩ := find_hit hr hb
    have hn : best rs (s ||| 2 ^ k) < HOPE := by
      have := (hr.2 k).1
      omega
    obtain ⟨ks, h1, h2, h3⟩ := pick_fits m rs _ (by omega) hg' hn
    refine ⟨k :: ks, ?_, ⟨k, ks, rfl, hk, hf, h2⟩, ?_⟩
    · rw [pick_cons hr hfk, h1]; rfl
    · show r.getD k 0 + tot rs ks = _
      rw [h3, he]
/-- One list of numbers is ahead of another one of its length. -/
def Ahead : List Nat → List Nat → Prop
  | a :: l, b :: l2 => a < b ∨ (a = b ∧ Ahead l l2)
  | _, _ => False
theorem pick_first (m : Nat) : ∀ (rs : List (List Int)) (s : Nat) (ks ls : List Nat), rs.length ≤ 12 → Good m rs → best rs s < HOPE → pick rs s = ks.map (fun k : Nat => (k : Int)) → Fits m rs s ls → tot rs ls = best rs s → ¬ Ahead ls ks
  | [], s, ks, ls, _, _, _, h, hf, _ => by
    obtain rfl : ls = [] := hf
    intro ha
    cases ks <;> exact ha
  | r :: rs, s, ks, ls, hl, hg, hb, h, hfit, htot => by
    have hl1 : rs.length ≤ 11 := by simpa using hl
    have hr := hg r (by simp)
    have hg' : Good m rs := fun r hr => hg r (by simp [hr])
    obtain ⟨k, hfk, hk, hf, he, hmin⟩ := find_hit hr hb
    rw [pick_cons hr hfk] at h
    obtain ⟨j, l, rfl, hj, hfj, hfit'⟩ := hfit
    cases ks with
    | nil => cases h
    | cons k' ks =>
      simp only [List.map_cons, List.cons.injEq] at h
      obtain ⟨hkk, h⟩ := h
      obtain rfl : k = k' := by omega
      have h1 := best_le_tot m rs _ l hg' hfit'
      have h2 := best_le_at rs s j hr hj hfj
      have h3 : r.getD j 0 + tot rs l = best (r :: rs) s := htot
      have h4 : r.getD j 0 + best rs (s ||| 2 ^ j) = best (r :: rs) s := by omega
      have hhit : hit r (best rs) (best (r :: rs) s) s j = true := by
        simp only [hit, Bool.and_eq_true]
        exact ⟨by simp [hfj], decide_eq_true h4⟩
      rintro (ha | ⟨rfl, ha⟩)
      · have := hmin j ha
        rw [this] at hhit
        cases hhit
      · have hn : best rs (s ||| 2 ^ j) < HOPE := by
          have := (hr.2 j).1
          omega
        exact pick_first m rs _ ks l (by omega) hg' hn h hfit' (by omega) ha
end Go.Proofs.Ytgnkpahnhhmceaa.Core
