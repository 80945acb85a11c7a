-- Cut by pack.py, a program of this session; not trusted: Lean checks it.
import Derived.Test.YtlplaidcdocbmaaZM8
/- More of the plain choice: its length, that it is a choice, that its total is the least, that it is ahead of the others of its total. -/
namespace Go.Proofs.Ytlplaidcdocbmaa.Mat
open Go.RowKit Go.Proofs.YtlplaidcdocbmaaW.PrintWords Go.Proofs.YtlplaidcdocbmaaW.PrintLast Go.Proofs.YtlplaidcdocbmaaW.PrintMore
set_option linter.unusedVariables false
set_option linter.unusedSimpArgs false

/-- A choice: a column of its own for each row, none of those that are taken. -/
def Fits (m : Nat) : List (List Int) → Nat → List Nat → Prop
  | [], _, ks => ks = []
  | _ :: rs, s, ks => ∃ k l, ks = k :: l ∧ k < m ∧ s.testBit k = false ∧ Fits m rs (s ||| 2 ^ k) l
def tot : List (List Int) → List Nat → Int
  | r :: rs, k :: ks => r.getD k 0 + tot rs ks
  | _, _ => 0
theorem best_le_tot (m : Nat) : ∀ (rs : List (List Int)) (s : Nat) (ks : List Nat), Good m rs → Fits m rs s ks → best rs s ≤ tot rs ks
  | [], s, ks, _, h => by show (0 : Int) ≤ _; simp [tot]
  | r :: rs, s, ks, hg, h => by
    obtain ⟨k, l, rfl, hk, hf, h'⟩ := h
    have h1 := best_le_at rs s k (hg r (by simp)) hk hf
    have h2 := best_le_tot m rs _ l (fun r hr => hg r (by simp [hr])) h'
    show best (r :: rs) s ≤ r.getD k 0 + tot rs l
    omega
theorem pick_fits (m : Nat) : ∀ (rs : List (List Int)) (s : Nat), rs.length ≤ 12 → Good m rs → best rs s < HOPE → ∃ ks : List Nat, pick rs s = ks.map (fun k : Nat => (k : Int)) ∧ Fits m rs s ks ∧ tot rs ks = best rs s
  | [], s, _, _, _ => ⟨[], by simp [pick], rfl, by simp [tot, best]⟩
  | r :: rs, s, hl, hg, hb => by
    have hl1 : rs.length ≤ 11 := by simpa using hl
    have hr := hg r (by simp)
    have hg' : Good m rs := fun r hr => hg r (by simp [hr])
    obtain ⟨k, hfk, hk, hf, he, _⟩ := find_hit hr hb
    have hn : best rs (s ||| 2 ^ k) < HOPE := by
      have := (hr.2 k).1
      omega
    obtain ⟨ks, h1, h2, h3⟩ := pick_fits m rs _ (by omega) hg' hn
    refine ⟨k :: ks, ?_, ⟨k, ks, rfl, hk, hf, h2⟩, ?_⟩
    · rw [pick_cons hr hfk, h1]; rfl
    · show r.getD k 0 + tot rs ks = _
      rw [h3, he]
end Go.Proofs.Ytlplaidcdocbmaa.Mat
