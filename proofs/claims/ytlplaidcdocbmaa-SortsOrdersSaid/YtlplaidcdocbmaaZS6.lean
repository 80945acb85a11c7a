-- Cut by pack.py, a program of this session; not trusted: Lean checks it.
import Derived.Deep.Draws
import Derived.Tactics
import Derived.Tactics2
import Derived.OwnWalk
import Derived.Outline
import Derived.Lib.Walk
import Derived.Lib.SliceRun
import Derived.Test.YtlplaidcdocbmaaZS5
/- sorts.Cost. -/
namespace Go.Proofs.Ytlplaidcdocbmaa.Srt
open Go.RowKit Go.Shelf Go.Proofs.Ytlplaidcdocbmaa.Core Go.Proofs.YtlplaidcdocbmaaW
set_option linter.unusedVariables false
set_option linter.unusedSimpArgs false

/-- Edges lie in memory. -/
def EdsAt (w : World) (A : Option Addr) (es : List Ed) : Prop := ∀ i : Nat, i < es.length → ∃ ad, A = some ad ∧ w.cell? (ad.add (i * 3)) = some (.int .i64 (es.getD i ⟨0, 0, false⟩).set) ∧
  w.cell? ⟨(ad.add (i * 3)).block, (ad.add (i * 3)).off + 1, none⟩ = some (.int .i64 (es.getD i ⟨0, 0, false⟩).par) ∧ w.cell? ⟨(ad.add (i * 3)).block, (ad.add (i * 3)).off + 2, none⟩ = some (.bool (es.getD i ⟨0, 0, false⟩).scan)
theorem EdsAt.below {w w' : World} {A : Option Addr} {es : List Ed} (h : EdsAt w A es) (hb : Below w.heap.size w w') : EdsAt w' A es := fun i hi => by
  obtain ⟨ad, e, h1, h2, h3⟩ := h i hi
  exact ⟨ad, e, (hb.cell (cell_lt h1)).trans h1, (hb.cell (cell_lt h2)).trans h2, (hb.cell (cell_lt h3)).trans h3⟩
theorem take_snoc' {α : Type} (l : List α) (d : α) (i : Nat) (h : i < l.length) : l.take (i + 1) = l.take i ++ [l.getD i d] := by
  have hg : l.getD i d = l[i] := by simp [h]
  rw [hg]; exact List.take_succ_eq_append_getElem h

end Go.Proofs.Ytlplaidcdocbmaa.Srt
