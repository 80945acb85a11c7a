-- Cut by pack.py, a program of this session; not trusted: Lean checks it.
import Derived.Deep.Draws
import Derived.Tactics
import Derived.OwnWalk
import Derived.Outline
import Derived.Lib.Walk
import Derived.Lib.SliceRun
import Derived.Test.YtlplaidcdocbmaaZCore13
import Derived.Test.YtlplaidcdocbmaaZCore16
/- sorts: its helpers: lattice.Scan, lattice.Sort, the planner's scan and sort, slices.Index, slices.Contains. -/
namespace Go.Proofs.Ytlplaidcdocbmaa.Srt
open Go.RowKit Go.Shelf Go.Proofs.Ytlplaidcdocbmaa.Core
open Go.Proofs.YtlplaidcdocbmaaW.PrintWords (Drawn0)
set_option linter.unusedVariables false
set_option linter.unusedSimpArgs false

/-- The cards lie in memory. -/
def CardsAt (w : World) (A : Option Addr) (cs : List Int) : Prop := ∀ i : Nat, i < cs.length → ∃ ad, A = some ad ∧ w.cell? (ad.add i) = some (.int .i64 (cs.getD i 0))
theorem CardsAt.below {w w' : World} {A : Option Addr} {cs : List Int} (h : CardsAt w A cs) (hb : Below w.heap.size w w') : CardsAt w' A cs := fun i hi => by
  obtain ⟨ad, e, hc⟩ := h i hi
  exact ⟨ad, e, (hb.cell (cell_lt hc)).trans hc⟩
/-- What it costs to sort. -/
def sortC (cs : List Int) (n : Int) (p : Nat) : Int := sortI (sizeI cs n p)
def scanC (cs : List Int) (n : Int) (p : Nat) : Int := sizeI cs n p
-- the planner's own
section
variable {w : World} {A : Option Addr} {c : Nat} {cs : List Int} {ms n : Int} {p : Nat}
end

/-- Numbers lie in memory. -/
def NatsAt (w : World) (A : Option Addr) (xs : List Nat) : Prop := ∀ i : Nat, i < xs.length → ∃ ad, A = some ad ∧ w.cell? (ad.add i) = some (.int .i64 ((xs.getD i 0 : Nat) : Int))
theorem NatsAt.below {w w' : World} {A : Option Addr} {xs : List Nat} (h : NatsAt w A xs) (hb : Below w.heap.size w w') : NatsAt w' A xs := fun i hi => by
  obtain ⟨ad, e, hc⟩ := h i hi
  exact ⟨ad, e, (hb.cell (cell_lt hc)).trans hc⟩
end Go.Proofs.Ytlplaidcdocbmaa.Srt
