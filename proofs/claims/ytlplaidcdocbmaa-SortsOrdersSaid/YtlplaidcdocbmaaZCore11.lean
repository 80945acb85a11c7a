-- Cut by pack.py, a program of this session; not trusted: Lean checks it.
import Derived.RangeFuncNested
import Derived.RangeFuncBound
import Derived.RangeFuncCalls
import Derived.RangeFuncLeaves
import Derived.Shelf.Abstract
import Derived.Shelf.RegionOpen
import Derived.WalkKit
import Derived.OwnWalkIn
import Derived.TacticsInMore
import Derived.LoopNIn
import Derived.LoopIn
import Derived.Maps.AppendAt
import Derived.Test.YtlplaidcdocbmaaProg
import Derived.Test.YtlplaidcdocbmaaZCore1
import Derived.Test.YtlplaidcdocbmaaZPlainA
import Derived.Test.YtlplaidcdocbmaaZCore10
import Derived.Test.YtlplaidcdocbmaaZV0
/- The contracts of lattice.Sets, lattice.Parents, lattice.Size in the words of the printed laws. -/
namespace Go.Proofs.Ytlplaidcdocbmaa.Core
open Go.RowKit Go.Shelf Go.Proofs.YtlplaidcdocbmaaW.PrintWords
set_option linter.unusedVariables false
set_option linter.unusedSimpArgs false

def ofN (l : List Nat) : List Int := l.map fun (n : Nat) => (n : Int)
def sizeI (cs : List Int) (n s : Int) : Int := min (prodL cs ((List.range cs.length).filter fun i => s.toNat.testBit i)) n
def okCards (cs : List Int) : Bool := decide (cs.length ≤ 4) && cs.all fun x => decide (0 ≤ x) && decide (x ≤ 16)
theorem okCards_len {cs : List Int} (h : okCards cs = true) : cs.length ≤ 4 := by
  unfold okCards at h; rw [Bool.and_eq_true, decide_eq_true_eq] at h; exact h.1
theorem okCards_all {cs : List Int} (h : okCards cs = true) : ∀ x ∈ cs, 0 ≤ x ∧ x ≤ 16 := by
  unfold okCards at h; rw [Bool.and_eq_true, List.all_eq_true] at h
  intro x hx
  have := h.2 x hx
  simpa using this
theorem cell_int {w : World} {A : Option Addr} {l : List Int} (hr : Kd.C (Kd.int .i64) w A l.length l) (k : Nat) (hk : k < l.length) :
    ∃ ad, A = some ad ∧ w.cell? (ad.add k) = some (.int .i64 (l.getD k 0)) := by
  obtain ⟨ad, c, e, hc, hK, hcell⟩ := Kd.C_get hr (0 : Int) (k : Int) (by omega) (by omega)
  refine ⟨ad, e, ?_⟩
  have hc1 : c = [.int .i64 (l.getD k 0)] := by
    have := hK
    simpa [Kd.int, Kd.scalar, rd] using this
  have h := hcell 0 _ (by rw [hc1]; rfl)
  simpa [Kd.int, Kd.scalar] using h

end Go.Proofs.Ytlplaidcdocbmaa.Core
