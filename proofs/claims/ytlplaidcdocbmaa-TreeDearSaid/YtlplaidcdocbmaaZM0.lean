-- Cut by pack.py, a program of this session; not trusted: Lean checks it.
import Derived.Test.YtlplaidcdocbmaaProg
import Derived.Below
import Derived.Deep.Draws
import Derived.Deep.AppendLies
import Derived.Maps.AppendAt
import Derived.OwnWalk
import Derived.Laws.BytesArg
import Derived.Laws.MakeOwn
import Derived.Laws.OwnMore
import Derived.Deep.OwnRows
import Derived.Tactics
import Derived.Lib.ConvBytes
import Derived.Laws.Slices
import Derived.WalkKit
import Derived.KernelRfl
import Derived.RowKit3
import Derived.Deep.LoopGhost
import Derived.Deep.QuietTactic
import Derived.BigQuiet
import Derived.WideLaws
import Derived.Deep.DeepCutAuto
import Derived.Deep.CutBlock
import Derived.Deep.RegionHeld3
import Derived.Laws.Rows
import Derived.Lib.AppendStr
import Derived.ArgAppend
import Derived.Laws.IdiomCopy
import Derived.OrdersHeld
import Derived.Laws.BitsLemmas
import Derived.RowKit
import Derived.Test.YtlplaidcdocbmaaZV0
/- Small contracts under match.right: the two 'each' instances and the two closures. -/
namespace Go.Proofs.Ytlplaidcdocbmaa.Mat
open Go.RowKit Go.Proofs.YtlplaidcdocbmaaW.PrintWords Go.Proofs.YtlplaidcdocbmaaW.PrintLast Go.Proofs.YtlplaidcdocbmaaW.PrintMore
set_option linter.unusedVariables false
set_option linter.unusedSimpArgs false

def okc (c : Int) : Bool := decide (0 ≤ c) && decide (c ≤ 1000000)
theorem cell_int {w : World} {A : Option Addr} {l : List Int} (hr : Kd.C (Kd.int .i64) w A l.length l) (k : Nat) (hk : k < l.length) :
    ∃ ad, A = some ad ∧ w.cell? (ad.add k) = some (.int .i64 (rd l k)) := by
  obtain ⟨ad, c, e, hc, hK, hcell⟩ := Kd.C_get hr (0 : Int) (k : Int) (by omega) (by omega)
  refine ⟨ad, e, ?_⟩
  have hc1 : c = [.int .i64 (rd l k)] := by
    have := hK
    simpa [Kd.int, Kd.scalar, rd] using this
  have h := hcell 0 _ (by rw [hc1]; rfl)
  simpa [Kd.int, Kd.scalar] using h

end Go.Proofs.Ytlplaidcdocbmaa.Mat
