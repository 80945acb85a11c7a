-- Cut by pack.py, a program of this session; not trusted: Lean checks it.
import Derived.Test.YtlplaidcdocbmaaZG4
import Derived.Test.YtlplaidcdocbmaaZM9
import Derived.Test.YtlplaidcdocbmaaZG0

namespace Go.Proofs.Ytlplaidcdocbmaa.PSortsAll
open Go.RowKit Go.Proofs.YtlplaidcdocbmaaW.PrintWords Go.Proofs.YtlplaidcdocbmaaW.PrintLast Go.Proofs.YtlplaidcdocbmaaW.PrintMore
attribute [local go_sem] max2_int min2_int max_two min_two max_three min_three max_four min_four
set_option linter.unusedVariables false
set_option linter.unusedSimpArgs false
def hypercuberef9_Assign.f (l0 : List (List Int)) : Option (List Int × Int × Bool) := some (Mat.assign l0)
theorem hypercuberef9_Assign.calls (A0 : Option Addr) (c0 : Nat) (l0 : List (List Int)) (r1 : List Int) (r2 : Int) (r3 : Bool) (w : World) (hr0 : Kd.C (Kd.slice 3 (Kd.int .i64)) w A0 l0.length l0) (hc0 : l0.length ≤ c0) (h : hypercuberef9_Assign.f l0 = some (r1, r2, r3)) :
 Calls Try.prog 97 #[.slice A0 l0.length c0] w fun e w' => ∃ v0_ : Value, e = .returned (.tuple #[v0_, .int .i64 r2, .bool r3]) ∧ Kd.R (Kd.int .i64) 3 w' w.heap.size (fun _ => True) v0_ r1 ∧ Below w.heap.size w w' := by
 have e : Mat.assign l0 = (r1, r2, r3) := Option.some.inj h
 have hc := Mat.rassign_calls A0 c0 l0 w hr0 hc0
 rw [e] at hc
 exact hc
end Go.Proofs.Ytlplaidcdocbmaa.PSortsAll
