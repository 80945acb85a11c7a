-- Cut by pack.py, a program of this session; not trusted: Lean checks it.
import Derived.Test.YtlplaidcdocbmaaZS10
import Derived.Test.YtlplaidcdocbmaaZPSortsLeastx0
namespace Go.Proofs.Ytlplaidcdocbmaa.PSortsLeast
open Go.RowKit Go.Proofs.YtlplaidcdocbmaaW.PrintWords Go.Proofs.YtlplaidcdocbmaaW.PrintLast Go.Proofs.YtlplaidcdocbmaaW.PrintMore
attribute [local go_sem] max2_int min2_int max_two min_two max_three min_three max_four min_four   -- for this text's walks alone
set_option linter.unusedVariables false
set_option linter.unusedSimpArgs false

/-! ### sorts_Cost: function 56 -/
def sorts_Cost.f (l0_0 : List Int) (a0_1 : Int) (a1 : Int) (l2 : List (S49)) : Option (Int) := if Srt.okP l0_0 a1 = true ∧ Srt.okC (Srt.toEds S49.f0 S49.f1 S49.f2 l2) = true then some (Srt.costP (Srt.scanC l0_0 a1) (Srt.sortC l0_0 a1) (Srt.toEds S49.f0 S49.f1 S49.f2 l2)) else none
theorem sorts_Cost.calls (A0_0 : Option Addr) (c0_0 : Nat) (l0_0 : List Int) (a0_1 : Int) (a1 : Int) (A2 : Option Addr) (c2 : Nat) (l2 : List (S49)) (r : Int) (w : World) (hr0_0 : Kd.C (Kd.int .i64) w A0_0 l0_0.length l0_0) (hc0_0 : l0_0.length ≤ c0_0) (hr2 : Kd.C k49 w A2 l2.length l2) (hc2 : l2.length ≤ c2) (h : sorts_Cost.f l0_0 a0_1 a1 l2 = some r) :
 Calls Try.prog 56 #[.agg #[.slice A0_0 l0_0.length c0_0, .int .i64 a0_1], .int .i64 a1, .slice A2 l2.length c2] w fun e w' => e = .returned (.int .i64 r) ∧ Below w.heap.size w w' := by
 unfold sorts_Cost.f at h
 by_cases hh : Srt.okP l0_0 a1 = true ∧ Srt.okC (Srt.toEds S49.f0 S49.f1 S49.f2 l2) = true
 rotate_left
 ·rw [if_neg hh] at h; cases h
 rw [if_pos hh] at h
 obtain rfl := Option.some.inj h
 exact Srt.cost_K k49 rfl z49 S49.f0 S49.f1 S49.f2 (fun w x cs h => k49_open h) A0_0 c0_0 l0_0 a0_1 a1 A2 c2 l2 w hr0_0 hr2 hh.1 hh.2

end Go.Proofs.Ytlplaidcdocbmaa.PSortsLeast
