-- Cut by pack.py, a program of this session; not trusted: Lean checks it.
import Derived.RangeFuncNested
import Derived.RangeFuncBound
import Derived.RangeFuncCalls
import Derived.RangeFuncLeaves
import Derived.Shelf.Abstract
import Derived.Shelf.RegionOpen
import Derived.WalkKit
import Derived.OwnWalkIn
import Derived.TacticsInMore
import Derived.LoopNIn
import Derived.LoopIn
import Derived.Maps.AppendAt
import Derived.Test.YtlplaidcdocbmaaProg
import Derived.Test.YtlplaidcdocbmaaZCore1
import Derived.Test.YtlplaidcdocbmaaZPlainA
import Derived.Deep.Draws
import Derived.Tactics
import Derived.Lib.Walk
import Derived.Deep.QuietTactic
import Derived.BigQuiet
import Derived.Lib.SliceRun
import Derived.Test.YtlplaidcdocbmaaZCore5
/- lattice.Level at sets of four dimensions; the closure of lattice.Parents. -/
namespace Go.Proofs.Ytlplaidcdocbmaa.Core
open Go.RowKit Go.Shelf
set_option linter.unusedVariables false
set_option linter.unusedSimpArgs false
theorem level_calls (s : Nat) (hs : s < 16) (w : World) : Calls Try.prog 31 #[.int .i64 (s : Int)] w fun e w' => e = .returned (.int .i64 ((lev s : Nat) : Int)) ∧ w' = w := by
  match s, hs with
  | 0, _ => go_enter Try.func31, Try.ntmps31; go_wp2; go_ret; exact ⟨congrArg (fun z => Ending.returned (.int .i64 z)) (by decide +kernel), rfl⟩
  | 1, _ => go_enter Try.func31, Try.ntmps31; go_wp2; go_ret; exact ⟨congrArg (fun z => Ending.returned (.int .i64 z)) (by decide +kernel), rfl⟩
  | 2, _ => go_enter Try.func31, Try.ntmps31; go_wp2; go_ret; exact ⟨congrArg (fun z => Ending.returned (.int .i64 z)) (by decide +kernel), rfl⟩
  | 3, _ => go_enter Try.func31, Try.ntmps31; go_wp2; go_ret; exact ⟨congrArg (fun z => Ending.returned (.int .i64 z)) (by decide +kernel), rfl⟩
  | 4, _ => go_enter Try.func31, Try.ntmps31; go_wp2; go_ret; exact ⟨congrArg (fun z => Ending.returned (.int .i64 z)) (by decide +kernel), rfl⟩
  | 5, _ => go_enter Try.func31, Try.ntmps31; go_wp2; go_ret; exact ⟨congrArg (fun z => Ending.returned (.int .i64 z)) (by decide +kernel), rfl⟩
  | 6, _ => go_enter Try.func31, Try.ntmps31; go_wp2; go_ret; exact ⟨congrArg (fun z => Ending.returned (.int .i64 z)) (by decide +kernel), rfl⟩
  | 7, _ => go_enter Try.func31, Try.ntmps31; go_wp2; go_ret; exact ⟨congrArg (fun z => Ending.returned (.int .i64 z)) (by decide +kernel), rfl⟩
  | 8, _ => go_enter Try.func31, Try.ntmps31; go_wp2; go_ret; exact ⟨congrArg (fun z => Ending.returned (.int .i64 z)) (by decide +kernel), rfl⟩
  | 9, _ => go_enter Try.func31, Try.ntmps31; go_wp2; go_ret; exact ⟨congrArg (fun z => Ending.returned (.int .i64 z)) (by decide +kernel), rfl⟩
  | 10, _ => go_enter Try.func31, Try.ntmps31; go_wp2; go_ret; exact ⟨congrArg (fun z => Ending.returned (.int .i64 z)) (by decide +kernel), rfl⟩
  | 11, _ => go_enter Try.func31, Try.ntmps31; go_wp2; go_ret; exact ⟨congrArg (fun z => Ending.returned (.int .i64 z)) (by decide +kernel), rfl⟩
  | 12, _ => go_enter Try.func31, Try.ntmps31; go_wp2; go_ret; exact ⟨congrArg (fun z => Ending.returned (.int .i64 z)) (by decide +kernel), rfl⟩
  | 13, _ => go_enter Try.func31, Try.ntmps31; go_wp2; go_ret; exact ⟨congrArg (fun z => Ending.returned (.int .i64 z)) (by decide +kernel), rfl⟩
  | 14, _ => go_enter Try.func31, Try.ntmps31; go_wp2; go_ret; exact ⟨congrArg (fun z => Ending.returned (.int .i64 z)) (by decide +kernel), rfl⟩
  | 15, _ => go_enter Try.func31, Try.ntmps31; go_wp2; go_ret; exact ⟨congrArg (fun z => Ending.returned (.int .i64 z)) (by decide +kernel), rfl⟩
  | n + 16, h => exact absurd h (by omega)

theorem and_bits (p s : Nat) (hp : p < 16) (hs : s < 16) : bits .and .i64 (p : Int) (s : Int) = ((p &&& s : Nat) : Int) := by
  have h : ∀ p : Fin 16, ∀ s : Fin 16, bits .and .i64 (p.1 : Int) (s.1 : Int) = ((p.1 &&& s.1 : Nat) : Int) := by decide +kernel
  exact h ⟨p, hp⟩ ⟨s, hs⟩
theorem lev_le (s : Nat) (hs : s < 16) : lev s ≤ 4 := by
  have h : ∀ s : Fin 16, lev s.1 ≤ 4 := by decide +kernel
  exact h ⟨s, hs⟩

set_option maxHeartbeats 1000000 in
theorem keepPar (p s Bs : Nat) (hp : p < 16) (hs : s < 16) (w : World) (hB : w.cell? ⟨Bs, 0, none⟩ = some (.int .i64 (s : Int))) :
    Calls Try.prog 68 #[.int .i64 (p : Int), .pointer (some ⟨Bs, 0, none⟩)] w fun e w' => e = .returned (.bool ((p &&& s == s) && (lev p == lev s + 1))) ∧ Below w.heap.size w w' := by
  have l1 := lev_le s hs
  have l2 := lev_le p hp
  by_cases h1 : p &&& s = s
  · have g : (bits .and .i64 (p : Int) (s : Int) == (s : Int)) = true := by rw [and_bits p s hp hs, h1]; simp
    have E : Apart0 (∀ b, (p &&& s == s && b) = b) := ⟨by intro b; rw [h1]; simp⟩
    clear h1
    by_cases h2 : lev p = lev s + 1
    · have g2 : ((lev p : Int) == (lev s : Int) + 1) = true := beq_iff_eq.2 (by omega)
      have E2 : Apart0 ((lev p == lev s + 1) = true) := ⟨by rw [h2]; simp⟩
      clear h2
      go_enter Try.func68, Try.ntmps68
      go_wp2
      go_quiet ((go_at_call 31; exact Calls.quiet_of_same (level_calls _ (by omega) _)))
      go_wp2
      go_ret
      exact ⟨by rw [E.out, E2.out]; rfl, ((Below.refl _ w).trans ⟨rfl, rfl, rfl, Nat.le_refl _, fun _ _ => rfl⟩)⟩
    · have g2 : ((lev p : Int) == (lev s : Int) + 1) = false := beq_eq_false_iff_ne.2 (by omega)
      have E2 : Apart0 ((lev p == lev s + 1) = false) := ⟨beq_eq_false_iff_ne.2 h2⟩
      clear h2
      go_enter Try.func68, Try.ntmps68
      go_wp2
      go_quiet ((go_at_call 31; exact Calls.quiet_of_same (level_calls _ (by omega) _)))
      go_wp2
      go_ret
      exact ⟨by rw [E.out, E2.out]; rfl, ((Below.refl _ w).trans ⟨rfl, rfl, rfl, Nat.le_refl _, fun _ _ => rfl⟩)⟩
  · have g : (bits .and .i64 (p : Int) (s : Int) == (s : Int)) = false := by rw [and_bits p s hp hs]; exact beq_eq_false_iff_ne.2 (by omega)
    have E : Apart0 (∀ b, (p &&& s == s && b) = false) := ⟨by intro b; rw [beq_eq_false_iff_ne.2 h1]; simp⟩
    clear h1
    go_enter Try.func68, Try.ntmps68
    go_wp2
    go_quiet ((go_at_call 31; exact Calls.quiet_of_same (level_calls _ (by omega) _)))
    go_wp2
    go_ret
    exact ⟨by rw [E.out]; rfl, ((Below.refl _ w).trans ⟨rfl, rfl, rfl, Nat.le_refl _, fun _ _ => rfl⟩)⟩
end Go.Proofs.Ytlplaidcdocbmaa.Core
