-- Cut by pack.py, a program of this session; not trusted: Lean checks it.
import Derived.RangeFuncNested
import Derived.RangeFuncBound
import Derived.RangeFuncCalls
import Derived.RangeFuncLeaves
import Derived.Shelf.Abstract
import Derived.Shelf.RegionOpen
import Derived.WalkKit
import Derived.OwnWalkIn
import Derived.TacticsInMore
import Derived.LoopNIn
import Derived.LoopIn
import Derived.Maps.AppendAt
import Derived.Test.YtlplaidcdocbmaaProg
import Derived.Test.YtlplaidcdocbmaaZCore1
import Derived.Test.YtlplaidcdocbmaaZPlainA
import Derived.Lib.Walk
import Derived.Lib.SliceRun
/- lattice.count, lattice.below and its iterator, slices.Clone of numbers. -/
namespace Go.Proofs.Ytlplaidcdocbmaa.Core
open Go.RowKit Go.Shelf
attribute [local go_sem] Oper.semAt_some
set_option linter.unusedVariables false
set_option linter.unusedSimpArgs false

def encI (x : Nat) : Value := .int .i64 (x : Int)
def encA (x : Nat) : Array Value := #[.int .i64 (x : Int)]

theorem count_calls (d : Nat) (hd : d ≤ 4) (w : World) : Calls Try.prog 62 #[.int .i64 (d : Int)] w fun e w' => e = .returned (.int .i64 ((2 ^ d : Nat) : Int)) ∧ w' = w := by
  match d, hd with
  | 0, _ => go_enter Try.func62, Try.ntmps62; go_wp2; go_ret; exact ⟨congrArg (fun z => Ending.returned (.int .i64 z)) (by decide +kernel), rfl⟩
  | 1, _ => go_enter Try.func62, Try.ntmps62; go_wp2; go_ret; exact ⟨congrArg (fun z => Ending.returned (.int .i64 z)) (by decide +kernel), rfl⟩
  | 2, _ => go_enter Try.func62, Try.ntmps62; go_wp2; go_ret; exact ⟨congrArg (fun z => Ending.returned (.int .i64 z)) (by decide +kernel), rfl⟩
  | 3, _ => go_enter Try.func62, Try.ntmps62; go_wp2; go_ret; exact ⟨congrArg (fun z => Ending.returned (.int .i64 z)) (by decide +kernel), rfl⟩
  | 4, _ => go_enter Try.func62, Try.ntmps62; go_wp2; go_ret; exact ⟨congrArg (fun z => Ending.returned (.int .i64 z)) (by decide +kernel), rfl⟩

theorem below_calls (m : Int) (w : World) : Calls Try.prog 61 #[.int .i64 m] w fun e w' =>
    e = .returned (.func (.func 88) #[] #[.pointer (some ⟨w.heap.size, 0, none⟩)]) ∧ w' = w.alloc (.cells #[.int .i64 m] 3) := by
  go_enter Try.func61, Try.ntmps61
  go_wp2
  go_ret
  exact ⟨rfl, rfl⟩

theorem below_emits (Bn m : Nat) (hm : m ≤ 16) (w : World) (hB : w.heap[Bn]? = some (.cells #[.int .i64 (m : Int)] 3 (0, 0))) :
    Emits Try.prog (fun k => k = Bn) 88 #[.pointer (some ⟨Bn, 0, none⟩)] encA (List.range m) w := by
  intro n l J Jx W hS hJ hJx hY h0
  have hBW : W.heap[Bn]? = some (.cells #[.int .i64 (m : Int)] 3 (0, 0)) := (hS.2 Bn rfl).trans hB
  have hcell : W.cell? ⟨Bn, 0, none⟩ = some (.int .i64 (m : Int)) := Boxed.cell hBW
  clear hBW hS hJ hJx hB
  refine callsIn_of_wp Try.func88 rfl trivial ?_ rfl
  simp only [Try.ntmps88, List.size_toArray, List.length_cons, List.length_nil, Nat.reduceAdd, Nat.reduceSub, Array.replicate_succ, Array.replicate_zero, List.push_toArray, List.append_toArray, List.nil_append, List.cons_append]
  gi_wp2
  gi_loopw [5] (fun p wr => ∃ k : Nat, p = .int .i64 (k : Int) ∧ k ≤ m ∧ J (List.range k) wr)
    (fun p _ => m - (intOf p).toNat)
  case atStart =>
    exact ⟨0, rfl, by omega, h0⟩
  case round =>
    obtain ⟨k, rfl, hk, hJs⟩ := hrel
    by_cases hlt : k < m
    · have hd : decide ((k : Int) < (m : Int)) = true := decide_eq_true (by omega)
      have hw : wrap64 ((k : Int) + 1) = ((k + 1 : Nat) : Int) := by unfold wrap64; omega
      have hpre : List.range k ++ [k] <+: List.range m := by
        rw [← List.range_succ, show List.range (k + 1) = (List.range m).take (k + 1) by rw [List.take_range, Nat.min_eq_left (by omega)]]
        exact List.take_prefix _ _
      obtain ⟨fn, tmps, assign, body, hy, hR⟩ := hY (n - 1) (List.range k) k wr hJs hpre
      dsimp only [encA] at hy
      gi_wp2
      refine ⟨(fun h => by cases h), hR.mono ?_⟩
      rintro e W3 ⟨_, (⟨rfl, hJ3, hk3⟩ | ⟨rfl, hJx3⟩)⟩
      · gi_wp2
        go_roundw
        case rel => exact ⟨k + 1, by simp, by omega, by rw [List.range_succ]; exact hJ3⟩
        case measure => simp [intOf]; omega
      · gi_wp2
        refine bodyPost_ret (results_none rfl _ _ _) rfl ?_
        exact ⟨⟨_, rfl⟩, .inr ⟨_, hpre, hJx3⟩⟩
    · have hd : decide ((k : Int) < (m : Int)) = false := decide_eq_false (by omega)
      obtain rfl : k = m := by omega
      gi_wp2
      go_end0
      exact ⟨⟨_, rfl⟩, .inl hJs⟩
end Go.Proofs.Ytlplaidcdocbmaa.Core
