-- Cut by pack.py, a program of this session; not trusted: Lean checks it.
import Derived.RangeFuncNested
import Derived.RangeFuncBound
import Derived.RangeFuncCalls
import Derived.RangeFuncLeaves
import Derived.Shelf.Abstract
import Derived.Shelf.RegionOpen
import Derived.WalkKit
import Derived.OwnWalkIn
import Derived.TacticsInMore
import Derived.LoopNIn
import Derived.LoopIn
import Derived.Maps.AppendAt
import Derived.Test.YtlplaidcdocbmaaProg
import Derived.Test.YtlplaidcdocbmaaZCore1
import Derived.Test.YtlplaidcdocbmaaZPlainA
import Derived.Shelf.AbstractIn
import Derived.Lib.Walk
import Derived.Lib.SliceRun
import Derived.Test.YtlplaidcdocbmaaZCore10
import Derived.Test.YtlplaidcdocbmaaZCore15
import Derived.Lib.QuietBelowIn
/- tree.least: the first of the least. -/
namespace Go.Proofs.Ytlplaidcdocbmaa.Core
open Go.RowKit Go.Shelf Go.Sort
attribute [local go_sem] Oper.semAt_some
set_option linter.unusedVariables false
set_option linter.unusedSimpArgs false

/-- The first of the least. -/
def leastL (f : Nat → Int) : List Nat → Nat
  | [] => 0
  | x :: r => r.foldl (fun b y => if f y < f b then y else b) x
theorem leastL_one (f : Nat → Int) (x : Nat) : leastL f ([] ++ [x]) = x := rfl
theorem leastL_snoc (f : Nat → Int) (xs : List Nat) (y : Nat) (h : xs ≠ []) : leastL f (xs ++ [y]) = if f y < f (leastL f xs) then y else leastL f xs := by
  cases xs with
  | nil => exact absurd rfl h
  | cons x r =>
    show List.foldl _ x (r ++ [y]) = _
    rw [List.foldl_append]
    rfl
theorem leastL_mem (f : Nat → Int) (xs : List Nat) (h : xs ≠ []) : leastL f xs ∈ xs := by
  cases xs with
  | nil => exact absurd rfl h
  | cons x r =>
    have key : ∀ (l : List Nat) (b : Nat), l.foldl (fun b y => if f y < f b then y else b) b ∈ b :: l := by
      intro l
      induction l with
      | nil => intro b; simp
      | cons y l ih =>
        intro b
        rw [List.foldl_cons]
        have := ih (if f y < f b then y else b)
        by_cases hc : f y < f b
        · rw [if_pos hc] at this ⊢; exact List.mem_cons_of_mem _ this
        · rw [if_neg hc] at this ⊢
          rcases List.mem_cons.1 this with h | h
          · rw [h]; exact List.mem_cons_self
          · exact List.mem_cons_of_mem _ (List.mem_cons_of_mem _ h)
    exact key r x

end Go.Proofs.Ytlplaidcdocbmaa.Core
