-- Cut by pack.py, a program of this session; not trusted: Lean checks it.
import Derived.RangeFuncNested
import Derived.RangeFuncBound
import Derived.RangeFuncCalls
import Derived.RangeFuncLeaves
import Derived.Shelf.Abstract
import Derived.Shelf.RegionOpen
import Derived.WalkKit
import Derived.OwnWalkIn
import Derived.TacticsInMore
import Derived.LoopNIn
import Derived.LoopIn
import Derived.Maps.AppendAt
import Derived.Test.YtlplaidcdocbmaaProg
import Derived.Test.YtlplaidcdocbmaaZCore1
import Derived.Test.YtlplaidcdocbmaaZPlainA
import Derived.Shelf.AbstractIn
import Derived.Lib.Walk
import Derived.Lib.SliceRun
import Derived.Test.YtlplaidcdocbmaaZCore11
/- slices.Values of numbers; tree.least: the first of the least. -/
namespace Go.Proofs.Ytlplaidcdocbmaa.Core
open Go.RowKit Go.Shelf
attribute [local go_sem] Oper.semAt_some
set_option linter.unusedVariables false
set_option linter.unusedSimpArgs false

theorem enters94 : ∀ args w, (callFunc 94 args).run Try.prog w = .ok (.enter 94 args) w := enters_of Try.func94 (by kernel_rfl) rfl
theorem values_calls (a : Option Addr) (n c : Nat) (w : World) : Calls Try.prog 73 #[.slice a n c] w fun e w' =>
    e = .returned (.func (.func 94) #[] #[.pointer (some ⟨w.heap.size, 0, none⟩)]) ∧ w' = w.alloc (.cells #[.slice a n c] 24) := by
  go_enter Try.func73, Try.ntmps73
  go_wp2
  go_ret
  exact ⟨rfl, rfl⟩

theorem values_emits (Bv g cap base : Nat) (xs : List Nat) (hl : xs.length ≤ 1000) (w : World) (hB : w.heap[Bv]? = some (.cells #[.slice (some ⟨g, 0, none⟩) xs.length cap] 24 (0, 0)))
    (hrow : w.ownsRow base 3 1 (.slice (some ⟨g, 0, none⟩) xs.length cap) xs.length (xs.map encI)) :
    Emits Try.prog (fun k => k = Bv ∨ k = g) 94 #[.pointer (some ⟨Bv, 0, none⟩)] encA xs w := by
  intro n l J Jx W hS hJ hJx hY h0
  have hcell : W.cell? ⟨Bv, 0, none⟩ = some (.slice (some ⟨g, 0, none⟩) xs.length cap) := Boxed.cell (t := 24) ((hS.2 Bv (Or.inl rfl)).trans hB)
  have hel : ∀ (V : World), Same (fun k => k = Bv ∨ k = g) w V → ∀ i (h : i < xs.length), V.cell? ⟨g, i, none⟩ = some (.int .i64 ((xs[i] : Nat) : Int)) := fun V hV i h => by
    rw [World.cell?_of_block (w := w) (w' := V) (a := ⟨g, i, none⟩) (hV.2 g (Or.inr rfl)), hrow.cellAt i (by omega), List.getElem?_map, List.getElem?_eq_getElem h]
    rfl
  have HEL := Apart0.mk hel
  have HS0 := Apart0.mk hS
  clear hS hJ hJx hB hrow hel
  refine callsIn_of_wp Try.func94 rfl trivial ?_ rfl
  simp only [Try.ntmps94, List.size_toArray, List.length_cons, List.length_nil, Nat.reduceAdd, Nat.reduceSub, Array.replicate_succ, Array.replicate_zero, List.push_toArray, List.append_toArray, List.nil_append, List.cons_append]
  gi_wp2
  gi_loopw [7] (fun p wr => ∃ k : Nat, p = .int .i64 (k : Int) ∧ k ≤ xs.length ∧ J (xs.take k) wr ∧ Apart0 (Same (fun k => k = Bv ∨ k = g) w wr))
    (fun p _ => xs.length - (intOf p).toNat)
  case atStart =>
    exact ⟨0, rfl, by omega, h0, HS0⟩
  case round =>
    obtain ⟨k, rfl, hk, hJs, hSr⟩ := hrel
    by_cases hlt : k < xs.length
    · have hd : decide ((k : Int) < (xs.length : Int)) = true := decide_eq_true (by omega)
      have hw : wrap64 ((k : Int) + 1) = ((k + 1 : Nat) : Int) := by unfold wrap64; omega
      have htk : xs.take (k + 1) = xs.take k ++ [xs[k]] := List.take_succ_eq_append_getElem hlt
      have hpre : xs.take k ++ [xs[k]] <+: xs := by rw [← htk]; exact List.take_prefix _ _
      have HTK := Apart0.mk htk
      have hc := HEL.out wr hSr.out k hlt
      obtain ⟨fn, tmps, assign, body, hy, hR⟩ := hY (n - 1) (xs.take k) xs[k] wr hJs hpre
      dsimp only [encA] at hy
      clear htk
      generalize xs[k] = xk at *
      gi_wp2
      refine ⟨(fun h => by cases h), hR.mono ?_⟩
      rintro e W3 ⟨_, (⟨rfl, hJ3, hk3⟩ | ⟨rfl, hJx3⟩)⟩
      · gi_wp2
        go_roundw
        case rel => exact ⟨k + 1, by simp, by omega, by rw [HTK.out]; exact hJ3, ⟨hSr.out.trans hk3⟩⟩
        case measure => simp [intOf]; omega
      · gi_wp2
        refine bodyPost_ret (results_none rfl _ _ _) rfl ?_
        exact ⟨⟨_, rfl⟩, .inr ⟨_, hpre, hJx3⟩⟩
    · have hd : decide ((k : Int) < (xs.length : Int)) = false := decide_eq_false (by omega)
      obtain rfl : k = xs.length := by omega
      rw [List.take_length] at hJs
      gi_wp2
      go_end0
      exact ⟨⟨_, rfl⟩, .inl hJs⟩
end Go.Proofs.Ytlplaidcdocbmaa.Core
