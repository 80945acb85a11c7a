-- Cut by pack.py, a program of this session; not trusted: Lean checks it.
import Derived.RangeFuncNested
import Derived.RangeFuncBound
import Derived.RangeFuncCalls
import Derived.RangeFuncLeaves
import Derived.Shelf.Abstract
import Derived.Shelf.RegionOpen
import Derived.WalkKit
import Derived.OwnWalkIn
import Derived.TacticsInMore
import Derived.LoopNIn
import Derived.LoopIn
import Derived.Maps.AppendAt
import Derived.Test.YtlplaidcdocbmaaProg
import Derived.Test.YtlplaidcdocbmaaZCore1
import Derived.Test.YtlplaidcdocbmaaZPlainA
import Derived.Deep.Draws
import Derived.Tactics
import Derived.Lib.Walk
import Derived.Lib.SliceRun
import Derived.Shelf.SlSortCmp.Insertion
import Derived.Test.YtlplaidcdocbmaaZCore7
/- slices.SortStableFunc of at most sixteen numbers. -/
namespace Go.Proofs.Ytlplaidcdocbmaa.Core
open Go.RowKit Go.Shelf Go.Sort Go.Lib
set_option linter.unusedVariables false
set_option linter.unusedSimpArgs false

def insRen : Ren := { f := fun k => if k = 20 then 104 else 0, t := fun k => if k = 22 then 24 else if k = 24 then 3 else if k = 25 then 23 else k, g := fun _ => 0 }
theorem insLays : SlLaysF.n20 Try.prog insRen where
  mixed := by kernel_rfl
  f20 := ⟨"slices.insertionSortCmpFunc[int]", by decide, Try.func104.trans (by kernel_rfl)⟩
  t0 := Try.underlying0
  a0 := Try.isAgg0
  z0 := Try.sizeOf0
  v0 := Try.zeroValue0
  t3 := Try.underlying3
  a3 := Try.isAgg3
  z3 := Try.sizeOf3
  v3 := Try.zeroValue3
  t4 := Try.underlying4
  a4 := Try.isAgg4
  z4 := Try.sizeOf4
  v4 := Try.zeroValue4
  t22 := Try.underlying24
  a22 := Try.isAgg24
  z22 := Try.sizeOf24
  v22 := Try.zeroValue24
  a24 := Try.isAgg3
  z24 := Try.sizeOf3
  t25 := Try.underlying23
  a25 := Try.isAgg23
  z25 := Try.sizeOf23
  v25 := Try.zeroValue23

def cmpc (x y : Nat) : Int := if x < y then -1 else if y < x then 1 else 0
def cf (x y : Fin 16) : Int := cmpc (lev y.1) (lev x.1)
def encF (x : Fin 16) : Value := .int .i64 (x.1 : Int)

theorem compare_calls (x y : Nat) (w : World) : Calls Try.prog 65 #[.int .i64 (x : Int), .int .i64 (y : Int)] w fun e w' => e = .returned (.int .i64 (cmpc x y)) ∧ w' = w := by
  by_cases h1 : x < y
  · have E : Apart0 (cmpc x y = -1) := ⟨by unfold cmpc; rw [if_pos h1]⟩
    go_enter Try.func65, Try.ntmps65
    go_wp2
    go_ret
    exact ⟨by rw [E.out]; rfl, rfl⟩
  · by_cases h2 : y < x
    · have E : Apart0 (cmpc x y = 1) := ⟨by unfold cmpc; rw [if_neg h1, if_pos h2]⟩
      go_enter Try.func65, Try.ntmps65
      go_wp2
      go_ret
      exact ⟨by rw [E.out]; rfl, rfl⟩
    · have E : Apart0 (cmpc x y = 0) := ⟨by unfold cmpc; rw [if_neg h1, if_neg h2]⟩
      go_enter Try.func65, Try.ntmps65
      go_wp2
      go_ret
      exact ⟨by rw [E.out]; rfl, rfl⟩

theorem cmp_calls (x y : Fin 16) (w : World) : Calls Try.prog 64 #[encF x, encF y] w fun e w' => e = .returned (.int .i64 (cf x y)) ∧ w' = w := by
  have l1 := level_calls x.1 x.2
  have l2 := level_calls y.1 y.2
  have h3 := compare_calls (lev y.1) (lev x.1)
  have e : cf x y = cmpc (lev y.1) (lev x.1) := rfl
  have E := Apart0.mk e
  clear e
  unfold encF
  generalize x.1 = a at *
  generalize y.1 = b at *
  generalize cf x y = c at *
  go_enter Try.func64, Try.ntmps64
  go_wp2_with fail
  refine (l2 _).mono ?_
  rintro e w' ⟨rfl, rfl⟩
  go_wp2_with fail
  refine (l1 _).mono ?_
  rintro e w' ⟨rfl, rfl⟩
  go_wp2_with fail
  refine (h3 _).mono ?_
  rintro e w' ⟨rfl, rfl⟩
  go_wp2_with fail
  go_ret
  exact ⟨by rw [E.out]; rfl, rfl⟩

theorem cmp_reads (blk size : Nat) (w : World) : CmpReads Try.prog 64 #[] encF cf blk 0 size w := fun m os dk hs x y => (cmp_calls x y _).mono (fun e w' h => ⟨h.1, 0, h.2⟩)

theorem enters64 : ∀ args w, (callFunc 64 args).run Try.prog w = .ok (.enter 64 args) w := enters_of Try.func64 (by kernel_rfl) rfl
set_option maxHeartbeats 1000000 in
theorem stable_calls (blk cap : Nat) (d : Array (Fin 16)) (w : World) (hH : Holds encF w blk 0 d) (h16 : d.size ≤ 16) :
    Calls Try.prog 89 #[.slice (some ⟨blk, 0, none⟩) d.size cap, .int .i64 (d.size : Int), .func (.func 64) #[] #[]] w fun e w' =>
      e = .returned (.tuple #[]) ∧ ∃ n, w' = (putRow encF w blk 0 (Sort.insertionSort (ltOf cf) d 0 d.size)).drewN n := by
  have hi := Any.insertionSortCmpFunc_one insLays encF (fun x => rfl) cf 64 #[] blk 0 cap 0 d.size d w enters64 (cmp_reads blk d.size w) hH (Nat.zero_le _) (Nat.le_refl _) (by omega)
  change Calls Try.prog 104 _ _ _ at hi
  have h20 : ¬ (20 : Int) ≤ (d.size : Int) := by omega
  have h20' : ¬ (20 : Int) < (d.size : Int) := by omega
  clear hH
  go_enter Try.func89, Try.ntmps89
  go_wp2
  refine wp_loop_rounds 1 ?_
  rw [rounds_succ]
  go_wp2_with (go_at_call 104; refine hi.mono ?_; rintro e w' ⟨rfl, n, rfl⟩)
  refine wp_loop_rounds 1 ?_
  rw [rounds_succ]
  go_wp2
  go_end0
  exact ⟨rfl, n, rfl⟩

theorem sortStable_calls (blk cap : Nat) (d : Array (Fin 16)) (w : World) (hH : Holds encF w blk 0 d) (h16 : d.size ≤ 16) :
    Calls Try.prog 63 #[.slice (some ⟨blk, 0, none⟩) d.size cap, .func (.func 64) #[] #[]] w fun e w' =>
      e = .returned (.tuple #[]) ∧ ∃ n, w' = (putRow encF w blk 0 (Sort.insertionSort (ltOf cf) d 0 d.size)).drewN n := by
  have hi := stable_calls blk cap d w hH h16
  clear hH
  go_enter Try.func63, Try.ntmps63
  go_wp2_with (go_at_call 89; refine hi.mono ?_; rintro e w' ⟨rfl, n, rfl⟩)
  go_end0
  exact ⟨rfl, n, rfl⟩

/-- A row that the world owns, written over. -/
theorem own_putRow {w : World} {base g cap : Nat} {l : List (Fin 16)} (h : w.ownsRow base 3 1 (.slice (some ⟨g, 0, none⟩) l.length cap) l.length (l.map encF)) (d : Array (Fin 16)) (hd : d.size = l.length) :
    (putRow encF w g 0 d).ownsRow base 3 1 (.slice (some ⟨g, 0, none⟩) l.length cap) l.length (d.toList.map encF) := by
  rcases h.2 with ⟨h', _⟩ | ⟨g', cap', cur, h', hb, hg, hnc, hcm, hcs, htake⟩
  · simp at h'
  · simp only [Value.slice.injEq, Option.some.injEq, Addr.mk.injEq, and_true, true_and] at h'
    obtain ⟨rfl, rfl⟩ := h'
    refine ⟨by simp [hd], .inr ⟨g, cap, putCells encF 0 d cur, rfl, hb, ?_, hnc, hcm, by simpa [putCells] using hcs, ?_⟩⟩
    · show (w.heap.modify g (onCells (putCells encF 0 d)))[g]? = _
      rw [Array.getElem?_modify, if_pos rfl, hg]
      rfl
    · apply List.ext_getElem?
      intro k
      rw [List.getElem?_take, List.getElem?_map, Array.getElem?_toList, Array.getElem?_toList]
      simp only [putCells, Array.getElem?_mapIdx]
      by_cases hk : k < l.length
      · rw [if_pos (by omega), Array.getElem?_eq_getElem (show k < cur.size by omega), Array.getElem?_eq_getElem (show k < d.size by omega)]
        simp only [Option.map_some]
        rw [if_pos ⟨Nat.zero_le _, by omega⟩, Nat.sub_zero, getElem!_pos d k (by omega)]
      · rw [if_neg (by omega), Array.getElem?_eq_none (show d.size ≤ k by omega)]
        rfl

theorem below_putRow {w : World} {B g : Nat} (hg : B ≤ g) (d : Array (Fin 16)) (n : Nat) : Below B w ((putRow encF w g 0 d).drewN n) := by
  refine ⟨rfl, rfl, rfl, ?_, fun k hk => ?_⟩
  · show w.heap.size ≤ (w.heap.modify _ _).size
    rw [Array.size_modify]
    exact Nat.le_refl _
  · show (w.heap.modify g _)[k]? = _
    rw [Array.getElem?_modify, if_neg (by omega)]

theorem holds_own {w : World} {base g cap : Nat} {l : List (Fin 16)} (h : w.ownsRow base 3 1 (.slice (some ⟨g, 0, none⟩) l.length cap) l.length (l.map encF)) : Holds encF w g 0 l.toArray := by
  intro j hj
  rw [Nat.zero_add]
  have hj' : j < l.length := by simpa using hj
  refine ⟨?_, h.frozenAt j⟩
  rw [h.cellAt j (by omega), List.getElem?_map, List.getElem?_eq_getElem hj', getElem!_pos _ j hj]
  rfl
end Go.Proofs.Ytlplaidcdocbmaa.Core
