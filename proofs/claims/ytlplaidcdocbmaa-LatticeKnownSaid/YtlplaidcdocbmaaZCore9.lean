-- Cut by pack.py, a program of this session; not trusted: Lean checks it.
import Derived.RangeFuncNested
import Derived.RangeFuncBound
import Derived.RangeFuncCalls
import Derived.RangeFuncLeaves
import Derived.Shelf.Abstract
import Derived.Shelf.RegionOpen
import Derived.WalkKit
import Derived.OwnWalkIn
import Derived.TacticsInMore
import Derived.LoopNIn
import Derived.LoopIn
import Derived.Maps.AppendAt
import Derived.Test.YtlplaidcdocbmaaProg
import Derived.Test.YtlplaidcdocbmaaZCore1
import Derived.Test.YtlplaidcdocbmaaZPlainA
import Derived.Deep.Draws
import Derived.Tactics
import Derived.Lib.Walk
import Derived.Lib.SliceRun
import Derived.Test.YtlplaidcdocbmaaZCore8
/- lattice.Sets. -/
namespace Go.Proofs.Ytlplaidcdocbmaa.Core
open Go.RowKit Go.Shelf Go.Sort Go.Lib
set_option linter.unusedVariables false
set_option linter.unusedSimpArgs false

def all16 (d : Nat) : List (Fin 16) := (List.finRange 16).take (2 ^ d)
def iter (b : Nat) : Nat → Nat → Array (Fin 16) → Array (Fin 16)
  | 0, _, d => d
  | n + 1, i, d => iter b n (i + 1) (insInner (ltOf cf) 0 i d)
theorem insOuter_iter (b : Nat) : ∀ (n i : Nat) (d : Array (Fin 16)), i + n = b → insOuter (ltOf cf) 0 b i d = iter b n i d
  | 0, i, d, h => by rw [insOuter_stop _ _ _ _ _ (by omega)]; rfl
  | n + 1, i, d, h => by rw [insOuter_go _ _ _ _ _ (by omega), insOuter_iter b n (i + 1) _ (by omega)]; rfl

theorem sorted_eq (d : Nat) (hd : d ≤ 4) : ((Sort.insertionSort (ltOf cf) (all16 d).toArray 0 (all16 d).toArray.size).toList.map encF) = (sets d).map encI ∧ (Sort.insertionSort (ltOf cf) (all16 d).toArray 0 (all16 d).toArray.size).size = (all16 d).length
    ∧ (List.range (2 ^ d)).map encI = (all16 d).map encF ∧ (sets d).length = (all16 d).length ∧ (all16 d).length = 2 ^ d := by
  have key : ∀ d : Fin 5, (((iter (all16 d.1).length ((all16 d.1).length - 1) 1 (all16 d.1).toArray).toList.map (fun x => x.1)) = sets d.1 ∧ (iter (all16 d.1).length ((all16 d.1).length - 1) 1 (all16 d.1).toArray).size = (all16 d.1).length) ∧ List.range (2 ^ d.1) = (all16 d.1).map (fun x => x.1)
      ∧ (sets d.1).length = (all16 d.1).length ∧ (all16 d.1).length = 2 ^ d.1 ∧ 1 ≤ (all16 d.1).length := by decide +kernel
  obtain ⟨⟨h1, h2⟩, h3, h4, h5, h6⟩ := key ⟨d, by omega⟩
  dsimp only at h1 h2 h3 h4 h5 h6
  have e : Sort.insertionSort (ltOf cf) (all16 d).toArray 0 (all16 d).toArray.size = iter (all16 d).length ((all16 d).length - 1) 1 (all16 d).toArray := by
    unfold Sort.insertionSort
    exact insOuter_iter _ _ _ _ (by simp; omega)
  rw [e]
  refine ⟨?_, h2, ?_, h4, h5⟩
  · rw [← h1, List.map_map]; rfl
  · rw [h3, List.map_map]; rfl

set_option maxHeartbeats 1000000 in
theorem sets_calls (d : Nat) (hd : d ≤ 4) (w : World) : Calls Try.prog 29 #[.int .i64 (d : Int)] w fun e w' =>
    ∃ v : Value, e = .returned v ∧ w'.ownsRow w.heap.size 3 1 v (sets d).length ((sets d).map encI) ∧ Below w.heap.size w w' := by
  obtain ⟨s1, s2, s3, s4, s5⟩ := sorted_eq d hd
  have hpos : 1 ≤ (all16 d).length := by rw [s5]; exact Nat.one_le_two_pow
  obtain ⟨m, hm⟩ : ∃ m, m = 2 ^ d := ⟨_, rfl⟩
  have hm16 : m ≤ 16 := by rw [hm]; exact pow16 d hd
  have hc := fun W => count_calls d hd W
  rw [← hm] at hc s3 s5
  generalize all16 d = A at *
  have hA : m = A.length := s5.symm
  subst hA
  have S1 := Apart0.mk s1
  have S2 := Apart0.mk s2
  have S3 := Apart0.mk s3
  have S4 := Apart0.mk s4
  clear s1 s2 s3 s4 s5 hm
  go_enter Try.func29, Try.ntmps29
  go_wp2_with fail
  refine (hc _).mono ?_
  rintro e w1 ⟨rfl, he⟩
  rw [he]
  clear hc he
  go_wp2_with fail
  refine (below_calls _ _).mono ?_
  rintro e w1 ⟨rfl, rfl⟩
  go_wp2_with fail
  have hb := Boxed.new w 3 (.int .i64 (A.length : Int))
  have hB1 : Below w.heap.size w (w.alloc (.cells #[.int .i64 (A.length : Int)] 3)) := (Below.refl _ w).alloc (Nat.le_refl _) _
  have hcol := collect_calls (below_emits w.heap.size A.length hm16 _ hb) enters88 (fun k hk => by rw [hk]; simp) (by simpa using hm16)
  have HB := Apart0.mk hB1
  clear hb hB1
  refine hcol.mono ?_
  rintro e w2 ⟨v, rfl, hrow, hnil, hb2⟩
  rw [List.length_range, S3.out] at hrow
  have hw2 := HB.out.trans (hb2.mono HB.out.size)
  rcases hrow.2 with ⟨_, h0⟩ | ⟨g, cap, cur, rfl, hbg, _⟩
  · omega
  have hg : w.heap.size ≤ g := by have := HB.out.size; omega
  have HOW := Apart0.mk hrow
  have hst := sortStable_calls g cap A.toArray w2 (holds_own hrow) (by simpa using hm16)
  rw [List.size_toArray] at hst
  have HW2 := Apart0.mk hw2
  clear hrow hb2 hw2 hnil hbg hcol
  go_wp2_with fail
  refine hst.mono ?_
  rintro e w3 ⟨rfl, n, hw3⟩
  have hr3 : w3.ownsRow w.heap.size 3 1 (.slice (some ⟨g, 0, none⟩) A.length cap) A.length ((sets d).map encI) := by
    have := own_putRow (ownsRow_base HOW.out (base' := w.heap.size) HB.out.size) _ (by rw [← S2.out])
    rw [S1.out] at this
    rw [hw3]
    exact this
  have hb3 : Below w.heap.size w w3 := by rw [hw3]; exact HW2.out.trans (below_putRow hg _ n)
  have hcl := clone_ints hr3 (by omega) (fun u hu => by obtain ⟨x, _, rfl⟩ := List.mem_map.1 hu; rfl)
  have HB3 := Apart0.mk hb3
  clear hr3 hb3 hw3 hst
  go_wp2_with fail
  refine hcl.mono ?_
  rintro e w4 ⟨v4, rfl, hrow4, hb4⟩
  go_wp2_with fail
  go_ret
  refine ⟨v4, rfl, ?_, HB3.out.trans (hb4.mono HB3.out.size)⟩
  rw [S4.out]
  exact ownsRow_base hrow4 HB3.out.size
end Go.Proofs.Ytlplaidcdocbmaa.Core
