-- Cut by pack.py, a program of this session; not trusted: Lean checks it.
import Derived.RangeFuncNested
import Derived.RangeFuncBound
import Derived.RangeFuncCalls
import Derived.RangeFuncLeaves
import Derived.Shelf.Abstract
import Derived.Shelf.RegionOpen
import Derived.WalkKit
import Derived.OwnWalkIn
import Derived.TacticsInMore
import Derived.LoopNIn
import Derived.LoopIn
import Derived.Maps.AppendAt
import Derived.Test.YtlplaidcdocbmaaProg
import Derived.Test.YtlplaidcdocbmaaZCore1
import Derived.Test.YtlplaidcdocbmaaZPlainA
import Derived.Deep.Draws
import Derived.Tactics
import Derived.OwnWalk
import Derived.Outline
import Derived.Lib.Walk
import Derived.Lib.SliceRun
import Derived.Test.YtlplaidcdocbmaaZCore17
/- tree.Plan. -/
namespace Go.Proofs.Ytlplaidcdocbmaa.Core
open Go.RowKit Go.Shelf
set_option linter.unusedVariables false
set_option linter.unusedSimpArgs false

/-- The parent of the i-th set. -/
def parentT (cs : List Int) (n : Int) (i : Nat) : Int := if i = 0 then -1 else ((leastL (fun p => sizeI cs n p) (parents ((sets cs.length).getD i 0) cs.length) : Nat) : Int)
def edgeT (cs : List Int) (n : Int) (i : Nat) : List Value := [.int .i64 (((sets cs.length).getD i 0 : Nat) : Int), .int .i64 (parentT cs n i), .bool false]
def edgesT (cs : List Int) (n : Int) (k : Nat) : List Value := (List.range k).flatMap (edgeT cs n)
theorem edgesT_succ (cs : List Int) (n : Int) (k : Nat) : edgesT cs n (k + 1) = edgesT cs n k ++ edgeT cs n k := by
  unfold edgesT
  rw [List.range_succ, List.flatMap_append]
  simp
theorem sets_fin : ∀ d : Nat, d < 5 → (sets d).length = 2 ^ d ∧ (∀ i : Nat, i < 2 ^ d → (sets d).getD i 0 < 2 ^ d ∧ (i ≠ 0 → parents ((sets d).getD i 0) d ≠ [])) := by decide +kernel

theorem dec_lt (k L : Nat) (h : k < L) : decide ((k : Int) < (L : Int)) = true := decide_eq_true (by omega)
theorem dec_nlt (k L : Nat) (h : ¬ k < L) : decide ((k : Int) < (L : Int)) = false := decide_eq_false (by omega)
theorem getD_map (xs : List Nat) (k : Nat) (h : k < xs.length) : (xs.map encI)[k]? = some (.int .i64 ((xs.getD k 0 : Nat) : Int)) := by
  rw [List.getElem?_map, List.getElem?_eq_getElem h, List.getD_eq_getElem?_getD, List.getElem?_eq_getElem h]
  rfl

theorem cell_new3 (W : World) (B : Nat) (hB : W.heap.size = B) (x y z : Value) (t : TypeId) (j : Nat) (u : Value) (h : [x, y, z][j]? = some u) : (W.alloc (.cells #[x, y, z] t)).cell? ((⟨B, 0, none⟩ : Addr).add j) = some u := by
  subst hB
  have hb : (W.alloc (.cells #[x, y, z] t)).heap[W.heap.size]? = some (.cells #[x, y, z] t (0, 0)) := World.alloc_heap_new W _
  rw [Addr.add_lit, Nat.zero_add]
  simp only [World.cell?, hb]
  simpa using h
theorem setCell_same' {w : World} {b i : Nat} {cs : Array Value} {T : TypeId} {fr : Nat × Nat} (hb : w.heap[b]? = some (.cells cs T fr)) (v : Value) : (w.setCell ⟨b, i, none⟩ v).heap[b]? = some (.cells (cs.setIfInBounds i v) T fr) := by
  simp [World.setCell, Array.getElem?_modify, hb]
/-- What holds between the rounds. -/
def PlanI (A : Option Addr) (c : Nat) (cs : List Int) (ms n : Int) (w : World) (g cap L : Nat) (vo : Value) (k : Nat) (wr : World) : Prop :=
  wr.ownsRow (w.heap.size + 2) 49 3 vo k (edgesT cs n k) ∧ wr.ownsRow (w.heap.size + 2) 3 1 (.slice (some ⟨g, 0, none⟩) L cap) L ((sets cs.length).map encI) ∧ Below w.heap.size w wr ∧
    wr.heap[w.heap.size]? = some (.cells #[.slice A cs.length c, .int .i64 ms] 33 (0, 0)) ∧ wr.heap[w.heap.size + 1]? = some (.cells #[.int .i64 n] 3 (0, 0)) ∧ w.heap.size + 2 ≤ wr.heap.size
theorem own_base_le {W : World} {base e size k : Nat} {v : Value} {xs : List Value} (h : W.ownsRow base e size v k xs) : ∀ j, v.ownBlock = some j → base ≤ j := by
  intro j hj
  rcases h.2 with ⟨rfl, _⟩ | ⟨g, cap, cur, rfl, hb, _⟩
  · simp [Value.ownBlock] at hj
  · simp [Value.ownBlock] at hj; omega
theorem ownsRow_below' {B : Nat} {e : TypeId} {k : Nat} {v : Value} {n : Nat} {xs : List Value} {w w' : World} (h : w.ownsRow B e k v n xs) (hb : Below w.heap.size w w') : w'.ownsRow B e k v n xs := by
  refine ⟨h.1, ?_⟩
  rcases h.2 with hn | ⟨g, cap, cur, hv, hbg, hh, rest⟩
  · exact .inl hn
  · exact .inr ⟨g, cap, cur, hv, hbg, (hb.block g (Array.getElem?_eq_some_iff.1 hh).1).trans hh, rest⟩
section
variable {A : Option Addr} {c : Nat} {cs : List Int} {ms n : Int} {w : World} {g cap L : Nat} {vo : Value} {k : Nat} {wr w' : World}
theorem PlanI.below (h : PlanI A c cs ms n w g cap L vo k wr) (hb : Below wr.heap.size wr w') : PlanI A c cs ms n w g cap L vo k w' := by
  obtain ⟨h1, h2, h3, h4, h5, h6⟩ := h
  exact ⟨ownsRow_below' h1 hb, ownsRow_below' h2 hb, h3.trans (hb.mono h3.size), (hb.block _ (by omega)).trans h4, (hb.block _ (by omega)).trans h5, Nat.le_trans h6 hb.size⟩
theorem PlanI.append {v' : Value} (h : PlanI A c cs ms n w g cap L vo k wr) (hown : w'.ownsRow (w.heap.size + 2) 49 3 v' (k + 1) (edgesT cs n k ++ edgeT cs n k)) (hg : wr.grownBy w' vo.ownBlock) :
    PlanI A c cs ms n w g cap L v' (k + 1) w' := by
  obtain ⟨h1, h2, h3, h4, h5, h6⟩ := h
  have hb2 : Below (w.heap.size + 2) wr w' := (Below.refl _ wr).grown hg h6 (own_base_le h1)
  refine ⟨by rw [edgesT_succ]; exact hown, h2.kept hg ?_, h3.trans (hb2.mono (by omega)), (hb2.block _ (by omega)).trans h4, (hb2.block _ (by omega)).trans h5, Nat.le_trans h6 hb2.size⟩
  rcases h1.2 with ⟨rfl, _⟩ | ⟨g', cap', cur', rfl, _, hh, _⟩
  · right; simp [Value.ownBlock]
  · right
    rcases h2.2 with ⟨e, _⟩ | ⟨g2, cap2, cur2, e, _, hh2, _⟩
    · cases e
    · simp only [Value.slice.injEq, Option.some.injEq, Addr.mk.injEq] at e
      intro he
      simp only [Value.ownBlock, Option.some.injEq] at he
      obtain ⟨⟨rfl, _⟩, _⟩ := e
      subst he
      rw [hh] at hh2
      simp at hh2
end

end Go.Proofs.Ytlplaidcdocbmaa.Core
