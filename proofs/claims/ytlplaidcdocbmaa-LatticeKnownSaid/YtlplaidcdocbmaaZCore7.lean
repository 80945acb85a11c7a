-- Cut by pack.py, a program of this session; not trusted: Lean checks it.
import Derived.RangeFuncNested
import Derived.RangeFuncBound
import Derived.RangeFuncCalls
import Derived.RangeFuncLeaves
import Derived.Shelf.Abstract
import Derived.Shelf.RegionOpen
import Derived.WalkKit
import Derived.OwnWalkIn
import Derived.TacticsInMore
import Derived.LoopNIn
import Derived.LoopIn
import Derived.Maps.AppendAt
import Derived.Test.YtlplaidcdocbmaaProg
import Derived.Test.YtlplaidcdocbmaaZCore1
import Derived.Test.YtlplaidcdocbmaaZPlainA
import Derived.Deep.Draws
import Derived.Tactics
import Derived.Lib.Walk
import Derived.Lib.SliceRun
import Derived.Test.YtlplaidcdocbmaaZCore6
/- lattice.Parents. -/
namespace Go.Proofs.Ytlplaidcdocbmaa.Core
open Go.RowKit Go.Shelf
set_option linter.unusedVariables false
set_option linter.unusedSimpArgs false

theorem enters88 : ∀ args w, (callFunc 88 args).run Try.prog w = .ok (.enter 88 args) w := enters_of Try.func88 (by kernel_rfl) rfl
theorem enters91 : ∀ args w, (callFunc 91 args).run Try.prog w = .ok (.enter 91 args) w := enters_of Try.func91 (by kernel_rfl) rfl
theorem enters68 : ∀ args w, (callFunc 68 args).run Try.prog w = .ok (.enter 68 args) w := enters_of Try.func68 (by kernel_rfl) rfl

/-- kept(below(m), a closure 68 over a set's box), as a value that hands out. -/
theorem par_emits (s m Bs Bn Ba Bk : Nat) (hs : s < 16) (hm : m ≤ 16) (w : World) (hBs : w.heap[Bs]? = some (.cells #[.int .i64 (s : Int)] 3 (0, 0))) (hBn : w.heap[Bn]? = some (.cells #[.int .i64 (m : Int)] 3 (0, 0)))
    (hBa : w.heap[Ba]? = some (.cells #[.func (.func 88) #[] #[.pointer (some ⟨Bn, 0, none⟩)]] 64 (0, 0))) (hBk : w.heap[Bk]? = some (.cells #[.func (.func 68) #[] #[.pointer (some ⟨Bs, 0, none⟩)]] 30 (0, 0))) :
    Emits Try.prog (fun k => k = Bn ∨ k = Bs ∨ k = Ba ∨ k = Bk) 91 #[.pointer (some ⟨Ba, 0, none⟩), .pointer (some ⟨Bk, 0, none⟩)] encA ((List.range m).filter fun p => (p &&& s == s) && (lev p == lev s + 1)) w := by
  have lt : ∀ {k : Nat} {o : Obj}, w.heap[k]? = some o → k < w.heap.size := fun h => (Array.getElem?_eq_some_iff.1 h).1
  have h0 := below_emits Bn m hm w hBn
  exact kept_emits (fp := fun k => k = Bn) (xs := List.range m) h0 enters88 (fun k hk => by rw [hk]; exact lt hBn) 68 #[.pointer (some ⟨Bs, 0, none⟩)] enters68 (fpk := fun k => k = Bs) (fun k hk => by rw [hk]; exact lt hBs) _
    (fun x hx W hW => keepPar x s Bs (by have := List.mem_range.1 hx; omega) hs W (Boxed.cell (t := 3) ((hW.2 Bs rfl).trans hBs))) Ba Bk hBa hBk

theorem ownsRow_base {W : World} {base base' : Nat} {e : TypeId} {size : Nat} {v : Value} {k : Nat} {xs : List Value} (h : W.ownsRow base e size v k xs) (hb : base' ≤ base) : W.ownsRow base' e size v k xs := by
  refine ⟨h.1, ?_⟩
  rcases h.2 with hn | ⟨g, cap, cur, hv, hbg, rest⟩
  · exact .inl hn
  · exact .inr ⟨g, cap, cur, hv, Nat.le_trans hb hbg, rest⟩

set_option maxHeartbeats 1000000 in
theorem parents_calls (s d : Nat) (hs : s < 16) (hd : d ≤ 4) (w : World) : Calls Try.prog 30 #[.int .i64 (s : Int), .int .i64 (d : Int)] w fun e w' =>
    ∃ v : Value, e = .returned v ∧ w'.ownsRow w.heap.size 3 1 v (parents s d).length ((parents s d).map encI) ∧ Below w.heap.size w w' := by
  obtain ⟨m, hm⟩ : ∃ m, m = 2 ^ d := ⟨_, rfl⟩
  have hm16 : m ≤ 16 := by rw [hm]; exact pow16 d hd
  have hc := fun W => count_calls d hd W
  rw [← hm] at hc
  have HP := Apart0.mk (show (List.range m).filter (fun p => (p &&& s == s) && (lev p == lev s + 1)) = parents s d by rw [hm]; rfl)
  clear hm
  go_enter Try.func30, Try.ntmps30
  go_wp2_with fail
  refine (hc _).mono ?_
  rintro e w1 ⟨rfl, rfl⟩
  clear hc
  go_wp2_with fail
  refine (below_calls _ _).mono ?_
  rintro e w1 ⟨rfl, rfl⟩
  go_wp2_with fail
  refine (kept_calls _ _ _ _ _).mono ?_
  rintro e w1 ⟨rfl, rfl⟩
  simp only [World.size_alloc]
  obtain ⟨W4, hW4⟩ : ∃ W4, ((((w.alloc (.cells #[.int .i64 (s : Int)] 3)).alloc (.cells #[.int .i64 (m : Int)] 3)).alloc (.cells #[.func (.func 88) #[] #[.pointer (some ⟨w.heap.size + 1, 0, none⟩)]] 64)).alloc (.cells #[.func (.func 68) #[] #[.pointer (some ⟨w.heap.size, 0, none⟩)]] 30)) = W4 := ⟨_, rfl⟩
  rw [hW4]
  have hB4 : Below w.heap.size w W4 := by
    rw [← hW4]; exact ((((Below.refl _ w).alloc (Nat.le_refl _) _).alloc (by simp only [World.size_alloc]; omega) _).alloc (by simp only [World.size_alloc]; omega) _).alloc (by simp only [World.size_alloc]; omega) _
  have hsz : W4.heap.size = w.heap.size + 4 := by rw [← hW4]; simp
  have b3 : W4.heap[w.heap.size + 3]? = some (.cells #[.func (.func 68) #[] #[.pointer (some ⟨w.heap.size, 0, none⟩)]] 30 (0, 0)) := by
    rw [← hW4]; have := World.alloc_heap_new (((w.alloc (.cells #[.int .i64 (s : Int)] 3)).alloc (.cells #[.int .i64 (m : Int)] 3)).alloc (.cells #[.func (.func 88) #[] #[.pointer (some ⟨w.heap.size + 1, 0, none⟩)]] 64)) (.cells #[.func (.func 68) #[] #[.pointer (some ⟨w.heap.size, 0, none⟩)]] 30); simpa using this
  have b2 : W4.heap[w.heap.size + 2]? = some (.cells #[.func (.func 88) #[] #[.pointer (some ⟨w.heap.size + 1, 0, none⟩)]] 64 (0, 0)) := by
    rw [← hW4, Below.heap_alloc _ _ _ (by simp)]; have := World.alloc_heap_new ((w.alloc (.cells #[.int .i64 (s : Int)] 3)).alloc (.cells #[.int .i64 (m : Int)] 3)) (.cells #[.func (.func 88) #[] #[.pointer (some ⟨w.heap.size + 1, 0, none⟩)]] 64); simpa using this
  have b1 : W4.heap[w.heap.size + 1]? = some (.cells #[.int .i64 (m : Int)] 3 (0, 0)) := by
    rw [← hW4, Below.heap_alloc _ _ _ (by simp), Below.heap_alloc _ _ _ (by simp)]; have := World.alloc_heap_new (w.alloc (.cells #[.int .i64 (s : Int)] 3)) (.cells #[.int .i64 (m : Int)] 3); simpa using this
  have b0 : W4.heap[w.heap.size]? = some (.cells #[.int .i64 (s : Int)] 3 (0, 0)) := by
    rw [← hW4, Below.heap_alloc _ _ _ (by simp; omega), Below.heap_alloc _ _ _ (by simp; omega), Below.heap_alloc _ _ _ (by simp)]; exact World.alloc_heap_new w _
  clear hW4
  have hem := par_emits s m _ _ _ _ hs hm16 W4 b0 b1 b2 b3
  rw [HP.out] at hem
  have hcol := collect_calls hem enters91 (fun k hk => by omega) (parents_len s d hd)
  have HPL := parents_len s d hd
  clear hem b0 b1 b2 b3
  go_wp2_with fail
  refine hcol.mono ?_
  rintro e w5 ⟨v, rfl, hrow, hnil, hb5⟩
  go_wp2_with fail
  have hcl := clone_ints hrow (by omega) (fun u hu => by obtain ⟨x, _, rfl⟩ := List.mem_map.1 hu; rfl)
  refine hcl.mono ?_
  rintro e w6 ⟨v6, rfl, hrow6, hb6⟩
  go_wp2_with fail
  go_ret
  refine ⟨v6, rfl, ?_, ?_⟩
  · have := ownsRow_base hrow6 (base' := w.heap.size) (Nat.le_trans hB4.size hb5.size)
    exact this
  · exact (hB4.trans (hb5.mono hB4.size)).trans (hb6.mono (Nat.le_trans hB4.size hb5.size))
end Go.Proofs.Ytlplaidcdocbmaa.Core
