-- Cut by pack.py, a program of this session; not trusted: Lean checks it.
import Derived.RangeFuncNested
import Derived.RangeFuncBound
import Derived.RangeFuncCalls
import Derived.RangeFuncLeaves
import Derived.Shelf.Abstract
import Derived.Shelf.RegionOpen
import Derived.WalkKit
import Derived.OwnWalkIn
import Derived.TacticsInMore
import Derived.LoopNIn
import Derived.LoopIn
import Derived.Maps.AppendAt
import Derived.Test.YtlplaidcdocbmaaProg
import Derived.Test.YtlplaidcdocbmaaZCore1
import Derived.Test.YtlplaidcdocbmaaZPlainA
import Derived.Deep.Draws
import Derived.Tactics
import Derived.Lib.Walk
import Derived.Lib.SliceRun
import Derived.Laws.BitsLemmas
import Derived.Test.YtlplaidcdocbmaaZCore9
/- lattice.Size. -/
namespace Go.Proofs.Ytlplaidcdocbmaa.Core
open Go.RowKit Go.Shelf
attribute [local go_sem] Oper.semAt_some
set_option linter.unusedVariables false
set_option linter.unusedSimpArgs false
theorem bit_test (s i : Nat) (hs : s < 16) (hi : i < 4) : (bits .and .i64 ((s : Int) / 2 ^ i) 1 == 1) = s.testBit i := by
  have h : ∀ s : Fin 16, ∀ i : Fin 4, (bits .and .i64 ((s.1 : Int) / 2 ^ i.1) 1 == 1) = s.1.testBit i.1 := by decide +kernel
  exact h ⟨s, hs⟩ ⟨i, hi⟩

theorem keepBit (i s Bs : Nat) (hi : i < 4) (hs : s < 16) (w : World) (hB : w.cell? ⟨Bs, 0, none⟩ = some (.int .i64 (s : Int))) :
    Calls Try.prog 71 #[.int .i64 (i : Int), .pointer (some ⟨Bs, 0, none⟩)] w fun e w' => e = .returned (.bool (s.testBit i)) ∧ Below w.heap.size w w' := by
  go_enter Try.func71, Try.ntmps71
  go_wp2
  go_ret
  exact ⟨congrArg (fun b => Ending.returned (.bool b)) (bit_test s i hs hi), Below.refl _ _⟩

theorem enters71 : ∀ args w, (callFunc 71 args).run Try.prog w = .ok (.enter 71 args) w := enters_of Try.func71 (by kernel_rfl) rfl
theorem bit_emits (s m Bs Bn Ba Bk : Nat) (hs : s < 16) (hm : m ≤ 4) (w : World) (hBs : w.heap[Bs]? = some (.cells #[.int .i64 (s : Int)] 3 (0, 0))) (hBn : w.heap[Bn]? = some (.cells #[.int .i64 (m : Int)] 3 (0, 0)))
    (hBa : w.heap[Ba]? = some (.cells #[.func (.func 88) #[] #[.pointer (some ⟨Bn, 0, none⟩)]] 64 (0, 0))) (hBk : w.heap[Bk]? = some (.cells #[.func (.func 71) #[] #[.pointer (some ⟨Bs, 0, none⟩)]] 30 (0, 0))) :
    Emits Try.prog (fun k => k = Bn ∨ k = Bs ∨ k = Ba ∨ k = Bk) 91 #[.pointer (some ⟨Ba, 0, none⟩), .pointer (some ⟨Bk, 0, none⟩)] encA ((List.range m).filter fun i => s.testBit i) w := by
  have lt : ∀ {k : Nat} {o : Obj}, w.heap[k]? = some o → k < w.heap.size := fun h => (Array.getElem?_eq_some_iff.1 h).1
  have h0 := below_emits Bn m (by omega) w hBn
  exact kept_emits (fp := fun k => k = Bn) (xs := List.range m) h0 enters88 (fun k hk => by rw [hk]; exact lt hBn) 71 #[.pointer (some ⟨Bs, 0, none⟩)] enters71 (fpk := fun k => k = Bs) (fun k hk => by rw [hk]; exact lt hBs) _
    (fun x hx W hW => keepBit x s Bs (by have := List.mem_range.1 hx; omega) hs W (Boxed.cell (t := 3) ((hW.2 Bs rfl).trans hBs))) Ba Bk hBa hBk

theorem alloc_get (w : World) (o : Obj) (k : Nat) : (w.alloc o).heap[k]? = if k = w.heap.size then some o else w.heap[k]? := by
  show (w.heap.push o)[k]? = _
  rw [Array.getElem?_push]

/-- The product of the cards that have come. -/
def prodL (cs : List Int) (is : List Nat) : Int := is.foldl (fun n i => n * cs.getD i 0) 1

theorem prodL_snoc (cs : List Int) (is : List Nat) (i : Nat) : prodL cs (is ++ [i]) = prodL cs is * cs.getD i 0 := by simp [prodL]
theorem prodL_le (cs : List Int) (hc : ∀ x ∈ cs, 0 ≤ x ∧ x ≤ 16) : ∀ is : List Nat, 0 ≤ prodL cs is.reverse ∧ prodL cs is.reverse ≤ 16 ^ is.length
  | [] => by simp [prodL]
  | i :: is => by
    have ih := prodL_le cs hc is
    rw [List.reverse_cons, prodL_snoc, List.length_cons, Int.pow_succ]
    have hx : 0 ≤ cs.getD i 0 ∧ cs.getD i 0 ≤ 16 := by
      by_cases h : i < cs.length
      · have : cs.getD i 0 = cs[i] := by simp [h]
        rw [this]; exact hc _ (List.getElem_mem h)
      · have : cs.getD i 0 = 0 := by simp [h]
        omega
    exact ⟨Int.mul_nonneg ih.1 hx.1, Int.mul_le_mul ih.2 hx.2 hx.1 (Int.le_trans ih.1 ih.2)⟩
theorem prodL_bound (cs : List Int) (hc : ∀ x ∈ cs, 0 ≤ x ∧ x ≤ 16) (is : List Nat) (hi : is.length ≤ 4) : 0 ≤ prodL cs is ∧ prodL cs is ≤ 65536 := by
  have h := prodL_le cs hc is.reverse
  rw [List.reverse_reverse, List.length_reverse] at h
  refine ⟨h.1, Int.le_trans h.2 ?_⟩
  generalize is.length = k at *
  rcases (by omega : k = 0 ∨ k = 1 ∨ k = 2 ∨ k = 3 ∨ k = 4) with rfl | rfl | rfl | rfl | rfl <;> decide

theorem cell_lt {w : World} {a : Addr} {v : Value} (h : w.cell? a = some v) : a.block < w.heap.size := by
  rcases Nat.lt_or_ge a.block w.heap.size with h' | h'
  · exact h'
  · simp [World.cell?, h'] at h

theorem ownFrom_block {β : Type} {B k : Nat} {o : Obj} (h : k < B) : OwnFrom B (fun (_ : β) W => W.heap[k]? = some o) :=
  fun _ X Y row hs hg hr => (hg.block k (Array.getElem?_eq_some_iff.1 hs).1 (fun e => by have := (hr k e.symm).1; omega)).trans hs

set_option maxHeartbeats 2000000 in
theorem size_calls (A : Option Addr) (c : Nat) (cs : List Int) (ms n : Int) (s : Nat) (hs : s < 16) (hl : cs.length ≤ 4) (hc : ∀ x ∈ cs, 0 ≤ x ∧ x ≤ 16) (hn : 0 ≤ n ∧ n ≤ 1000000) (w : World)
    (hcell : ∀ i : Nat, i < cs.length → ∃ ad, A = some ad ∧ w.cell? (ad.add i) = some (.int .i64 (cs.getD i 0))) :
    Calls Try.prog 34 #[.agg #[.slice A cs.length c, .int .i64 ms], .int .i64 n, .int .i64 (s : Int)] w fun e w' =>
      e = .returned (.int .i64 (min (prodL cs ((List.range cs.length).filter fun i => s.testBit i)) n)) ∧ Below w.heap.size w w' := by
  have HC := Apart0.mk hcell
  clear hcell
  refine (callsIn_wide (n := 3)).1 ?_
  refine callsIn_of_wp_marks Try.func34 rfl trivial ?_ rfl
  simp only [Try.ntmps34, List.size_toArray, List.length_cons, List.length_nil, Nat.reduceAdd, Nat.reduceSub, Array.replicate_succ, Array.replicate_zero, List.push_toArray, List.append_toArray, List.nil_append, List.cons_append]
  have hfw : ∀ f, Fence.wide.fn f := fun _ => trivial
  have hdw : Fence.wide.depth.isSome = false := rfl
  gi_wp2_with fail
  refine (callsIn_wide.2 (below_calls _ _)).mono ?_
  rintro e w1 ⟨rfl, rfl⟩
  gi_wp2_with fail
  refine (callsIn_wide.2 (kept_calls _ _ _ _ _)).mono ?_
  rintro e w1 ⟨rfl, rfl⟩
  simp only [World.size_alloc]
  gi_wp2_with fail
  obtain ⟨W0, hW0⟩ : ∃ W0, ((((((w.alloc (.cells #[.slice A cs.length c, .int .i64 ms] 33)).alloc (.cells #[.int .i64 (s : Int)] 3)).alloc (.cells #[.int .i64 1] 3)).alloc (.cells #[.int .i64 (cs.length : Int)] 3)).alloc
      (.cells #[.func (.func 88) #[] #[.pointer (some ⟨w.heap.size + 1 + 1 + 1, 0, none⟩)]] 64)).alloc (.cells #[.func (.func 71) #[] #[.pointer (some ⟨w.heap.size + 1, 0, none⟩)]] 30)) = W0 := ⟨_, rfl⟩
  rw [hW0]
  have hsz : W0.heap.size = w.heap.size + 6 := by rw [← hW0]; simp
  have hB0 : Below w.heap.size w W0 := by
    rw [← hW0]; exact ((((((Below.refl _ w).alloc (Nat.le_refl _) _).alloc (by simp only [World.size_alloc]; omega) _).alloc (by simp only [World.size_alloc]; omega) _).alloc (by simp only [World.size_alloc]; omega) _).alloc (by simp only [World.size_alloc]; omega) _).alloc (by simp only [World.size_alloc]; omega) _
  have b0 : W0.heap[w.heap.size]? = some (.cells #[.slice A cs.length c, .int .i64 ms] 33 (0, 0)) := by rw [← hW0]; simp only [alloc_get, World.size_alloc]; repeat (first | rw [if_pos trivial] | rw [if_pos (by omega)] | rw [if_neg (by omega)])
  have b1 : W0.heap[w.heap.size + 1]? = some (.cells #[.int .i64 (s : Int)] 3 (0, 0)) := by rw [← hW0]; simp only [alloc_get, World.size_alloc]; repeat (first | rw [if_pos trivial] | rw [if_pos (by omega)] | rw [if_neg (by omega)])
  have b2 : W0.heap[w.heap.size + 1 + 1]? = some (.cells #[.int .i64 1] 3 (0, 0)) := by rw [← hW0]; simp only [alloc_get, World.size_alloc]; repeat (first | rw [if_pos trivial] | rw [if_pos (by omega)] | rw [if_neg (by omega)])
  have b3 : W0.heap[w.heap.size + 1 + 1 + 1]? = some (.cells #[.int .i64 (cs.length : Int)] 3 (0, 0)) := by rw [← hW0]; simp only [alloc_get, World.size_alloc]; repeat (first | rw [if_pos trivial] | rw [if_pos (by omega)] | rw [if_neg (by omega)])
  have b4 : W0.heap[w.heap.size + 1 + 1 + 1 + 1]? = some (.cells #[.func (.func 88) #[] #[.pointer (some ⟨w.heap.size + 1 + 1 + 1, 0, none⟩)]] 64 (0, 0)) := by rw [← hW0]; simp only [alloc_get, World.size_alloc]; repeat (first | rw [if_pos trivial] | rw [if_pos (by omega)] | rw [if_neg (by omega)])
  have b5 : W0.heap[w.heap.size + 1 + 1 + 1 + 1 + 1]? = some (.cells #[.func (.func 71) #[] #[.pointer (some ⟨w.heap.size + 1, 0, none⟩)]] 30 (0, 0)) := by rw [← hW0]; simp only [alloc_get, World.size_alloc]; repeat (first | rw [if_pos trivial] | rw [if_pos (by omega)] | rw [if_neg (by omega)])
  clear hW0
  have hem := bit_emits s cs.length _ _ _ _ hs hl W0 b1 b3 b4 b5
  clear b1 b3 b4 b5
  have HP := Apart0.mk hc
  refine wpIn_emits rfl enters91 hem (Same.refl _ _) (fun k hk => by omega) (fun _ => rfl)
    (fun pre W => Boxed W (w.heap.size + 1 + 1) 3 (.int .i64 (prodL cs pre)) ∧ (W.heap[w.heap.size]? = some (.cells #[.slice A cs.length c, .int .i64 ms] 33 (0, 0)) ∧ Below w.heap.size w W)) (fun _ _ _ => False)
    (OwnFrom.and (Own.from (boxed_own _ _ _) _) (OwnFrom.and (ownFrom_block (by omega)) (ownFrom_below (Nat.le_refl _) (by omega))))
    (fun c _ _ _ _ h _ _ => h) ⟨b2, b0, hB0⟩
    (fun x => { tmps := #[.agg #[.slice A cs.length c, .int .i64 ms], .int .i64 n, .int .i64 (s : Int), .pointer (some ⟨w.heap.size, 0, none⟩), undef, .pointer (some ⟨w.heap.size + 1, 0, none⟩), .int .i64 0, .pointer (some ⟨w.heap.size + 1 + 1, 0, none⟩), .int .i64 (x : Int), .pointer (some ⟨w.heap.size, 0, none⟩), .slice A cs.length c, .int .i64 (cs.length : Int),
      .func (.func 88) #[] #[.pointer (some ⟨w.heap.size + 1 + 1 + 1, 0, none⟩)], .func (.func 71) #[] #[.pointer (some ⟨w.heap.size + 1, 0, none⟩)], .func (.func 91) #[] #[.pointer (some ⟨w.heap.size + 1 + 1 + 1 + 1, 0, none⟩), .pointer (some ⟨w.heap.size + 1 + 1 + 1 + 1 + 1, 0, none⟩)], .int .i64 (x : Int), undef, undef, undef, undef, undef, undef, undef, undef, undef, undef], defers := [] })
    ?assign ?body ?done ?stop
  case assign => intro l' m x Wc K hKc; dsimp only [encA]; gi_wp2; exact hKc
  case stop => intro D c pre Wc hD hpre hf hDef; exact hf.elim
  case done =>
    rintro D Wc hD ⟨hv, hb, hB⟩ hDef
    have hcl := hv.cell
    gi_wp2
    refine ⟨by simp, .inl ⟨_, _, rfl, run_takeDeferred hDef, ?_⟩⟩
    exact ⟨_, results_tmp rfl _ _ _, rfl, hB.trans (belowK_b (w := w) (Nat.le_refl _) Wc D _ _ (by omega) hDef rfl rfl)⟩
  case body =>
    rintro l' m pre x W ⟨hv, hb, hB⟩ hpre
    have hx : x < cs.length := by have := hpre.subset (show x ∈ pre ++ [x] by simp); simpa using (List.mem_filter.1 this).1
    have hpl : (pre ++ [x]).length ≤ 4 := by have := hpre.length_le; have := List.length_filter_le (fun i => s.testBit i) (List.range cs.length); simp at *; omega
    obtain ⟨ad, rfl, hca⟩ := HC.out x hx
    have hca' : W.cell? (ad.add x) = some (.int .i64 (cs.getD x 0)) := (hB.cell (cell_lt hca)).trans hca
    have hP := prodL_bound cs hc pre (by simp at hpl; omega)
    have hP2 := prodL_bound cs hc (pre ++ [x]) hpl
    rw [prodL_snoc] at hP2
    have hcell := hv.cell
    have hfr := hv.frozen
    have hcb : W.cell? ⟨w.heap.size, 0, none⟩ = some (.slice (some ad) cs.length c) := by simp [World.cell?, hb]
    have HS := Apart0.mk (prodL_snoc cs pre x)
    have HV := Apart0.mk hv
    have HBb := Apart0.mk hb
    generalize prodL cs pre = P at *
    generalize hC : cs.getD x 0 = C at *
    have HWR := Apart0.mk (show IntKind.i64.wrap (P * C) = P * C by rw [IntKind.wrap_i64]; omega)
    have hlt := hv.lt
    have hxl : (x : Int) < (cs.length : Int) := by omega
    clear hca hC hv hb hP2 hc hpre
    gi_wp2
    have mixed : Try.prog.follows .mixedOrders = true := by kernel_rfl
    gi_region_with_o (fail)
    all_goals
      gi_wp2
      rw [HWR.out]
      have hg := grownBy_setCell' W (w.heap.size + 1 + 1) (.int .i64 (P * C))
      have hbw : Below w.heap.size W ((W.setCell ⟨w.heap.size + 1 + 1, 0, none⟩ (.int .i64 (P * C))).drew) := ((Below.refl _ W).setCell (by show w.heap.size ≤ w.heap.size + 1 + 1; omega) _).drew
      refine ⟨Keeps.grown (W' := W.setCell ⟨w.heap.size + 1 + 1, 0, none⟩ (.int .i64 (P * C))) hg (fun j e => by cases e; left; omega), ⟨hg.size, fun k hk => Below.heap_setCell W _ _ k (by show k ≠ w.heap.size + 1 + 1; omega)⟩, ?_, ?_, hB.trans hbw⟩
      · rw [HS.out]; exact HV.out.set _
      · exact (Below.heap_setCell W _ _ _ (by simp; omega)).trans HBb.out
end Go.Proofs.Ytlplaidcdocbmaa.Core
