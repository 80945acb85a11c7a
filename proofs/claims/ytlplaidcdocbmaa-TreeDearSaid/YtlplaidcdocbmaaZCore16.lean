-- Cut by pack.py, a program of this session; not trusted: Lean checks it.
import Derived.RangeFuncNested
import Derived.RangeFuncBound
import Derived.RangeFuncCalls
import Derived.RangeFuncLeaves
import Derived.Shelf.Abstract
import Derived.Shelf.RegionOpen
import Derived.WalkKit
import Derived.OwnWalkIn
import Derived.TacticsInMore
import Derived.LoopNIn
import Derived.LoopIn
import Derived.Maps.AppendAt
import Derived.Test.YtlplaidcdocbmaaProg
import Derived.Test.YtlplaidcdocbmaaZCore1
import Derived.Test.YtlplaidcdocbmaaZPlainA
import Derived.Shelf.AbstractIn
import Derived.Lib.Walk
import Derived.Lib.SliceRun
import Derived.Test.YtlplaidcdocbmaaZCore10
import Derived.Test.YtlplaidcdocbmaaZCore15
import Derived.Test.YtlplaidcdocbmaaZCoreQ
/- tree.least: the first of the least. -/
namespace Go.Proofs.Ytlplaidcdocbmaa.Core
open Go.RowKit Go.Shelf Go.Sort
attribute [local go_sem] Oper.semAt_some
set_option linter.unusedVariables false
set_option linter.unusedSimpArgs false

/-- The first of the least. -/
def leastL (f : Nat → Int) : List Nat → Nat
  | [] => 0
  | x :: r => r.foldl (fun b y => if f y < f b then y else b) x
theorem leastL_one (f : Nat → Int) (x : Nat) : leastL f ([] ++ [x]) = x := rfl
theorem leastL_snoc (f : Nat → Int) (xs : List Nat) (y : Nat) (h : xs ≠ []) : leastL f (xs ++ [y]) = if f y < f (leastL f xs) then y else leastL f xs := by
  cases xs with
  | nil => exact absurd rfl h
  | cons x r =>
    show List.foldl _ x (r ++ [y]) = _
    rw [List.foldl_append]
    rfl
theorem leastL_mem (f : Nat → Int) (xs : List Nat) (h : xs ≠ []) : leastL f xs ∈ xs := by
  cases xs with
  | nil => exact absurd rfl h
  | cons x r =>
    have key : ∀ (l : List Nat) (b : Nat), l.foldl (fun b y => if f y < f b then y else b) b ∈ b :: l := by
      intro l
      induction l with
      | nil => intro b; simp
      | cons y l ih =>
        intro b
        rw [List.foldl_cons]
        have := ih (if f y < f b then y else b)
        by_cases hc : f y < f b
        · rw [if_pos hc] at this ⊢; exact List.mem_cons_of_mem _ this
        · rw [if_neg hc] at this ⊢
          rcases List.mem_cons.1 this with h | h
          · rw [h]; exact List.mem_cons_self
          · exact List.mem_cons_of_mem _ (List.mem_cons_of_mem _ h)
    exact key r x

/-- What holds between two rounds. -/
def LeastI (w : World) (kf : Nat) (kb : Array Value) (f : Nat → Int) (pre : List Nat) (W : World) : Prop :=
  Boxed W (w.heap.size + 1) 3 (.int .i64 ((leastL f pre : Nat) : Int)) ∧ (Boxed W (w.heap.size + 1 + 1) 4 (.bool pre.isEmpty) ∧ (W.heap[w.heap.size]? = some (.cells #[.func (.func kf) #[] kb] 29 (0, 0)) ∧ Below w.heap.size w W))
theorem least_stays {w W W1 : World} {kf : Nat} {kb : Array Value} {f : Nat → Int} {pre : List Nat} {x B : Nat} {fp : Nat → Prop} (h : LeastI w kf kb f pre W) (hb : Below W.heap.size W W1) (hfp : ∀ k, fp k → k < w.heap.size) (hne : pre ≠ []) (hle : ¬ f x < f (leastL f pre)) :
    Keeps B W W1 ∧ Same fp W W1 ∧ LeastI w kf kb f (pre ++ [x]) W1 := by
  obtain ⟨hv, h1, h0, hB⟩ := h
  have hsz := hB.size
  refine ⟨Keeps.below B hb, Same.below hb (fun k hk => by have := hfp k hk; omega), ?_, ?_, (hb.block _ (Array.getElem?_eq_some_iff.1 h0).1).trans h0, hB.trans (hb.mono hsz)⟩
  · rw [leastL_snoc f pre x hne, if_neg hle]; exact (hb.block _ hv.lt).trans hv
  · rw [show (pre ++ [x]).isEmpty = pre.isEmpty by cases pre with | nil => exact absurd rfl hne | cons a l => rfl]
    exact (hb.block _ h1.lt).trans h1
theorem least_moves {w W W1 : World} {kf : Nat} {kb : Array Value} {f : Nat → Int} {pre : List Nat} {x B : Nat} {fp : Nat → Prop} (h : LeastI w kf kb f pre W) (hb : Below W.heap.size W W1) (hfp : ∀ k, fp k → k < w.heap.size) (hbd : w.heap.size + 3 ≤ B) (hle : leastL f (pre ++ [x]) = x) :
    Keeps B W ((W1.setCell ⟨w.heap.size + 1, 0, none⟩ (.int .i64 (x : Int))).setCell ⟨w.heap.size + 1 + 1, 0, none⟩ (.bool false)) ∧ Same fp W ((W1.setCell ⟨w.heap.size + 1, 0, none⟩ (.int .i64 (x : Int))).setCell ⟨w.heap.size + 1 + 1, 0, none⟩ (.bool false)) ∧
      LeastI w kf kb f (pre ++ [x]) ((W1.setCell ⟨w.heap.size + 1, 0, none⟩ (.int .i64 (x : Int))).setCell ⟨w.heap.size + 1 + 1, 0, none⟩ (.bool false)) := by
  obtain ⟨hv, h1, h0, hB⟩ := h
  have hsz := hB.size
  have g1 := grownBy_setCell' W1 (w.heap.size + 1) (.int .i64 (x : Int))
  have g2 := grownBy_setCell' (W1.setCell ⟨w.heap.size + 1, 0, none⟩ (.int .i64 (x : Int))) (w.heap.size + 1 + 1) (.bool false)
  have hv1 : Boxed W1 (w.heap.size + 1) 3 (.int .i64 ((leastL f pre : Nat) : Int)) := (hb.block _ hv.lt).trans hv
  have h11 : Boxed W1 (w.heap.size + 1 + 1) 4 (.bool pre.isEmpty) := (hb.block _ h1.lt).trans h1
  have h01 := (hb.block _ (Array.getElem?_eq_some_iff.1 h0).1).trans h0
  refine ⟨(Keeps.below B hb).trans ((Keeps.grown g1 (fun j e => by cases e; left; omega)).trans (Keeps.grown g2 (fun j e => by cases e; left; omega))),
    (Same.below hb (fun k hk => by have := hfp k hk; omega)).trans ⟨Nat.le_trans g1.size g2.size, fun k hk => (Below.heap_setCell _ _ _ k (by show k ≠ w.heap.size + 1 + 1; have := hfp k hk; omega)).trans (Below.heap_setCell _ _ _ k (by show k ≠ w.heap.size + 1; have := hfp k hk; omega))⟩, ?_, ?_, ?_, ?_⟩
  · rw [hle]; exact (hv1.set _).other (by omega) _
  · rw [show (pre ++ [x]).isEmpty = false by cases pre <;> rfl]; exact (h11.other (by omega) _).set _
  · exact ((Below.heap_setCell _ _ _ _ (by show w.heap.size ≠ w.heap.size + 1 + 1; omega)).trans (Below.heap_setCell _ _ _ _ (by show w.heap.size ≠ w.heap.size + 1; omega))).trans h01
  · exact ((hB.trans (hb.mono hsz)).setCell (p := ⟨w.heap.size + 1, 0, none⟩) (by show w.heap.size ≤ w.heap.size + 1; omega) _).setCell (p := ⟨w.heap.size + 1 + 1, 0, none⟩) (by show w.heap.size ≤ w.heap.size + 1 + 1; omega) _

set_option maxRecDepth 100000 in
set_option maxHeartbeats 4000000 in
theorem least_calls {fp fpk : Nat → Prop} {gf : Nat} {lb : Array Value} {xs : List Nat} {w : World} (hem : Emits Try.prog fp gf lb encA xs w)
    (eg : ∀ args w, (callFunc gf args).run Try.prog w = .ok (.enter gf args) w) (hfp : ∀ k, fp k → k < w.heap.size) (kf : Nat) (kb : Array Value) (ek : ∀ args w, (callFunc kf args).run Try.prog w = .ok (.enter kf args) w)
    (hfk : ∀ k, fpk k → k < w.heap.size) (f : Nat → Int) (hcost : ∀ x ∈ xs, ∀ W, Same fpk w W → Calls Try.prog kf (#[encI x] ++ kb) W fun e W' => e = .returned (.int .i64 (f x)) ∧ Below W.heap.size W W') (hne : xs ≠ []) :
    Calls Try.prog 72 #[.func (.func gf) #[] lb, .func (.func kf) #[] kb] w fun e w' => e = .returned (.int .i64 ((leastL f xs : Nat) : Int)) ∧ Below w.heap.size w w' := by
  refine (callsIn_wide (n := 3)).1 ?_
  refine callsIn_of_wp_marks Try.func72 rfl trivial ?_ rfl
  simp only [Try.ntmps72, List.size_toArray, List.length_cons, List.length_nil, Nat.reduceAdd, Nat.reduceSub, Array.replicate_succ, Array.replicate_zero, List.push_toArray, List.append_toArray, List.nil_append, List.cons_append]
  have hfw : ∀ f, Fence.wide.fn f := fun _ => trivial
  have hdw : Fence.wide.depth.isSome = false := rfl
  have HK := Apart0.mk hcost
  clear hcost
  gi_wp2
  obtain ⟨W0, hW0⟩ : ∃ W0, ((w.alloc (.cells #[.func (.func kf) #[] kb] 29)).alloc (.cells #[.int .i64 0] 3)).alloc (.cells #[.bool true] 4) = W0 := ⟨_, rfl⟩
  try rw [hW0]
  have hsz : W0.heap.size = w.heap.size + 3 := by rw [← hW0]; simp
  have hB0 : Below w.heap.size w W0 := by
    rw [← hW0]; exact (((Below.refl _ w).alloc (Nat.le_refl _) _).alloc (by simp only [World.size_alloc]; omega) _).alloc (by simp only [World.size_alloc]; omega) _
  have b0 : W0.heap[w.heap.size]? = some (.cells #[.func (.func kf) #[] kb] 29 (0, 0)) := by rw [← hW0]; simp only [alloc_get, World.size_alloc]; repeat (first | rw [if_pos trivial] | rw [if_pos (by omega)] | rw [if_neg (by omega)])
  have b1 : W0.heap[w.heap.size + 1]? = some (.cells #[.int .i64 0] 3 (0, 0)) := by rw [← hW0]; simp only [alloc_get, World.size_alloc]; repeat (first | rw [if_pos trivial] | rw [if_pos (by omega)] | rw [if_neg (by omega)])
  have b2 : W0.heap[w.heap.size + 1 + 1]? = some (.cells #[.bool true] 4 (0, 0)) := by rw [← hW0]; simp only [alloc_get, World.size_alloc]; repeat (first | rw [if_pos trivial] | rw [if_pos (by omega)] | rw [if_neg (by omega)])
  clear hW0
  refine wpIn_emits rfl eg hem (Same.below hB0 hfp) (fun k hk => by have := hfp k hk; omega) (fun _ => rfl)
    (LeastI w kf kb f) (fun _ _ _ => False)
    (OwnFrom.and (Own.from (boxed_own _ _ _) _) (OwnFrom.and (Own.from (boxed_own _ _ _) _) (OwnFrom.and (ownFrom_block (by omega)) (ownFrom_below (Nat.le_refl _) (by omega)))))
    (fun c _ _ _ _ h _ _ => h) ⟨b1, b2, b0, hB0⟩
    (fun x => { tmps := #[.func (.func gf) #[] lb, .func (.func kf) #[] kb, undef, .pointer (some ⟨w.heap.size, 0, none⟩), .pointer (some ⟨w.heap.size + 1, 0, none⟩), .pointer (some ⟨w.heap.size + 1 + 1, 0, none⟩), .int .i64 (x : Int), .func (.func gf) #[] lb, .int .i64 (x : Int), undef, undef, undef, undef, undef, undef, undef, undef, undef, undef, undef, undef], defers := [] })
    ?assign ?body ?done ?stop
  case assign => intro l' m x Wc K hKc; dsimp only [encA]; gi_wp2; exact hKc
  case stop => intro D c pre Wc hD hpre hf hDef; exact hf.elim
  case done =>
    rintro D Wc hD ⟨hv, h1, hb, hB⟩ hDef
    have hcl := hv.cell
    have hfr := hv.frozen
    have hlt := hv.lt
    have hg := grownBy_setCell' Wc (w.heap.size + 1) (.int .i64 ((leastL f xs : Nat) : Int))
    have hDef2 : (Wc.setCell ⟨w.heap.size + 1, 0, none⟩ (.int .i64 ((leastL f xs : Nat) : Int))).heap[D]? = some (.deferred (some [])) := (Below.heap_setCell Wc _ _ _ (by show D ≠ w.heap.size + 1; omega)).trans hDef
    have HV2 := Apart0.mk (hv.set (.int .i64 ((leastL f xs : Nat) : Int)))
    gi_wp2
    refine ⟨by simp, .inl ⟨_, _, rfl, run_takeDeferred hDef2, ?_⟩⟩
    have hc2 : ((Wc.setCell ⟨w.heap.size + 1, 0, none⟩ (.int .i64 ((leastL f xs : Nat) : Int))).putObj D (.deferred none)).cell? ⟨w.heap.size + 1, 0, none⟩ = some (.int .i64 ((leastL f xs : Nat) : Int)) :=
      Boxed.cell (t := 3) ((World.putObj_heap_other (by omega)).trans HV2.out)
    refine ⟨_, ?_, rfl, (hB.setCell (p := ⟨w.heap.size + 1, 0, none⟩) (by show w.heap.size ≤ w.heap.size + 1; omega) _).trans (belowK_b (w := w) (Nat.le_refl _) _ D _ _ (by omega) hDef2 rfl rfl)⟩
    simp [results, Try.results72, go_sem, hc2]
  case body =>
    rintro l' m pre x W hI hpre
    obtain ⟨hv, h1, hb, hB⟩ := hI
    have HI := Apart0.mk (show LeastI w kf kb f pre W from ⟨hv, h1, hb, hB⟩)
    have mixed : Try.prog.follows .mixedOrders = true := by kernel_rfl
    have c1 := fun d os => cell_regrown hv.cell d os
    have c2 := fun d os => cell_regrown h1.cell d os
    have c0 := fun d os => cell_regrown (Boxed.cell (t := 29) hb) d os
    have hx : x ∈ xs := hpre.subset (by simp)
    have hwW := hB.size
    have hsz2 : w.heap.size + 3 ≤ W0.heap.size := by omega
    -- the stores behind the region
    have FR := Apart0.mk (show ∀ d os, (grow (redrawn W d) os).frozen? ⟨w.heap.size + 1, 0, none⟩ = false ∧ (grow (redrawn W d) os).frozen? ⟨w.heap.size + 1 + 1, 0, none⟩ = false ∧ w.heap.size + 1 + 1 < (grow (redrawn W d) os).heap.size from fun d os =>
      have hb := below_regrown W d os
      ⟨(hb.frozen (p := ⟨w.heap.size + 1, 0, none⟩) hv.lt).trans hv.frozen, (hb.frozen (p := ⟨w.heap.size + 1 + 1, 0, none⟩) h1.lt).trans h1.frozen, Nat.lt_of_lt_of_le h1.lt hb.size⟩)
    have C1 := Apart0.mk c1
    have C2 := Apart0.mk c2
    cases hpe : pre with
    | nil =>
      subst hpe
      have c2' : ∀ d os, (grow (redrawn W d) os).cell? ⟨w.heap.size + 1 + 1, 0, none⟩ = some (.bool true) := c2
      have HFP := Apart0.mk hfp
      clear hem eg hfp HK hpre ek hfk hne hB0 b0 b1 b2 hv h1 hb hB c2 c1 c0 hx hwW hsz
      gi_wp2
      refine region_below (by kernel_rfl) mixed (by kernel_rfl) ?_
      repeat (quiet_step_in (fail))
      refine wpQuietIn_nil ?_
      rintro w' ⟨⟨d, os⟩, rfl⟩
      obtain ⟨f1, f2, f3⟩ := FR.out d os
      have g1 := C1.out d os
      have g2 := C2.out d os
      dsimp only
      clear c2'
      have hbr := below_regrown W d os
      have fin := least_moves (x := x) (B := W0.heap.size) HI.out hbr HFP.out hsz2 (leastL_one f x)
      have FIN := Apart0.mk fin
      clear fin hbr
      generalize grow (redrawn W d) os = W1 at *
      gi_wp2
      exact FIN.out
    | cons y r =>
      have hpne : pre ≠ [] := by rw [hpe]; simp
      have hbm : leastL f pre ∈ xs := hpre.subset (List.mem_append_left _ (leastL_mem f pre hpne))
      have HC := Apart0.mk (show ∀ (z : Nat) (W1 : World), z ∈ xs → Below W.heap.size W W1 → Calls Try.prog kf (#[.int .i64 (z : Int)] ++ kb) W1 fun e W2 => e = .returned (.int .i64 (f z)) ∧ Below W1.heap.size W1 W2 from
        fun z W1 hz hb1 => HK.out z hz W1 (Same.below (hB.trans (hb1.mono hwW)) hfk))
      have hem0 : pre.isEmpty = false := by rw [hpe]; rfl
      have c2' : ∀ d os, (grow (redrawn W d) os).cell? ⟨w.heap.size + 1 + 1, 0, none⟩ = some (.bool false) := fun d os => by have := c2 d os; rw [hem0] at this; exact this
      have SN := Apart0.mk (leastL_snoc f pre x hpne)
      have HBM := Apart0.mk hbm
      have HX := Apart0.mk hx
      have HNE := Apart0.mk hpne
      have HFP := Apart0.mk hfp
      have HPE := Apart0.mk hpe
      clear hpe
      generalize hbest : leastL f pre = best at *
      have HBE := Apart0.mk hbest
      by_cases hlt : f x < f best
      · have hd : decide (f x < f best) = true := decide_eq_true hlt
        clear hem eg hfp HK hpre hfk hne hB0 b0 b1 b2 hv h1 hb hB c2 hx hbm hbest hpne hem0 hwW hsz
        gi_wp2
        refine region_below (by kernel_rfl) mixed (by kernel_rfl) ?_
        repeat (quiet_step_in (refine CallsIn.regrown_of (CallsIn.inRound l' (callsIn_wide.2 (HC.out _ _ (by first | exact HX.out | exact HBM.out) (below_regrown _ _ _))))))
        refine wpQuietIn_nil ?_
        rintro w' ⟨⟨d, os⟩, rfl⟩
        obtain ⟨f1, f2, f3⟩ := FR.out d os
        have g1 := C1.out d os
        have g2 := C2.out d os
        dsimp only
        clear c0 c1 c2'
        have hbr := below_regrown W d os
        have hle : leastL f (pre ++ [x]) = x := by rw [SN.out, if_pos hlt]
        have fin := least_moves (x := x) (B := W0.heap.size) HI.out hbr HFP.out hsz2 hle
        have FIN := Apart0.mk fin
        clear fin hbr hle
        generalize grow (redrawn W d) os = W1 at *
        gi_wp2
        have q := FIN.out
        rw [HPE.out] at q
        exact q
      · have hd : decide (f x < f best) = false := decide_eq_false hlt
        clear hem eg hfp HK hpre hfk hne hB0 b0 b1 b2 hv h1 hb hB c2 hx hbm hbest hpne hem0 hwW hsz
        gi_wp2
        refine region_below (by kernel_rfl) mixed (by kernel_rfl) ?_
        repeat (quiet_step_in (refine CallsIn.regrown_of (CallsIn.inRound l' (callsIn_wide.2 (HC.out _ _ (by first | exact HX.out | exact HBM.out) (below_regrown _ _ _))))))
        refine wpQuietIn_nil ?_
        rintro w' ⟨⟨d, os⟩, rfl⟩
        obtain ⟨f1, f2, f3⟩ := FR.out d os
        have g1 := C1.out d os
        have g2 := C2.out d os
        dsimp only
        clear c0 c1 c2'
        have hbr := below_regrown W d os
        have fin := least_stays (x := x) (B := W0.heap.size) HI.out hbr HFP.out HNE.out (by rw [HBE.out]; omega)
        have FIN := Apart0.mk fin
        clear fin hbr
        generalize grow (redrawn W d) os = W1 at *
        gi_wp2
        have q := FIN.out
        rw [HPE.out] at q
        exact q
end Go.Proofs.Ytlplaidcdocbmaa.Core
