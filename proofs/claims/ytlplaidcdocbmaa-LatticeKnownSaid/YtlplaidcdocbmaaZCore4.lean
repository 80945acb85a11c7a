-- Cut by pack.py, a program of this session; not trusted: Lean checks it.
import Derived.RangeFuncNested
import Derived.RangeFuncBound
import Derived.RangeFuncCalls
import Derived.RangeFuncLeaves
import Derived.Shelf.Abstract
import Derived.Shelf.RegionOpen
import Derived.WalkKit
import Derived.OwnWalkIn
import Derived.TacticsInMore
import Derived.LoopNIn
import Derived.LoopIn
import Derived.Maps.AppendAt
import Derived.Test.YtlplaidcdocbmaaProg
import Derived.Test.YtlplaidcdocbmaaZCore1
import Derived.Test.YtlplaidcdocbmaaZPlainA
import Derived.Shelf.AbstractIn
import Derived.Deep.Draws
import Derived.Tactics
import Derived.Deep.QuietTactic
import Derived.BigQuiet
import Derived.Test.YtlplaidcdocbmaaZCore3
/- slices.AppendSeq, slices.Collect of an iterator of a known list of numbers. -/
namespace Go.Proofs.Ytlplaidcdocbmaa.Core
open Go.RowKit Go.Shelf
attribute [local go_sem] Oper.semAt_some
set_option linter.unusedVariables false
set_option linter.unusedSimpArgs false

theorem info3 : (Try.prog.info? 3).map (fun i => (i.zero, i.size, i.bytes)) = some (some (.int .i64 0), 1, 8) := by kernel_rfl

theorem ownsRow_type {W : World} {base : Nat} {e : TypeId} {size : Nat} {v : Value} {k : Nat} {xs : List Value} (h : W.ownsRow base e size v k xs) (he : e ≠ 30) : ∀ j, v.ownBlock = some j → ∃ o, W.heap[j]? = some o ∧ Obj30 o = false := by
  intro j hj
  rcases h.2 with ⟨rfl, _⟩ | ⟨g, cap, cur, rfl, _, hgb, _⟩
  · simp [Value.ownBlock] at hj
  · have : g = j := by simpa [Value.ownBlock] using hj
    subst this
    exact ⟨_, hgb, by simp [Obj30, he]⟩

set_option maxHeartbeats 2000000 in
theorem appendSeq_calls {fp : Nat → Prop} {gf : Nat} {lb : Array Value} {xs : List Nat} {w : World} (hem : Emits Try.prog fp gf lb encA xs w)
    (eg : ∀ args w, (callFunc gf args).run Try.prog w = .ok (.enter gf args) w) (hfp : ∀ k, fp k → k < w.heap.size) (hlen : xs.length ≤ 16) :
    Calls Try.prog 87 #[.slice none 0 0, .func (.func gf) #[] lb] w fun e w' => ∃ v : Value, e = .returned v ∧ w'.ownsRow w.heap.size 3 1 v xs.length (xs.map encI) ∧ (v = .slice none 0 0 ↔ xs = []) ∧ Below w.heap.size w w' := by
  obtain ⟨i0, hi, hz0, hz1, hz2⟩ := info_parts info3
  refine (callsIn_wide (n := 3)).1 ?_
  refine callsIn_of_wp_marks Try.func87 rfl trivial ?_ rfl
  simp only [Try.ntmps87, List.size_toArray, List.length_cons, List.length_nil, Nat.reduceAdd, Nat.reduceSub, Array.replicate_succ, Array.replicate_zero, List.push_toArray, List.append_toArray, List.nil_append, List.cons_append]
  gi_wp2
  obtain ⟨W0, hW0⟩ : ∃ W0, w.alloc (.cells #[.slice none 0 0] 24) = W0 := ⟨_, rfl⟩
  have hsz : W0.heap.size = w.heap.size + 1 := by rw [← hW0]; simp
  have hBox : Boxed W0 w.heap.size 24 (.slice none 0 0) := by rw [← hW0]; exact Boxed.new _ _ _
  have hB0 : Below w.heap.size w W0 := by rw [← hW0]; exact (Below.refl _ w).alloc (Nat.le_refl _) _
  rw [hW0]
  clear hW0
  refine wpIn_emits rfl eg hem (Same.below hB0 hfp) (fun k hk => by have := hfp k hk; omega) (fun _ => rfl)
    (fun pre W => (∃ v, Boxed W w.heap.size 24 v ∧ W.ownsRow w.heap.size 3 1 v pre.length (pre.map encI) ∧ (v = .slice none 0 0 ↔ pre = [])) ∧ Below w.heap.size w W) (fun _ _ _ => False)
    (OwnFrom.and (Own.from (holdsRow_own w.heap.size w.heap.size 24 3 1 (fun (pre : List Nat) => pre.length) (fun pre => pre.map encI) (fun pre v => (v = .slice none 0 0 ↔ pre = []))) _) (ownFrom_below (Nat.le_refl _) (by omega)))
    (fun c _ _ _ _ h _ _ => h) ⟨⟨_, hBox, World.ownsRow_nil _ _ _ _, by simp⟩, hB0⟩
    (fun x => { tmps := #[.slice none 0 0, .func (.func gf) #[] lb, .pointer (some ⟨w.heap.size, 0, none⟩), undef, .slice none 0 0, .int .i64 (x : Int), .func (.func gf) #[] lb, .int .i64 (x : Int), undef, undef, undef, undef, undef], defers := [] })
    ?assign ?body ?done ?stop
  case assign => intro l' m x Wc K hKc; dsimp only [encA]; gi_wp2; exact hKc
  case stop => intro D c pre Wc hD hpre hf hDef; exact hf.elim
  case done =>
    rintro D Wc hD ⟨⟨v, hv, hrow, hnil⟩, hB⟩ hDef
    have hc := hv.cell
    gi_wp2
    refine ⟨by simp, .inl ⟨_, _, rfl, run_takeDeferred hDef, ?_⟩⟩
    exact ⟨_, results_tmp rfl _ _ _, v, rfl, ownsRow_putObj hrow _ hDef rfl, hnil, hB.trans (belowK_b (w := w) (Nat.le_refl _) Wc D _ _ (by omega) hDef rfl rfl)⟩
  case body =>
    rintro l' m pre x W ⟨⟨v, hv, hrow, hnil⟩, hB⟩ hpre
    have hpl : pre.length + 1 ≤ 16 := by have := hpre.length_le; simp at this; omega
    have hc := hv.cell
    have hfr := hv.frozen
    have hlt := hv.lt
    gi_wp2_with (gi_at_builtin; refine wpListIn_append_own _ rfl _ _ 24 rfl w.heap.size 3 i0 (.int .i64 0) 1 8 Try.underlying24 hi hz0 hz1 hz2 rfl (by decide) _ _ _ rfl (hrow.alloc _) ⟨W.heap.size, 0, none⟩ 1 1 [.int .i64 (x : Int)] rfl rfl (cell_one_new _ _ _) (by simp [Value.oneCell']) (by unfold maxLen; omega) (by omega) (by have := hB.size; simp; omega) ?_; intro v' w1 hown' hgrow _; obtain ⟨g', cap', rfl⟩ := ownsRow_succ hown'; obtain ⟨hv1, hv2, hr2, hk2, hb2⟩ := hv.appended (by decide) hrow hB.size (Nat.le_refl _) hown' hgrow; have hc1 := hv1.cell; have hf1 := hv1.frozen)
    refine ⟨(Keeps.grown (World.grownBy_alloc W _ none) (fun j e => by cases e)).trans ((Keeps.grown hgrow (fun j e => .inr (ownsRow_type (hrow.alloc _) (by decide) j e))).trans (Keeps.grown (grownBy_setCell' w1 _ _) (fun j e => by cases e; left; omega))),
      Same.below hb2 hfp, ⟨_, hv2, by simpa [encI] using hr2, by simp⟩, hB.trans hb2⟩

theorem collect_calls {fp : Nat → Prop} {gf : Nat} {lb : Array Value} {xs : List Nat} {w : World} (hem : Emits Try.prog fp gf lb encA xs w)
    (eg : ∀ args w, (callFunc gf args).run Try.prog w = .ok (.enter gf args) w) (hfp : ∀ k, fp k → k < w.heap.size) (hlen : xs.length ≤ 16) :
    Calls Try.prog 60 #[.func (.func gf) #[] lb] w fun e w' => ∃ v : Value, e = .returned v ∧ w'.ownsRow w.heap.size 3 1 v xs.length (xs.map encI) ∧ (v = .slice none 0 0 ↔ xs = []) ∧ Below w.heap.size w w' := by
  have hc := appendSeq_calls hem eg hfp hlen
  clear hem
  go_enter Try.func60, Try.ntmps60
  go_wp2_with (go_at_call 87; refine hc.mono ?_; rintro e w' ⟨v, rfl, hrow, hnil, hb⟩)
  go_ret
  exact ⟨v, rfl, hrow, hnil, hb⟩
end Go.Proofs.Ytlplaidcdocbmaa.Core
