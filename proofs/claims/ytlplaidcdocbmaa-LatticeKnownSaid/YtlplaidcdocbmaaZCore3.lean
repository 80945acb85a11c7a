-- Cut by pack.py, a program of this session; not trusted: Lean checks it.
import Derived.RangeFuncNested
import Derived.RangeFuncBound
import Derived.RangeFuncCalls
import Derived.RangeFuncLeaves
import Derived.Shelf.Abstract
import Derived.Shelf.RegionOpen
import Derived.WalkKit
import Derived.OwnWalkIn
import Derived.TacticsInMore
import Derived.LoopNIn
import Derived.LoopIn
import Derived.Maps.AppendAt
import Derived.Test.YtlplaidcdocbmaaProg
import Derived.Test.YtlplaidcdocbmaaZCore1
import Derived.Test.YtlplaidcdocbmaaZPlainA
import Derived.Shelf.AbstractIn
import Derived.Test.YtlplaidcdocbmaaZCore2
/- lattice.kept: of what an iterator hands out, what is kept. -/
namespace Go.Proofs.Ytlplaidcdocbmaa.Core
open Go.RowKit Go.Shelf
attribute [local go_sem] Oper.semAt_some
set_option linter.unusedVariables false
set_option linter.unusedSimpArgs false

theorem below_grown {W W' : World} (h : Below W.heap.size W W') : W.grownBy W' none := ⟨h.os, h.tape, h.output, h.size, fun k hk _ => h.block k hk⟩
theorem same_below {fp : Nat → Prop} {W W' : World} (h : Below W.heap.size W W') (hf : ∀ k, fp k → k < W.heap.size) : Same fp W W' := Same.below h hf
theorem ownFrom_same {β : Type} {B : Nat} {fp : Nat → Prop} {w0 : World} (hf : ∀ k, fp k → k < B ∧ k < w0.heap.size) : OwnFrom B (fun (_ : β) W => Same fp w0 W) :=
  fun _ X Y row hs hg hr => ⟨Nat.le_trans hs.1 hg.size, fun k hk => (hg.block k (by have := hs.1; have := (hf k hk).2; omega) (fun e => by have := (hr k e.symm).1; have := (hf k hk).1; omega)).trans (hs.2 k hk)⟩
theorem ownFrom_mono {β : Type} {B B' : Nat} {I : β → World → Prop} (h : OwnFrom B I) (hB : B ≤ B') : OwnFrom B' I :=
  fun s X Y row hs hg hr => h s X Y row hs hg (fun r e => ⟨by have := (hr r e).1; omega, (hr r e).2⟩)
theorem ownFrom_filter {B : Nat} {J : List Nat → World → Prop} (p : Nat → Bool) (h : OwnFrom B J) : OwnFrom B (fun (pre : List Nat) W => J (pre.filter p) W) := fun s X Y row hs hg hr => h _ X Y row hs hg hr

theorem kept_calls (g k : Nat) (lb kb : Array Value) (w : World) : Calls Try.prog 67 #[.func (.func g) #[] lb, .func (.func k) #[] kb] w fun e w' =>
    e = .returned (.func (.func 91) #[] #[.pointer (some ⟨w.heap.size, 0, none⟩), .pointer (some ⟨w.heap.size + 1, 0, none⟩)]) ∧
    w' = (w.alloc (.cells #[.func (.func g) #[] lb] 64)).alloc (.cells #[.func (.func k) #[] kb] 30) := by
  go_enter Try.func67, Try.ntmps67
  go_wp2
  go_ret
  exact ⟨rfl, rfl⟩

set_option maxHeartbeats 1000000 in
theorem kept_emits {fp fpk : Nat → Prop} {gf : Nat} {lb : Array Value} {xs : List Nat} {w : World} (hem : Emits Try.prog fp gf lb encA xs w)
    (eg : ∀ args w, (callFunc gf args).run Try.prog w = .ok (.enter gf args) w) (hfp : ∀ k, fp k → k < w.heap.size) (kf : Nat) (kb : Array Value) (ek : ∀ args w, (callFunc kf args).run Try.prog w = .ok (.enter kf args) w)
    (hfk : ∀ k, fpk k → k < w.heap.size) (p : Nat → Bool)
    (hkeep : ∀ x ∈ xs, ∀ W, Same fpk w W → Calls Try.prog kf (#[encI x] ++ kb) W fun e W' => e = .returned (.bool (p x)) ∧ Below W.heap.size W W')
    (Ba Bk : Nat) (hA : w.heap[Ba]? = some (.cells #[.func (.func gf) #[] lb] 64 (0, 0))) (hK : w.heap[Bk]? = some (.cells #[.func (.func kf) #[] kb] 30 (0, 0))) :
    Emits Try.prog (fun k => fp k ∨ fpk k ∨ k = Ba ∨ k = Bk) 91 #[.pointer (some ⟨Ba, 0, none⟩), .pointer (some ⟨Bk, 0, none⟩)] encA (xs.filter p) w := by
  intro n l J Jx W hS hJ hJx hY h0
  have hAW : W.heap[Ba]? = some (.cells #[.func (.func gf) #[] lb] 64 (0, 0)) := (hS.2 Ba (by simp)).trans hA
  have hKW : W.heap[Bk]? = some (.cells #[.func (.func kf) #[] kb] 30 (0, 0)) := (hS.2 Bk (by simp)).trans hK
  have hbA : Ba < w.heap.size := (Array.getElem?_eq_some_iff.1 hA).1
  have hbK : Bk < w.heap.size := (Array.getElem?_eq_some_iff.1 hK).1
  have hcA : W.cell? ⟨Ba, 0, none⟩ = some (.func (.func gf) #[] lb) := Boxed.cell hAW
  have hwW : w.heap.size ≤ W.heap.size := hS.1
  have hbAW : Ba < W.heap.size := by omega
  clear hA hK
  refine callsIn_of_wp_marks Try.func91 rfl trivial ?_ rfl
  simp only [Try.ntmps91, List.size_toArray, List.length_cons, List.length_nil, Nat.reduceAdd, Nat.reduceSub, Array.replicate_succ, Array.replicate_zero, List.push_toArray, List.append_toArray, List.nil_append, List.cons_append]
  gi_wp2
  obtain ⟨W0, hW0⟩ : ∃ W0, W.alloc (.cells #[.func (.yield l) #[] #[]] 30) = W0 := ⟨_, rfl⟩
  have hsz : W0.heap.size = W.heap.size + 1 := by rw [← hW0]; simp
  have hY0 : W0.heap[W.heap.size]? = some (.cells #[.func (.yield l) #[] #[]] 30 (0, 0)) := by rw [← hW0]; exact World.alloc_heap_new W _
  have hold : ∀ k, k < W.heap.size → W0.heap[k]? = W.heap[k]? := fun k hk => by rw [← hW0]; exact Below.heap_alloc _ _ k hk
  have hJ0 : J [] W0 := by rw [← hW0]; exact hJ.alloc _ h0
  rw [hW0]
  clear hW0 h0
  have hfa : ∀ k, (fp k ∨ fpk k ∨ k = Ba ∨ k = Bk ∨ k = W.heap.size) → k < W0.heap.size ∧ k < W0.heap.size := fun k hk => by
    rcases hk with h | h | h | h | h
    · have := hfp k h; omega
    · have := hfk k h; omega
    all_goals omega
  have hs0 : Same (fun k => fp k ∨ fpk k ∨ k = Ba ∨ k = Bk) w W0 := hS.trans ⟨by omega, fun k hk => hold k (by
    rcases hk with h | h | h | h
    · have := hfp k h; omega
    · have := hfk k h; omega
    all_goals omega)⟩
  have hJB : ∀ {B}, W.heap.size ≤ B → OwnFrom B J := fun h => ownFrom_mono hJ h
  refine wpIn_emits rfl eg hem (hs0.less (fun k hk => .inl hk)) (fun k hk => (hfa k (.inl hk)).1) (fun _ => rfl)
    (fun pre Wc => J (pre.filter p) Wc ∧ Same (fun k => fp k ∨ fpk k ∨ k = Ba ∨ k = Bk ∨ k = W.heap.size) W0 Wc) (fun c pre Wc => c = .ret ∧ Jx (pre.filter p) Wc)
    (OwnFrom.and (ownFrom_filter p (ownFrom_mono hJ (by omega))) (ownFrom_same hfa)) (fun c => OwnFrom.and (ownFrom_pure _ _) (ownFrom_filter p (ownFrom_mono hJx (by omega)))) ⟨hJ0, Same.refl _ _⟩
    (fun x => { tmps := #[.func (.yield l) #[] #[], .pointer (some ⟨Ba, 0, none⟩), .pointer (some ⟨Bk, 0, none⟩), .pointer (some ⟨W.heap.size, 0, none⟩), (.int .i64 (x : Int)), .func (.func gf) #[] lb, (.int .i64 (x : Int)), undef, undef, undef, undef, undef, undef, undef, undef, undef], defers := [] })
    ?assign ?body ?done ?stop
  case assign => intro l' m x Wc K hKc; dsimp only [encA]; gi_wp2; exact hKc
  case done =>
    rintro D Wc hD ⟨hj, hs⟩ hDef
    gi_wp2
    refine ⟨by simp, .inl ⟨_, _, rfl, run_takeDeferred hDef, ?_⟩⟩
    exact ⟨_, results_none rfl _ _ _, ⟨_, rfl⟩, .inl (hJ.putObj _ hj (by omega) hDef rfl)⟩
  case stop =>
    rintro D c pre Wc hD hpre ⟨rfl, hj⟩ hDef
    gi_wp2
    refine ⟨by simp, .inl ⟨_, _, rfl, run_takeDeferred hDef, ?_⟩⟩
    exact ⟨_, results_none rfl _ _ _, ⟨_, rfl⟩, .inr ⟨_, hpre.filter p, hJx.putObj _ hj (by omega) hDef rfl⟩⟩
  case body =>
    rintro l' m pre x Wc ⟨hj, hs⟩ hpre
    have hcK : Wc.cell? ⟨Bk, 0, none⟩ = some (.func (.func kf) #[] kb) := Boxed.cell (t := 30) (((hs.2 Bk (by simp)).trans (hold Bk (by omega))).trans hKW)
    have hx : x ∈ xs := hpre.subset (by simp)
    have hk := hkeep x hx Wc ((hs0.less (fun k hk => .inr (.inl hk))).trans (hs.less (fun k hk => .inr (.inl hk))))
    have hfc : ∀ k, (fp k ∨ fpk k ∨ k = Ba ∨ k = Bk ∨ k = W.heap.size) → k < Wc.heap.size := fun k hk => by have := (hfa k hk).1; have := hs.1; omega
    have hfw : ∀ f, Fence.wide.fn f := fun _ => trivial
    have hdw : Fence.wide.depth.isSome = false := rfl
    cases hp : p x with
    | false =>
      rw [hp] at hk
      gi_wp2
      refine (CallsIn.inRound l' (callsIn_wide.2 hk)).mono ?_
      rintro e W1 ⟨rfl, hb1⟩
      gi_wp2
      refine ⟨Keeps.below _ hb1, same_below hb1 (fun k hk => hfc k (.inl hk)), ?_, hs.trans (same_below hb1 hfc)⟩
      rw [List.filter_append, List.filter_cons, hp]
      simpa using hJ _ Wc W1 none hj (below_grown hb1) (fun r e => by cases e)
    | true =>
      rw [hp] at hk
      gi_wp2
      refine (CallsIn.inRound l' (callsIn_wide.2 hk)).mono ?_
      rintro e W1 ⟨rfl, hb1⟩
      have hs1 := hs.trans (same_below hb1 hfc)
      have hcY : W1.cell? ⟨W.heap.size, 0, none⟩ = some (.func (.yield l) #[] #[]) := Boxed.cell (t := 30) ((hs1.2 _ (by simp)).trans hY0)
      have hj1 := hJ _ Wc W1 none hj (below_grown hb1) (fun r e => by cases e)
      have hfx : (pre ++ [x]).filter p = pre.filter p ++ [x] := by rw [List.filter_append, List.filter_cons, hp]; simp
      have hpf : pre.filter p ++ [x] <+: xs.filter p := by rw [← hfx]; exact hpre.filter p
      obtain ⟨fn, tmps, assign, body, hy, hR⟩ := hY (m - 1) _ x W1 hj1 hpf
      dsimp only [encA] at hy
      gi_wp2
      refine (show RoundIn (Fence.wide.inRound l') _ _ _ _ _ _ _ _ _ from hR).mono ?_
      rintro e W2 ⟨hkf, (⟨rfl, hj2, hsm⟩ | ⟨rfl, hjx⟩)⟩
      · gi_wp2
        have hk2 : Keeps W0.heap.size Wc W2 := (Keeps.below _ hb1).trans (hkf.mono (by omega))
        refine ⟨hk2, (same_below hb1 (fun k hk => hfc k (.inl hk))).trans (hsm.less (fun k hk => .inl hk)), ?_, ?_⟩
        · show J (List.filter p (pre ++ [x])) W2
          rw [hfx]; exact hj2
        · refine ⟨Nat.le_trans hs.1 hk2.1, fun k hk => ?_⟩
          by_cases hkb : k = W.heap.size
          · subst hkb
            exact (hkf.2 _ _ (Nat.le_refl _) ((hs1.2 _ hk).trans hY0) rfl).trans hY0.symm
          · refine (hsm.2 k ?_).trans (hs1.2 k hk)
            rcases hk with h | h | h | h | h
            · exact .inl h
            · exact .inr (.inl h)
            · exact .inr (.inr (.inl h))
            · exact .inr (.inr (.inr h))
            · exact absurd h hkb
      · gi_wp2
        refine ⟨(Keeps.below _ hb1).trans (hkf.mono (by omega)), rfl, ?_⟩
        show Jx (List.filter p (pre ++ [x])) W2
        rw [hfx]; exact hjx
end Go.Proofs.Ytlplaidcdocbmaa.Core
