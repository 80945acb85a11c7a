-- Cut by pack.py, a program of this session; not trusted: Lean checks it.
import Derived.Deep.Draws
import Derived.Tactics
import Derived.Tactics2
import Derived.OwnWalk
import Derived.Outline
import Derived.Lib.Walk
import Derived.Lib.SliceRun
import Derived.Maps.OwnOps
import Derived.Maps.Views
import Derived.Maps.Keyed
import Derived.Deep.QuietTactic
import Derived.BigQuiet
import Derived.Deep.RegionHeld3
import Derived.Shelf.RegionOpenPlain
import Derived.Test.YtlplaidcdocbmaaZS6
import Derived.Test.YtlplaidcdocbmaaZPlainS
/- sorts.Right. -/
namespace Go.Proofs.Ytlplaidcdocbmaa.Srt
open Go.RowKit Go.Shelf Go.Proofs.Ytlplaidcdocbmaa.Core Go.Proofs.YtlplaidcdocbmaaW
set_option linter.unusedVariables false
set_option linter.unusedSimpArgs false

theorem keyed3 : Maps.Keyed Try.prog 3 := Maps.int_keyed Try.underlying3
theorem zero4 (w : World) : (zeroValue 4).run Try.prog w = .ok (.bool false) w := by kernel_rfl
/-- The block b is a set of numbers. -/
def Seen (w : World) (b : Nat) (seen : List Int) : Prop := ∃ (n : Nat) (D : DataW Unit), w.ownsMap Try.prog 3 (plainElem Try.prog 4) b n D ∧ n ≤ seen.length ∧ Maps.IsMap D ∧
 ∀ x : Int, (Lit.int .i64 x).wf = true → D.atKey (.int .i64 x) (.lit (.bool false)) = .lit (.bool (seen.contains x))
theorem Seen.made (w : World) : Seen (w.alloc (.map #[] 0)) w.heap.size [] :=
 ⟨0, .map [], World.ownsMap_made w _ _ _, Nat.le_refl _, ⟨[], rfl⟩, fun x _ => rfl⟩
theorem Seen.lt {w : World} {b : Nat} {seen : List Int} (h : Seen w b seen) : b < w.heap.size := by
 obtain ⟨n, D, h1, _⟩ := h
 exact h1.lt
theorem Seen.below {w w' : World} {b : Nat} {seen : List Int} (h : Seen w b seen) (hb : Below w.heap.size w w') : Seen w' b seen := by
 obtain ⟨n, D, h1, h2⟩ := h
 exact ⟨n, D, h1.kept (PrintWords.grown_of_below hb none) (by simp), h2⟩
theorem plain_bool {v : Value} {q : Bool} {ps : List MemPlace} (hv : plainElem (H := Unit) Try.prog 4 v = some (.lit (.bool q), ps)) : v = .bool q := by
 unfold plainElem at hv
 rw [Try.underlying4] at hv
 cases v with
 | bool y =>
  have h5 := congrArg (fun o => o.map Prod.fst) hv
  simp only [Option.map_some, Option.some.injEq, DataW.lit.injEq, Lit.bool.injEq] at h5
  rw [h5]
 | _ => exact absurd hv (by intro h; cases h)
theorem Seen.look {w : World} {b : Nat} {seen : List Int} (h : Seen w b seen) {x : Int} (hx : (Lit.int .i64 x).wf = true) : (Instr.lookup 74 (.map (some b)) (.int .i64 x) false).run Try.prog w = .ok (.bool (seen.contains x)) w := by
 obtain ⟨n, D, h1, h2, h3, h4⟩ := h
 obtain ⟨v, ps, hrun, hv⟩ := h1.lookup keyed3 Try.underlying74 (zero4 w) (plainElem_bool Try.underlying4 false) (Maps.keyOf_int_mk Try.underlying3 hx)
 have h4' := h4 x hx
 generalize seen.contains x = q at *
 have hv' : plainElem (H := Unit) Try.prog 4 v = some (.lit (.bool q), ps) := by rw [← h4']; exact hv
 have e := plain_bool hv'
 subst e
 exact hrun
theorem lit_ne {x y : Int} (h : x ≠ y) : Lit.int .i64 x ≠ Lit.int .i64 y := fun e => by cases e; exact h rfl
theorem Seen.put {w : World} {b : Nat} {seen : List Int} (h : Seen w b seen) (hl : seen.length ≤ 1000) {x : Int} (hx : (Lit.int .i64 x).wf = true) :
 ∃ w', (Instr.mapUpdate 74 (.map (some b)) (.int .i64 x) (.bool true)).run Try.prog w = .ok () w' ∧ Seen w' b (seen ++ [x]) ∧ w.grownBy w' (some b) := by
 obtain ⟨n, D, h1, h2, h3, h4⟩ := h
 obtain ⟨w', hrun, hown, hg⟩ := h1.update keyed3 Try.underlying74 (by unfold maxLen; omega) (Maps.keyOf_int_mk Try.underlying3 hx) (plainElem_bool Try.underlying4 true)
 refine ⟨w', hrun, ⟨n + 1, _, hown, by simp; omega, ?_, fun y hy => ?_⟩, hg⟩
 ·obtain ⟨es, rfl⟩ := h3
  exact ⟨_, rfl⟩
 by_cases e : y = x
 rotate_left
 ·rw [Maps.atKey_put_other (lit_ne e), h4 y hy]
  congr 2
  rw [Bool.eq_iff_iff]
  simp [e]
 subst e
 rw [Maps.atKey_put_same h3 (by first | trivial | exact ⟨_, _, rfl⟩ | simp [WideAt.IsKeyLit])]
 simp
end Go.Proofs.Ytlplaidcdocbmaa.Srt
