-- Cut by pack.py, a program of this session; not trusted: Lean checks it.
import Derived.Test.YtlplaidcdocbmaaZPlainT
import Derived.Test.YtlplaidcdocbmaaZS10
import Derived.WalkArith
/- Facts of plans for the laws of sorts. -/
namespace Go.Proofs.Ytlplaidcdocbmaa.Srt
open Go Go.Proofs.Ytlplaidcdocbmaa.Core Go.Proofs.Ytlplaidcdocbmaa.Mat
set_option linter.unusedVariables false
set_option linter.unusedSimpArgs false
def ed0 : Ed := ⟨0, 0, false⟩
theorem getD_map {α β : Type} (f : α → β) (l : List α) (i : Nat) (x : α) (y : β) (h : i < l.length) : (l.map f).getD i y = f (l.getD i x) := by
  rw [getD_of_lt _ _ _ (by simpa using h), getD_of_lt _ _ _ h]
  simp
/-- A right plan, place by place. -/
theorem right_at_i {d : Nat} (hd : d < 5) {o : List Ed} (h : RightPlan d o) : o.length = (sets d).length ∧ (o.length = 2 ^ d) ∧ ∀ i, i < o.length → (o.getD i ed0).set = (((sets d).getD i 0 : Nat) : Int) ∧ (i = 0 → (o.getD i ed0).par = -1 ∧ (o.getD i ed0).scan = false) ∧ (i ≠ 0 → ∃ p : Nat, (o.getD i ed0).par = (p : Int) ∧ p ∈ parents ((sets d).getD i 0) d) := by
  obtain ⟨e0, r, rfl, h1, h2, h3, h4, h5, h6⟩ := h
  have hs := sets_levels d hd
  have hl : r.length = (belowS d d).length := by have := congrArg List.length h4; simpa using this
  have hl2 : (e0 :: r).length = (sets d).length := by rw [hs]; simp [hl]
  refine ⟨hl2, by rw [hl2, (sets_fin d hd).1], ?_⟩
  intro i hi
  cases i with
  | zero => exact ⟨by rw [hs]; exact h1, fun _ => ⟨h2, h3⟩, fun h => absurd rfl h⟩
  | succ i =>
    have hi' : i < r.length := by simpa using hi
    have e1 : (e0 :: r).getD (i + 1) ed0 = r[i] := by rw [getD_of_lt _ _ _ hi]; rfl
    have e2 : (sets d).getD (i + 1) 0 = (belowS d d).getD i 0 := by rw [hs]; rfl
    have e3 : (r[i]).set = (((belowS d d).getD i 0 : Nat) : Int) := by
      have := congrArg (fun l => l[i]?) h4
      simp only [List.getElem?_map, List.getElem?_eq_getElem hi', List.getElem?_eq_getElem (show i < (belowS d d).length by omega), Option.map_some, Option.some.injEq] at this
      rw [this, getD_of_lt _ _ _ (show i < (belowS d d).length by omega)]
    rw [e1, e2]
    refine ⟨e3, fun h => absurd h (by omega), fun _ => ?_⟩
    obtain ⟨p, hp, hm⟩ := h5 _ (List.getElem_mem hi')
    exact ⟨p, hp, by rw [e3] at hm; simpa using hm⟩
end Go.Proofs.Ytlplaidcdocbmaa.Srt
