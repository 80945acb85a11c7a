-- Cut and merged by pack.py, a program of this session; not trusted: Lean checks it.
import Derived.Test.YtlplaidcdocbmaaZG1
import Derived.Test.YtlplaidcdocbmaaZG3
import Derived.Test.YtlplaidcdocbmaaZG4
import Derived.WalkArith
section
namespace Go.Proofs.Ytlplaidcdocbmaa.Core
open Go.RowKit Go.Proofs.YtlplaidcdocbmaaW.PrintWords Go.Proofs.YtlplaidcdocbmaaW.PrintMore
set_option linter.unusedVariables false
set_option linter.unusedSimpArgs false
theorem ofN_len (l : List Nat) : (ofN l).length = l.length := by simp [ofN]
end Go.Proofs.Ytlplaidcdocbmaa.Core
end
section
namespace Go.Proofs.Ytlplaidcdocbmaa.Srt
open Go Go.Proofs.Ytlplaidcdocbmaa.Core Go.Proofs.Ytlplaidcdocbmaa.Mat
set_option linter.unusedVariables false
set_option linter.unusedSimpArgs false
def ed0 : Ed := ⟨0, 0, false⟩
theorem right_at_i {d : Nat} (hd : d < 5) {o : List Ed} (h : RightPlan d o) : o.length = (sets d).length ∧ (o.length = 2 ^ d) ∧ ∀ i, i < o.length → (o.getD i ed0).set = (((sets d).getD i 0 : Nat) : Int) ∧ (i = 0 → (o.getD i ed0).par = -1 ∧ (o.getD i ed0).scan = false) ∧ (i ≠ 0 → ∃ p : Nat, (o.getD i ed0).par = (p : Int) ∧ p ∈ parents ((sets d).getD i 0) d) := by
  obtain ⟨e0, r, rfl, h1, h2, h3, h4, h5, h6⟩ := h
  have hs := sets_levels d hd
  have hl : r.length = (belowS d d).length := by have := congrArg List.length h4; simpa using this
  have hl2 : (e0 :: r).length = (sets d).length := by rw [hs]; simp [hl]
  refine ⟨hl2, by rw [hl2, (sets_fin d hd).1], ?_⟩
  intro i hi
  cases i with
  | zero => exact ⟨by rw [hs]; exact h1, fun _ => ⟨h2, h3⟩, fun h => absurd rfl h⟩
  | succ i =>
    have hi' : i < r.length := by simpa using hi
    have e1 : (e0 :: r).getD (i + 1) ed0 = r[i] := by rw [getD_of_lt _ _ _ hi]; rfl
    have e2 : (sets d).getD (i + 1) 0 = (belowS d d).getD i 0 := by rw [hs]; rfl
    have e3 : (r[i]).set = (((belowS d d).getD i 0 : Nat) : Int) := by
      have := congrArg (fun l => l[i]?) h4
      simp only [List.getElem?_map, List.getElem?_eq_getElem hi', List.getElem?_eq_getElem (show i < (belowS d d).length by omega), Option.map_some, Option.some.injEq] at this
      rw [this, getD_of_lt _ _ _ (show i < (belowS d d).length by omega)]
    rw [e1, e2]
    refine ⟨e3, fun h => absurd h (by omega), fun _ => ?_⟩
    obtain ⟨p, hp, hm⟩ := h5 _ (List.getElem_mem hi')
    exact ⟨p, hp, by rw [e3] at hm; simpa using hm⟩
theorem par_small {d s p : Nat} (hd : d < 5) (hs : s < 2 ^ d) (hp : p ∈ parents s d) : p < 16 := by
  have key : ∀ d : Nat, d < 5 → ∀ s : Nat, s < 2 ^ d → ∀ p ∈ parents s d, p < 16 := by decide +kernel
  exact key d hd s hs p hp
theorem right_okW {d : Nat} (hd : d < 5) {o : List Ed} (h : RightPlan d o) : okW o = true ∧ okC o = true := by
  obtain ⟨h1, h2, h3⟩ := right_at_i hd h
  have hall : ∀ e ∈ o, -1 ≤ e.par ∧ e.par < 16 := by
    intro e he
    obtain ⟨i, hi, rfl⟩ := List.mem_iff_getElem.1 he
    obtain ⟨a, b, c⟩ := h3 i hi
    rw [getD_of_lt _ _ _ hi] at a b c
    by_cases h0 : i = 0
    · have := (b h0).1; omega
    · obtain ⟨p, hp, hm⟩ := c h0
      have := par_small hd ((sets_fin d hd).2 i (by omega)).1 hm
      omega
  constructor
  · unfold okW
    rw [List.all_eq_true]
    intro e he
    have := hall e he
    exact WalkArith.wf_i64 (by omega)
  · unfold okC
    rw [Bool.and_eq_true, decide_eq_true_eq, List.all_eq_true]
    refine ⟨by have := (sets_fin d hd).1; have : 2 ^ d ≤ 16 := Nat.pow_le_pow_right (by omega) (show d ≤ 4 by omega); omega, fun e he => ?_⟩
    have := hall e he
    exact decide_eq_true (by omega)
end Go.Proofs.Ytlplaidcdocbmaa.Srt
end
section
namespace Go.Proofs.Ytlplaidcdocbmaa.Srt
open Go Go.Proofs.Ytlplaidcdocbmaa.Core Go.Proofs.Ytlplaidcdocbmaa.Mat
set_option linter.unusedVariables false
set_option linter.unusedSimpArgs false
theorem right_pars {d : Nat} (hd : d < 5) {o : List Ed} (h : RightPlan d o) : ∀ e ∈ o, e.par < 0 ∨ ∃ p : Nat, e.par = (p : Int) ∧ p < 16 := by
  obtain ⟨h1, h2, h3⟩ := right_at_i hd h
  intro e he
  obtain ⟨i, hi, rfl⟩ := List.mem_iff_getElem.1 he
  obtain ⟨a, b, c⟩ := h3 i hi
  rw [getD_of_lt _ _ _ hi] at a b c
  by_cases h0 : i = 0
  · left; have := (b h0).1; omega
  · obtain ⟨p, hp, hm⟩ := c h0
    exact .inr ⟨p, hp, par_small hd ((sets_fin d hd).2 i (by omega)).1 hm⟩
theorem lev_le : ∀ d : Nat, d < 5 → ∀ s : Nat, s < 2 ^ d → lev s ≤ d := by decide +kernel
end Go.Proofs.Ytlplaidcdocbmaa.Srt
end
