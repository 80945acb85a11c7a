-- Cut by pack.py, a program of this session; not trusted: Lean checks it.
import Derived.Test.YtlplaidcdocbmaaZPlainU
/- How many of each level are scanned. -/
namespace Go.Proofs.Ytlplaidcdocbmaa.Srt
open Go Go.Proofs.Ytlplaidcdocbmaa.Core Go.Proofs.Ytlplaidcdocbmaa.Mat
set_option linter.unusedVariables false
set_option linter.unusedSimpArgs false
theorem right_pars {d : Nat} (hd : d < 5) {o : List Ed} (h : RightPlan d o) : ∀ e ∈ o, e.par < 0 ∨ ∃ p : Nat, e.par = (p : Int) ∧ p < 16 := by
  obtain ⟨h1, h2, h3⟩ := right_at_i hd h
  intro e he
  obtain ⟨i, hi, rfl⟩ := List.mem_iff_getElem.1 he
  obtain ⟨a, b, c⟩ := h3 i hi
  rw [getD_of_lt _ _ _ hi] at a b c
  by_cases h0 : i = 0
  · left; have := (b h0).1; omega
  · obtain ⟨p, hp, hm⟩ := c h0
    exact .inr ⟨p, hp, par_small hd ((sets_fin d hd).2 i (by omega)).1 hm⟩
theorem lev_le : ∀ d : Nat, d < 5 → ∀ s : Nat, s < 2 ^ d → lev s ≤ d := by decide +kernel
end Go.Proofs.Ytlplaidcdocbmaa.Srt
