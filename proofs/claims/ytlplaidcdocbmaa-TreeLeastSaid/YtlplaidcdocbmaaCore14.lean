/- A set's parents have no fewer cells. -/
import Derived.Test.YtlplaidcdocbmaaCore13
namespace Go.Proofs.Ytlplaidcdocbmaa.Core
open Go.RowKit Go.Proofs.YtlplaidcdocbmaaW.PrintWords Go.Proofs.YtlplaidcdocbmaaW.PrintMore
set_option linter.unusedVariables false
set_option linter.unusedSimpArgs false

theorem upTo_pos (cs : List Int) (hc : ∀ x ∈ cs, 1 ≤ x) (s : Nat) : ∀ i, i ≤ cs.length → 1 ≤ upTo cs s i
  | 0, _ => by rw [upTo_zero]; omega
  | i + 1, h => by
    have ih := upTo_pos cs hc s i (by omega)
    have hx : 1 ≤ cs.getD i 0 := by
      have e : cs.getD i 0 = cs[i] := by simp [show i < cs.length by omega]
      rw [e]; exact hc _ (List.getElem_mem _)
    cases hb : s.testBit i with
    | true =>
      rw [upTo_yes cs s i hb]
      calc (1 : Int) = 1 * 1 := by omega
        _ ≤ upTo cs s i * cs.getD i 0 := Int.mul_le_mul ih hx (by omega) (by omega)
    | false => rw [upTo_no cs s i hb]; exact ih
theorem upTo_mono (cs : List Int) (hc : ∀ x ∈ cs, 1 ≤ x) (s p : Nat) (hsp : ∀ j, s.testBit j = true → p.testBit j = true) : ∀ i, i ≤ cs.length → upTo cs s i ≤ upTo cs p i
  | 0, _ => by rw [upTo_zero, upTo_zero]; omega
  | i + 1, h => by
    have ih := upTo_mono cs hc s p hsp i (by omega)
    have h1 := upTo_pos cs hc s i (by omega)
    have hx : 1 ≤ cs.getD i 0 := by
      have e : cs.getD i 0 = cs[i] := by simp [show i < cs.length by omega]
      rw [e]; exact hc _ (List.getElem_mem _)
    cases hb : s.testBit i with
    | true =>
      rw [upTo_yes cs s i hb, upTo_yes cs p i (hsp i hb)]
      exact Int.mul_le_mul_of_nonneg_right ih (by omega)
    | false =>
      rw [upTo_no cs s i hb]
      cases hp : p.testBit i with
      | true =>
        rw [upTo_yes cs p i hp]
        calc upTo cs s i = upTo cs s i * 1 := by omega
          _ ≤ upTo cs p i * cs.getD i 0 := Int.mul_le_mul ih hx (by omega) (by omega)
      | false => rw [upTo_no cs p i hp]; exact ih
theorem sizeI_up (cs : List Int) (hc : ∀ x ∈ cs, 1 ≤ x) (n : Int) (s p : Nat) (hsp : p &&& s = s) : sizeI cs n s ≤ sizeI cs n p := by
  have h := upTo_mono cs hc s p (fun j hj => by
    have e : (p &&& s).testBit j = s.testBit j := by rw [hsp]
    rw [Nat.testBit_and, hj, Bool.and_true] at e
    exact e) cs.length (Nat.le_refl _)
  rw [← upTo_end, ← upTo_end]
  omega
theorem parents_mem (s d p : Nat) (h : p ∈ parents s d) : p < 2 ^ d ∧ p &&& s = s ∧ lev p = lev s + 1 := by
  obtain ⟨h1, h2⟩ := List.mem_filter.1 h
  rw [Bool.and_eq_true, beq_iff_eq, beq_iff_eq] at h2
  exact ⟨List.mem_range.1 h1, h2.1, h2.2⟩
theorem ofN_len (l : List Nat) : (ofN l).length = l.length := by simp [ofN]
theorem ofN_get (l : List Nat) (i : Nat) (h : i < l.length) : (ofN l).getD i 0 = ((l[i] : Nat) : Int) := by simp [ofN, h]
theorem parI_len (s d : Int) (hd : d ≤ 4) : (parI s d).length ≤ 16 := by
  unfold parI; rw [ofN_len]; exact parents_len _ _ (by omega)
theorem parI_get (s d : Nat) (hd : d ≤ 4) (i : Nat) (h : i < (parI (s : Int) (d : Int)).length) : ∃ p : Nat, (parI (s : Int) (d : Int)).getD i 0 = (p : Int) ∧ p < 16 ∧ p &&& s = s ∧ p ∈ parents s d := by
  unfold parI at *
  rw [ofN_len] at h
  rw [ofN_get _ _ h]
  have hm := parents_mem s d _ (List.getElem_mem h)
  have := pow16 d hd
  exact ⟨_, rfl, by have := hm.1; omega, hm.2.1, List.getElem_mem h⟩
end Go.Proofs.Ytlplaidcdocbmaa.Core
