-- Cut by pack.py, a program of this session; not trusted: Lean checks it.
import Derived.Test.YtlplaidcdocbmaaZCore12
import Derived.Test.YtlplaidcdocbmaaZV0
/- Sizes and costs of sets as plain numbers. -/
namespace Go.Proofs.Ytlplaidcdocbmaa.Core
open Go.RowKit Go.Proofs.YtlplaidcdocbmaaW.PrintWords Go.Proofs.YtlplaidcdocbmaaW.PrintMore
set_option linter.unusedVariables false
set_option linter.unusedSimpArgs false

theorem prodL_pos (cs : List Int) (hc : ∀ x ∈ cs, 1 ≤ x) : ∀ is : List Nat, (∀ i ∈ is, i < cs.length) → 1 ≤ prodL cs is.reverse
  | [], _ => by simp [prodL]
  | i :: is, h => by
    have ih := prodL_pos cs hc is (fun j hj => h j (List.mem_cons_of_mem _ hj))
    rw [List.reverse_cons, prodL_snoc]
    have hi := h i List.mem_cons_self
    have hx : 1 ≤ cs.getD i 0 := by
      have e : cs.getD i 0 = cs[i] := by simp [hi]
      rw [e]; exact hc _ (List.getElem_mem hi)
    calc (1 : Int) = 1 * 1 := by omega
      _ ≤ prodL cs is.reverse * cs.getD i 0 := Int.mul_le_mul ih hx (by omega) (by omega)
def ones (cs : List Int) (s : Int) : List Nat := (List.range cs.length).filter fun i => s.toNat.testBit i
theorem prodS_pos (cs : List Int) (hc : ∀ x ∈ cs, 1 ≤ x) (s : Int) : 1 ≤ prodL cs (ones cs s) := by
  have h := prodL_pos cs hc (ones cs s).reverse (fun i hi => by
    rw [List.mem_reverse] at hi
    exact List.mem_range.1 (List.mem_filter.1 hi).1)
  rwa [List.reverse_reverse] at h
theorem sizeI_eq (cs : List Int) (n s : Int) : sizeI cs n s = min (prodL cs (ones cs s)) n := rfl
theorem sizeI_bd (cs : List Int) (hc : ∀ x ∈ cs, 1 ≤ x) (n s : Int) (hn : 0 ≤ n) : 0 ≤ sizeI cs n s ∧ sizeI cs n s ≤ n ∧ (1 ≤ n → 1 ≤ sizeI cs n s) := by
  have h := prodS_pos cs hc s
  rw [sizeI_eq]
  omega
def sortI (z : Int) : Int := z + z * lenI z
theorem sortN : ∀ z : Nat, z < 301 → sortI z ≤ 10 * (z : Int) ∧ (z ≠ 0 → Int.tmod (sortI z) z = 0 ∧ 2 ≤ Int.tdiv (sortI z) z ∧ (z : Int) < sortI z) ∧ 0 ≤ lenI z ∧ lenI z ≤ 9 ∧ (z : Int) ≤ sortI z := by decide +kernel
theorem sort_bd {z : Int} (h0 : 0 ≤ z) (h : z ≤ 300) : 0 ≤ lenI z ∧ lenI z ≤ 9 ∧ z ≤ sortI z ∧ sortI z ≤ 10 * z := by
  obtain ⟨k, rfl⟩ := Int.eq_ofNat_of_zero_le h0
  have := sortN k (by omega)
  exact ⟨this.2.2.1, this.2.2.2.1, this.2.2.2.2, this.1⟩
theorem bit_fin : ∀ s : Nat, s < 16 → ∀ i : Nat, i < 4 → 0 ≤ IntKind.u64.wrap (i : Int) ∧ decide (Go.bits .and .i64 (shr .i64 (s : Int) (IntKind.u64.wrap (i : Int))) 1 = 1) = s.testBit i := by decide +kernel
theorem next_fin (i : Nat) (h : i ≤ 1000) : wrap64 ((i : Int) + 1) = ((i + 1 : Nat) : Int) := by unfold wrap64; omega
theorem rdn (xs : List Int) (k : Nat) : rd xs (k : Int) = xs.getD k 0 := by simp [rd]
theorem w64 (x : Int) (h0 : -9223372036854775808 ≤ x) (h : x ≤ 9223372036854775807) : wrap64 x = x := by unfold wrap64; omega
end Go.Proofs.Ytlplaidcdocbmaa.Core
