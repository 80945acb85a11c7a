-- Cut by pack.py, a program of this session; not trusted: Lean checks it.
import Derived.Test.YtlplaidcdocbmaaZM2
import Derived.Test.YtlplaidcdocbmaaZM3
/- What match.Assign computes is the choice of Core3: its loops, one by one. -/
namespace Go.Proofs.Ytlplaidcdocbmaa.Mat
set_option maxHeartbeats 4000000
open Go.RowKit Go.Proofs.YtlplaidcdocbmaaW.PrintWords Go.Proofs.YtlplaidcdocbmaaW.PrintLast Go.Proofs.YtlplaidcdocbmaaW.PrintMore
set_option linter.unusedVariables false
set_option linter.unusedSimpArgs false

theorem rdL1_nat (Y : List (List Int)) (i : Nat) : rd_L1 Y (i : Int) = Y.getD i [] := by simp [rd_L1]
theorem rdL1_set (Y : List (List Int)) (i : Nat) (X : List Int) (h : i < Y.length) : rd_L1 (Y.set i X) (i : Int) = X := by simp [rd_L1, h]
theorem rdL1_set_ne (Y : List (List Int)) (i j : Nat) (X : List Int) (h : i ≠ j) : rd_L1 (Y.set i X) (j : Int) = rd_L1 Y (j : Int) := by
  simp [rd_L1, List.getD_eq_getElem?_getD, List.getElem?_set, h]

section
variable {x0 : List (List Int)} {x6 : Int} {res : List Int × Int × Bool}

theorem drop_cons_of (c : List (List Int)) (i : Nat) (h : i < c.length) : c.drop i = rd_L1 c (i : Int) :: c.drop (i + 1) := by
  rw [List.drop_eq_getElem_cons h, rdL1_nat]
  simp [h]

theorem good_row {m : Nat} {c : List (List Int)} (hg : Good m c) (i : Nat) (h : i < c.length) : GoodRow m (rd_L1 c (i : Int)) := by
  rw [rdL1_nat]
  have : c.getD i [] = c[i] := by simp [h]
  rw [this]
  exact hg _ (List.getElem_mem h)

end

theorem rdL_rd (c : List (List Int)) : rdL c 0 = rd_L1 c 0 := rfl

end Go.Proofs.Ytlplaidcdocbmaa.Mat
