-- Cut by pack.py, a program of this session; not trusted: Lean checks it.
import Derived.Test.YtlplaidcdocbmaaZM1
/- match.Assign computes the function match_Assign.f: a walk, turned from the print of a like text. -/
namespace Go.Proofs.Ytlplaidcdocbmaa.Mat
open Go.RowKit Go.Proofs.YtlplaidcdocbmaaW.PrintWords Go.Proofs.YtlplaidcdocbmaaW.PrintLast Go.Proofs.YtlplaidcdocbmaaW.PrintMore
attribute [local go_sem] max2_int min2_int max_two min_two max_three min_three max_four min_four   -- for this text's walks alone
set_option linter.unusedVariables false
set_option linter.unusedSimpArgs false

def errW : Option Int → Value
 | none => .nilIface
 | some c => .iface 0 (.int .i64 c)
theorem errW_none : errW none = .nilIface := rfl
theorem errW_some (c : Int) : errW (some c) = .iface 0 (.int .i64 c) := rfl

theorem info3 : (Try.prog.info? 3).map (fun i => (i.zero, i.size, i.bytes)) = some (some (.int .i64 0), 1, 8) := by kernel_rfl
theorem info24 : (Try.prog.info? 24).map (fun i => (i.zero, i.size, i.bytes)) = some (some (.slice none 0 0), 1, 24) := by kernel_rfl
-- the values' own types
def rd_L1 (xs : List (List Int)) (i : Int) : (List Int) := xs.getD i.toNat ([] : List Int)
theorem at_L1 {w : World} {A : Option Addr} {n : Nat} {xs : List (List Int)} (h : Kd.C (Kd.slice 3 (Kd.int .i64)) w A n xs) (i : Int) (h0 : 0 ≤ i) (h1 : i < n) : ∃ ad A0 c0, A = some ad ∧ w.cell? (ad.add i.toNat) = some (.slice A0 (rd_L1 xs i).length c0) ∧ (rd_L1 xs i).length ≤ c0 ∧ (Kd.int .i64).C w A0 (rd_L1 xs i).length (rd_L1 xs i) := by
 obtain ⟨ad, c, e, _, hK, hc0⟩ := Kd.C_get h ([] : List Int) i h0 h1
 have hc : ∀ j u, c[j]? = some u → w.cell? (ad.add (i.toNat * 1 + j)) = some u := hc0
 obtain ⟨A0, c0, rfl, l0, g0⟩ := hK
 exact ⟨ad, A0, c0, e, by have hq := hc 0 _ rfl; rwa [Nat.mul_one, Nat.add_zero] at hq, l0, g0⟩


theorem cells_one {v : Value} (h : v.cells.toList = [v]) : v.cells = #[v] := by
 cases hc : v.cells with
 | mk l => rw [hc] at h; simp only at h; rw [h]

theorem run_store_letter {P : Program} {w : World} {ρ : Operand → Value} {o : Oper} {t : TypeId} {p x : Operand} {ad : Addr} {v u : Value} {z : Option Value} {b : Nat} (ho : o.op = .store t p x) (hp : ρ p = .pointer (some ad)) (hx : ρ x = v)
 (hi : (P.info? t).map (fun i => (i.zero, i.size, i.bytes)) = some (z, 1, b)) (hc1 : v.cells = #[v]) (h1 : v.oneCell' = true) (hc : w.cell? ad = some u) (hf : w.frozen? ad = false) : (execOp ρ o).run P w = .ok .skip (w.setCell ad v) := by
 obtain ⟨i0, hi0, hzz⟩ := Option.map_eq_some_iff.1 hi
 simp only [Prod.mk.injEq] at hzz
 have hst := run_store P w ad v .plain h1
 rw [hc] at hst
 simp only [hf] at hst
 have hst' : (store ad v).run P w = .ok () (w.setCell ad v) := by simpa using hst
 simp [execOp, ho, hp, hx, Instr.storeAt, Instr.sureAddr, storeVar, sizeOf, typeInfo, hi0, hzz.2.1, hc1, storeCells, Addr.add, hst']

def match_right.f (l0 : List (List Int)) : Option (Bool) := some (right l0)
section
variable {P : Program} {ops : Array Oper} {Q : Exit → Act → World → Prop} {o : Oper} {rest : List Oper} {a : Act}
end

/-! ### match_Assign: function 103 -/
mutual
def match_Assign.l0 : Nat → List (List Int) → Int → List (List Int) → Int → Option (List Int × Int × Bool)
 | 0, _, _, _, _ => none
 | k + 1, x0, x6, x7, x8 => if x8 ≥ 0 then (if 0 ≤ x6 then (if 0 ≤ (shl .i64 1 x6) then (if (shl .i64 1 x6 : Int).toNat ≤ 35184372088832 then (if 0 ≤ x8 then (if x8 < (x7.length : Int) then ((some (x7.set (x8 : Int).toNat (List.replicate (shl .i64 1 x6 : Int).toNat 0) : List (List Int))).bind fun y116 => (match_Assign.l1 k x0 x6 y116 x8 ((rd_L1 y116 x8).length : Int) 0)) else (none)) else (none)) else (none)) else (none)) else (none)) else (match_Assign.l3 k ([] : List Int) x7 0 x0 (x0.length : Int) 0)
def match_Assign.l1 : Nat → List (List Int) → Int → List (List Int) → Int → Int → Int → Option (List Int × Int × Bool)
 | 0, _, _, _, _, _, _ => none
 | k + 1, x0, x6, x7, x8, x53, x54 => if x54 < x53 then (if 0 ≤ x8 then (if x8 < (x7.length : Int) then (if 0 ≤ x54 then (if x54 < ((rd_L1 x7 x8).length : Int) then (if x8 < (x0.length : Int) then (match_Assign.l2 k x0 x6 (x7.set (x8 : Int).toNat ((rd_L1 x7 x8).set (x54 : Int).toNat 1099511627776)) x8 x54 x53 x54 (rd_L1 x0 x8) ((rd_L1 x0 x8).length : Int) 0) else (none)) else (none)) else (none)) else (none)) else (none)) else (match_Assign.l0 k x0 x6 x7 (wrap64 (x8 - 1)))
def match_Assign.l2 : Nat → List (List Int) → Int → List (List Int) → Int → Int → Int → Int → List Int → Int → Int → Option (List Int × Int × Bool)
 | 0, _, _, _, _, _, _, _, _, _, _ => none
 | k + 1, x0, x6, x7, x8, x9, x53, x54, x66, x67, x68 => if x68 < x67 then (if 0 ≤ x68 then (if x68 < (x66.length : Int) then (if (Go.bits .and .i64 (shr .i64 x9 x68) 1) = 0 then (if 0 ≤ x8 then (if x8 < (x7.length : Int) then (if 0 ≤ x9 then (if x9 < ((rd_L1 x7 x8).length : Int) then (if 0 ≤ (wrap64 (x8 + 1)) then (if (wrap64 (x8 + 1)) < (x7.length : Int) then (if 0 ≤ (Go.bits .or .i64 x9 (shl .i64 1 x68)) then (if (Go.bits .or .i64 x9 (shl .i64 1 x68)) < ((rd_L1 x7 (wrap64 (x8 + 1))).length : Int) then (match_Assign.l2 k x0 x6 (x7.set (x8 : Int).toNat ((rd_L1 x7 x8).set (x9 : Int).toNat (mn (rd (rd_L1 x7 x8) x9) (wrap64 ((rd x66 x68) + (rd (rd_L1 x7 (wrap64 (x8 + 1))) (Go.bits .or .i64 x9 (shl .i64 1 x68)))))))) x8 x9 x53 x54 x66 x67 (wrap64 (x68 + 1))) else (none)) else (none)) else (none)) else (none)) else (none)) else (none)) else (none)) else (none)) else (match_Assign.l2 k x0 x6 x7 x8 x9 x53 x54 x66 x67 (wrap64 (x68 + 1)))) else (none)) else (none)) else (match_Assign.l1 k x0 x6 x7 x8 x53 (wrap64 (x54 + 1)))
def match_Assign.l3 : Nat → List Int → List (List Int) → Int → List (List Int) → Int → Int → Option (List Int × Int × Bool)
 | 0, _, _, _, _, _, _ => none
 | k + 1, x2, x7, x12, x109, x110, x111 => if x111 < x110 then (if 0 ≤ x111 then (if x111 < (x109.length : Int) then (match_Assign.l4 k x2 x7 x12 x111 x109 x110 x111 (rd_L1 x109 x111) ((rd_L1 x109 x111).length : Int) 0) else (none)) else (none)) else (if 0 < (x7.length : Int) then (if 0 < ((rd_L1 x7 0).length : Int) then (some (x2, rd (rd_L1 x7 0) 0, true)) else (none)) else (none))
def match_Assign.l4 : Nat → List Int → List (List Int) → Int → Int → List (List Int) → Int → Int → List Int → Int → Int → Option (List Int × Int × Bool)
 | 0, _, _, _, _, _, _, _, _, _, _ => none
 | k + 1, x2, x7, x12, x13, x109, x110, x111, x116, x117, x118 => if x118 < x117 then (if 0 ≤ x118 then (if x118 < (x116.length : Int) then (if (Go.bits .and .i64 (shr .i64 x12 x118) 1) = 0 then (if 0 ≤ (wrap64 (x13 + 1)) then (if (wrap64 (x13 + 1)) < (x7.length : Int) then (if 0 ≤ (Go.bits .or .i64 x12 (shl .i64 1 x118)) then (if (Go.bits .or .i64 x12 (shl .i64 1 x118)) < ((rd_L1 x7 (wrap64 (x13 + 1))).length : Int) then (if 0 ≤ x13 then (if x13 < (x7.length : Int) then (if 0 ≤ x12 then (if x12 < ((rd_L1 x7 x13).length : Int) then (if (wrap64 ((rd x116 x118) + (rd (rd_L1 x7 (wrap64 (x13 + 1))) (Go.bits .or .i64 x12 (shl .i64 1 x118))))) = (rd (rd_L1 x7 x13) x12) then (if x2.length < 17592186044416 then (match_Assign.l3 k (x2 ++ [x118]) x7 (Go.bits .or .i64 x12 (shl .i64 1 x118)) x109 x110 (wrap64 (x111 + 1))) else (none)) else (match_Assign.l4 k x2 x7 x12 x13 x109 x110 x111 x116 x117 (wrap64 (x118 + 1)))) else (none)) else (none)) else (none)) else (none)) else (none)) else (none)) else (none)) else (none)) else (match_Assign.l4 k x2 x7 x12 x13 x109 x110 x111 x116 x117 (wrap64 (x118 + 1)))) else (none)) else (none)) else (match_Assign.l3 k x2 x7 x12 x109 x110 (wrap64 (x111 + 1)))
end
def match_Assign.f (k : Nat) (l0 : List (List Int)) : Option (List Int × Int × Bool) := (match_right.f l0).bind fun t104 => (if t104 = true then (if (l0.length : Int) = 0 then (some (([] : List Int), 0, true)) else (if 0 < (l0.length : Int) then (if 0 ≤ (wrap64 ((l0.length : Int) + 1)) then (if (wrap64 ((l0.length : Int) + 1) : Int).toNat ≤ 11728124029610 then ((some (List.replicate (wrap64 ((l0.length : Int) + 1) : Int).toNat [] : List (List Int))).bind fun y106 => (if 0 ≤ (shl .i64 1 ((rd_L1 l0 0).length : Int)) then (if (shl .i64 1 ((rd_L1 l0 0).length : Int) : Int).toNat ≤ 35184372088832 then (if 0 ≤ (l0.length : Int) then (if (l0.length : Int) < (y106.length : Int) then (match_Assign.l0 k l0 ((rd_L1 l0 0).length : Int) (y106.set ((l0.length : Int) : Int).toNat (List.replicate (shl .i64 1 ((rd_L1 l0 0).length : Int) : Int).toNat 0)) (wrap64 ((l0.length : Int) - 1))) else (none)) else (none)) else (none)) else (none))) else (none)) else (none)) else (none))) else (some (([] : List Int), 0, false)))
end Go.Proofs.Ytlplaidcdocbmaa.Mat
