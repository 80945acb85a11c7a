-- Cut by pack.py, a program of this session; not trusted: Lean checks it.
import Derived.Test.YtgnkpahnhhmceaaZCore1
/- match.Assign computes the function match_Assign.f: a walk, turned from the print of a like text. -/
namespace Go.Proofs.Ytgnkpahnhhmceaa.Core
open Go.RowKit Go.Proofs.YtgnkpahnhhmceaaW.PrintWords Go.Proofs.YtgnkpahnhhmceaaW.PrintLast Go.Proofs.YtgnkpahnhhmceaaW.PrintMore
attribute [local go_sem] max2_int min2_int max_two min_two max_three min_three max_four min_four   -- for this text's walks alone
set_option linter.unusedVariables false
set_option linter.unusedSimpArgs false

def errW : Option Int → Value
  | none => .nilIface
  | some c => .iface 0 (.int .i64 c)
theorem errW_none : errW none = .nilIface := rfl
theorem errW_some (c : Int) : errW (some c) = .iface 0 (.int .i64 c) := rfl

theorem info3 : (Try.prog.info? 3).map (fun i => (i.zero, i.size, i.bytes)) = some (some (.int .i64 0), 1, 8) := by kernel_rfl
theorem info22 : (Try.prog.info? 22).map (fun i => (i.zero, i.size, i.bytes)) = some (some (.slice none 0 0), 1, 24) := by kernel_rfl
-- the values' own types
def rd_L1 (xs : List (List Int)) (i : Int) : (List Int) := xs.getD i.toNat ([] : List Int)
theorem at_L1 {w : World} {A : Option Addr} {n : Nat} {xs : List (List Int)} (h : Kd.C (Kd.slice 3 (Kd.int .i64)) w A n xs) (i : Int) (h0 : 0 ≤ i) (h1 : i < n) : ∃ ad A0 c0, A = some ad ∧ w.cell? (ad.add i.toNat) = some (.slice A0 (rd_L1 xs i).length c0) ∧ (rd_L1 xs i).length ≤ c0 ∧ (Kd.int .i64).C w A0 (rd_L1 xs i).length (rd_L1 xs i) := by
  obtain ⟨ad, c, e, _, hK, hc0⟩ := Kd.C_get h ([] : List Int) i h0 h1
  have hc : ∀ j u, c[j]? = some u → w.cell? (ad.add (i.toNat * 1 + j)) = some u := hc0
  obtain ⟨A0, c0, rfl, l0, g0⟩ := hK
  exact ⟨ad, A0, c0, e, by have hq := hc 0 _ rfl; rwa [Nat.mul_one, Nat.add_zero] at hq, l0, g0⟩


theorem cells_one {v : Value} (h : v.cells.toList = [v]) : v.cells = #[v] := by
  cases hc : v.cells with
  | mk l => rw [hc] at h; simp only at h; rw [h]

theorem run_store_letter {P : Program} {w : World} {ρ : Operand → Value} {o : Oper} {t : TypeId} {p x : Operand} {ad : Addr} {v u : Value} {z : Option Value} {b : Nat} (ho : o.op = .store t p x) (hp : ρ p = .pointer (some ad)) (hx : ρ x = v)
    (hi : (P.info? t).map (fun i => (i.zero, i.size, i.bytes)) = some (z, 1, b)) (hc1 : v.cells = #[v]) (h1 : v.oneCell' = true) (hc : w.cell? ad = some u) (hf : w.frozen? ad = false) : (execOp ρ o).run P w = .ok .skip (w.setCell ad v) := by
  obtain ⟨i0, hi0, hzz⟩ := Option.map_eq_some_iff.1 hi
  simp only [Prod.mk.injEq] at hzz
  have hst := run_store P w ad v .plain h1
  rw [hc] at hst
  simp only [hf] at hst
  have hst' : (store ad v).run P w = .ok () (w.setCell ad v) := by simpa using hst
  simp [execOp, ho, hp, hx, Instr.storeAt, Instr.sureAddr, storeVar, sizeOf, typeInfo, hi0, hzz.2.1, hc1, storeCells, Addr.add, hst']

def match_right.f (l0 : List (List Int)) : Option (Bool) := some (right l0)
theorem right_len {l0 : List (List Int)} (h : match_right.f l0 = some true) : l0.length ≤ 12 := by
  have h1 : right l0 = true := Option.some.inj h
  unfold right at h1
  exact of_decide_eq_true (by revert h1; cases decide (l0.length ≤ 12) <;> simp)

theorem match_right.calls (A0 : Option Addr) (c0 : Nat) (l0 : List (List Int)) (r : Bool) (w : World) (hr0 : Kd.C (Kd.slice 3 (Kd.int .i64)) w A0 l0.length l0) (hc0 : l0.length ≤ c0) (h : match_right.f l0 = some r) :
    Calls Try.prog 20 #[.slice A0 l0.length c0] w fun e w' => e = .returned (.bool r) ∧ Below w.heap.size w w' := by
  obtain rfl : right l0 = r := Option.some.inj h
  exact right_calls A0 c0 l0 w hr0

section
variable {P : Program} {ops : Array Oper} {Q : Exit → Act → World → Prop} {o : Oper} {rest : List Oper} {a : Act}
/-- make of no elements, with a capacity. -/
theorem R_make0 {α : Type} (d : Kd α) {w0 W : World} (base e : Nat) (hgd : o.guard = none) (t : TypeId) (x y : Operand) (ho : o.op = .makeSlice t x y) (n : Int) (hx : a.eval x = .int .i64 0) (hy : a.eval y = .int .i64 n)
    (ht : P.underlying t = some (.slice e)) (z : Value) (bytes : Nat) (hinfo : (P.info? e).map (fun i => (i.zero, i.size, i.bytes)) = some (some z, d.sz, bytes)) (hb0 : 0 < bytes)
    {ok : Nat → Prop} (hfresh : ok W.heap.size) (h0 : 0 ≤ n) (hl : n.toNat * bytes ≤ 281474976710656) (HB : Below base w0 W) (hbase : base ≤ W.heap.size)
    (h : ∀ v1 w1, d.R e w1 base ok v1 [] → Below base w0 w1 → W.grownBy w1 none → (∃ b, v1.ownBlock = some b ∧ W.heap.size ≤ b) → wpList P ops Q rest (a.put o.dst v1) w1) : wpList P ops Q (o :: rest) a W := by
  obtain ⟨m, rfl⟩ := Int.eq_ofNat_of_zero_le h0
  simp only [Int.toNat_natCast] at hl h
  obtain ⟨i0, hi, hzz⟩ := Option.map_eq_some_iff.1 hinfo
  simp only [Prod.mk.injEq] at hzz
  obtain ⟨hz0, hz1, hz2⟩ := hzz
  have hm : m ≤ 281474976710656 := Nat.le_trans (Nat.le_mul_of_pos_right _ hb0) hl
  have hr := run_make (P := P) W t e i0 z ht hi hz0 .i64 .i64 0 (m : Int) (by omega) (by omega)
    (by
      have h3 : ((i0.bytes * m : Nat) : Int) ≤ 281474976710656 := by rw [hz2, Nat.mul_comm]; omega
      rwa [Int.natCast_mul] at h3) (by omega)
  simp only [Int.toNat_natCast] at hr
  have hrun : (execOp a.eval o).run P W = .ok (.value (.slice (some ⟨W.heap.size, 0, none⟩) 0 m)) (W.alloc (.cells (madeCells z.cells (m * i0.size)) e)) := by
    simp [execOp, ho, hx, hy, hr]
  have hown := World.ownsRow_made (base := base) (e := e) (size := d.sz) W (madeCells z.cells (m * i0.size)) m hbase (by simp [maxLen]; omega) (by rw [size_madeCells, hz1])
  refine Kd.event_run hgd hrun (h _ _ ⟨fun k hk => ?_, [], hown, by simp, fun j p hj => by simp at hj⟩ (HB.alloc hbase _) (World.grownBy_alloc W _ none) ⟨W.heap.size, by simp [Value.ownBlock], Nat.le_refl _⟩)
  have : W.heap.size = k := by simpa [Value.ownBlock] using hk
  subst this
  exact hfresh
end

/-! ### match_Assign: function 15 -/
mutual
def match_Assign.l0 : Nat → List (List Int) → Int → List (List Int) → Int → Option (List Int × Int × Bool)
  | 0, _, _, _, _ => none
  | k + 1, x0, x6, x7, x8 => if x8 ≥ 0 then (if 0 ≤ x6 then (if 0 ≤ (shl .i64 1 x6) then (if (shl .i64 1 x6 : Int).toNat ≤ 35184372088832 then (if 0 ≤ x8 then (if x8 < (x7.length : Int) then ((some (x7.set (x8 : Int).toNat (List.replicate (shl .i64 1 x6 : Int).toNat 0) : List (List Int))).bind fun y116 => (match_Assign.l1 k x0 x6 y116 x8 ((rd_L1 y116 x8).length : Int) 0)) else (none)) else (none)) else (none)) else (none)) else (none)) else (match_Assign.l3 k ([] : List Int) x7 0 x0 (x0.length : Int) 0)
def match_Assign.l1 : Nat → List (List Int) → Int → List (List Int) → Int → Int → Int → Option (List Int × Int × Bool)
  | 0, _, _, _, _, _, _ => none
  | k + 1, x0, x6, x7, x8, x53, x54 => if x54 < x53 then (if 0 ≤ x8 then (if x8 < (x7.length : Int) then (if 0 ≤ x54 then (if x54 < ((rd_L1 x7 x8).length : Int) then (if x8 < (x0.length : Int) then (match_Assign.l2 k x0 x6 (x7.set (x8 : Int).toNat ((rd_L1 x7 x8).set (x54 : Int).toNat 1099511627776)) x8 x54 x53 x54 (rd_L1 x0 x8) ((rd_L1 x0 x8).length : Int) 0) else (none)) else (none)) else (none)) else (none)) else (none)) else (match_Assign.l0 k x0 x6 x7 (wrap64 (x8 - 1)))
def match_Assign.l2 : Nat → List (List Int) → Int → List (List Int) → Int → Int → Int → Int → List Int → Int → Int → Option (List Int × Int × Bool)
  | 0, _, _, _, _, _, _, _, _, _, _ => none
  | k + 1, x0, x6, x7, x8, x9, x53, x54, x66, x67, x68 => if x68 < x67 then (if 0 ≤ x68 then (if x68 < (x66.length : Int) then (if (Go.bits .and .i64 (shr .i64 x9 x68) 1) = 0 then (if 0 ≤ x8 then (if x8 < (x7.length : Int) then (if 0 ≤ x9 then (if x9 < ((rd_L1 x7 x8).length : Int) then (if 0 ≤ (wrap64 (x8 + 1)) then (if (wrap64 (x8 + 1)) < (x7.length : Int) then (if 0 ≤ (Go.bits .or .i64 x9 (shl .i64 1 x68)) then (if (Go.bits .or .i64 x9 (shl .i64 1 x68)) < ((rd_L1 x7 (wrap64 (x8 + 1))).length : Int) then (match_Assign.l2 k x0 x6 (x7.set (x8 : Int).toNat ((rd_L1 x7 x8).set (x9 : Int).toNat (mn (rd (rd_L1 x7 x8) x9) (wrap64 ((rd x66 x68) + (rd (rd_L1 x7 (wrap64 (x8 + 1))) (Go.bits .or .i64 x9 (shl .i64 1 x68)))))))) x8 x9 x53 x54 x66 x67 (wrap64 (x68 + 1))) else (none)) else (none)) else (none)) else (none)) else (none)) else (none)) else (none)) else (none)) else (match_Assign.l2 k x0 x6 x7 x8 x9 x53 x54 x66 x67 (wrap64 (x68 + 1)))) else (none)) else (none)) else (match_Assign.l1 k x0 x6 x7 x8 x53 (wrap64 (x54 + 1)))
def match_Assign.l3 : Nat → List Int → List (List Int) → Int → List (List Int) → Int → Int → Option (List Int × Int × Bool)
  | 0, _, _, _, _, _, _ => none
  | k + 1, x2, x7, x12, x109, x110, x111 => if x111 < x110 then (if 0 ≤ x111 then (if x111 < (x109.length : Int) then (match_Assign.l4 k x2 x7 x12 x111 x109 x110 x111 (rd_L1 x109 x111) ((rd_L1 x109 x111).length : Int) 0) else (none)) else (none)) else (if 0 < (x7.length : Int) then (if 0 < ((rd_L1 x7 0).length : Int) then (some (x2, rd (rd_L1 x7 0) 0, true)) else (none)) else (none))
def match_Assign.l4 : Nat → List Int → List (List Int) → Int → Int → List (List Int) → Int → Int → List Int → Int → Int → Option (List Int × Int × Bool)
  | 0, _, _, _, _, _, _, _, _, _, _ => none
  | k + 1, x2, x7, x12, x13, x109, x110, x111, x116, x117, x118 => if x118 < x117 then (if 0 ≤ x118 then (if x118 < (x116.length : Int) then (if (Go.bits .and .i64 (shr .i64 x12 x118) 1) = 0 then (if 0 ≤ (wrap64 (x13 + 1)) then (if (wrap64 (x13 + 1)) < (x7.length : Int) then (if 0 ≤ (Go.bits .or .i64 x12 (shl .i64 1 x118)) then (if (Go.bits .or .i64 x12 (shl .i64 1 x118)) < ((rd_L1 x7 (wrap64 (x13 + 1))).length : Int) then (if 0 ≤ x13 then (if x13 < (x7.length : Int) then (if 0 ≤ x12 then (if x12 < ((rd_L1 x7 x13).length : Int) then (if (wrap64 ((rd x116 x118) + (rd (rd_L1 x7 (wrap64 (x13 + 1))) (Go.bits .or .i64 x12 (shl .i64 1 x118))))) = (rd (rd_L1 x7 x13) x12) then (if x2.length < 17592186044416 then (match_Assign.l3 k (x2 ++ [x118]) x7 (Go.bits .or .i64 x12 (shl .i64 1 x118)) x109 x110 (wrap64 (x111 + 1))) else (none)) else (match_Assign.l4 k x2 x7 x12 x13 x109 x110 x111 x116 x117 (wrap64 (x118 + 1)))) else (none)) else (none)) else (none)) else (none)) else (none)) else (none)) else (none)) else (none)) else (match_Assign.l4 k x2 x7 x12 x13 x109 x110 x111 x116 x117 (wrap64 (x118 + 1)))) else (none)) else (none)) else (match_Assign.l3 k x2 x7 x12 x109 x110 (wrap64 (x111 + 1)))
end
def match_Assign.f (k : Nat) (l0 : List (List Int)) : Option (List Int × Int × Bool) := (match_right.f l0).bind fun t104 => (if t104 = true then (if (l0.length : Int) = 0 then (some (([] : List Int), 0, true)) else (if 0 < (l0.length : Int) then (if 0 ≤ (wrap64 ((l0.length : Int) + 1)) then (if (wrap64 ((l0.length : Int) + 1) : Int).toNat ≤ 11728124029610 then ((some (List.replicate (wrap64 ((l0.length : Int) + 1) : Int).toNat [] : List (List Int))).bind fun y106 => (if 0 ≤ (shl .i64 1 ((rd_L1 l0 0).length : Int)) then (if (shl .i64 1 ((rd_L1 l0 0).length : Int) : Int).toNat ≤ 35184372088832 then (if 0 ≤ (l0.length : Int) then (if (l0.length : Int) < (y106.length : Int) then (match_Assign.l0 k l0 ((rd_L1 l0 0).length : Int) (y106.set ((l0.length : Int) : Int).toNat (List.replicate (shl .i64 1 ((rd_L1 l0 0).length : Int) : Int).toNat 0)) (wrap64 ((l0.length : Int) - 1))) else (none)) else (none)) else (none)) else (none))) else (none)) else (none)) else (none))) else (some (([] : List Int), 0, false)))
def match_Assign.T21 : Bool × List (List Nat × List Nat) := (true, [([], []), ([], []), ([0, 1], [0, 1]), ([2], [2]), ([], []), ([], []), ([], []), ([5, 6], [5, 6]), ([7], [7]), ([], []), ([8, 9], [8, 9]), ([10], [10]), ([], []), ([], []), ([], []), ([14], [14]), ([13, 15], [13, 15]), ([16], [16]), ([], []), ([], []), ([19], [19]), ([18, 20], [18, 20]), ([17, 21], [17, 21]), ([22], [22]), ([12, 23], [12, 23]), ([11, 24], [11, 24]), ([3, 4, 0, 1, 2, 3, 4, 5, 6, 7, 8, 9, 10, 11, 12, 13, 14, 15, 16, 17, 18, 19, 20, 21, 22, 23, 24, 25], [3, 4]), ([26, 25, 0, 1, 2, 3, 4, 5, 6, 7, 8, 9, 10, 11, 12, 13, 14, 15, 16, 17, 18, 19, 20, 21, 22, 23, 24, 25], [25, 26])])
def match_Assign.B21 : List Nat := [0, 0, 3, 7, 0, 0, 0, 96, 224, 0, 992, 2016, 0, 0, 0, 16384, 57344, 122880, 0, 0, 524288, 1835008, 4186112, 8380416, 16773120, 33554400, 67108863, 134217727]
theorem match_Assign.tab21 : rtab .any (opsOf Try.f15 21) = match_Assign.T21 := by kernel_rfl
theorem match_Assign.bits21 : waitsOk match_Assign.T21.2 match_Assign.B21 = true := by kernel_rfl
def match_Assign.T32 : Bool × List (List Nat × List Nat) := (true, [([], []), ([], []), ([0, 1], [0, 1]), ([2], [2]), ([3], [3]), ([4], [4]), ([5], [5]), ([5], [5]), ([5], [5]), ([8, 5], [5, 8]), ([7, 9, 5], [5, 7, 9]), ([10, 5], [5, 10]), ([5], [5]), ([5], [5]), ([13, 5], [5, 13]), ([12, 14, 5], [5, 12, 14]), ([11, 15, 5], [5, 11, 15]), ([16, 5], [5, 16]), ([6, 17, 5], [5, 6, 17]), ([5], [5]), ([5], [5]), ([19, 20, 5], [5, 19, 20]), ([21, 5], [5, 21]), ([5], [5]), ([22, 23, 5], [5, 22, 23]), ([24, 5], [5, 24]), ([18, 25, 5], [5, 18, 25]), ([5, 26], [5, 26])])
def match_Assign.B32 : List Nat := [0, 0, 3, 7, 15, 31, 63, 63, 63, 319, 959, 1983, 63, 63, 8255, 28735, 65471, 131007, 262143, 63, 63, 1572927, 3670079, 63, 16252991, 33030207, 67108863, 134217727]
theorem match_Assign.tab32 : rtab .any (opsOf Try.f15 32) = match_Assign.T32 := by kernel_rfl
theorem match_Assign.bits32 : waitsOk match_Assign.T32.2 match_Assign.B32 = true := by kernel_rfl
def match_Assign.T33 : Bool × List (List Nat × List Nat) := (true, [([], []), ([], []), ([1], [1]), ([0, 2], [0, 2]), ([], []), ([], []), ([5], [5]), ([4, 6], [4, 6]), ([3, 3, 0, 1, 2, 3], [0, 3]), ([7, 8, 0, 1, 2, 3, 4, 5, 6, 7, 8], [4, 7])])
def match_Assign.B33 : List Nat := [0, 0, 2, 7, 0, 0, 32, 112, 15, 511]
theorem match_Assign.tab33 : rtab .any (opsOf Try.f15 33) = match_Assign.T33 := by kernel_rfl
theorem match_Assign.bits33 : waitsOk match_Assign.T33.2 match_Assign.B33 = true := by kernel_rfl
def match_Assign.T36 : Bool × List (List Nat × List Nat) := (true, [([], []), ([], []), ([1], [1]), ([2], [2]), ([3], [3]), ([4], [4]), ([0, 0], [0]), ([5, 6, 0, 1, 2, 3, 4, 5, 6], [5]), ([7, 0, 1, 2, 3, 4, 5, 6, 7], [])])
def match_Assign.B36 : List Nat := [0, 0, 2, 6, 14, 30, 1, 127, 255]
theorem match_Assign.tab36 : rtab .any (opsOf Try.f15 36) = match_Assign.T36 := by kernel_rfl
theorem match_Assign.bits36 : waitsOk match_Assign.T36.2 match_Assign.B36 = true := by kernel_rfl
set_option maxHeartbeats 8000000 in
set_option maxRecDepth 100000 in
theorem match_Assign.calls (k : Nat) (A0 : Option Addr) (c0 : Nat) (l0 : List (List Int)) (r1 : List Int) (r2 : Int) (r3 : Bool) (w : World) (hr0 : Kd.C (Kd.slice 3 (Kd.int .i64)) w A0 l0.length l0) (hc0 : l0.length ≤ c0) (h : match_Assign.f k l0 = some (r1, r2, r3)) :
  Calls Try.prog 15 #[.slice A0 l0.length c0] w fun e w' => ∃ v0_ : Value, e = .returned (.tuple #[v0_, .int .i64 r2, .bool r3]) ∧ Kd.R (Kd.int .i64) 3 w' w.heap.size (fun _ => True) v0_ r1 ∧ Below w.heap.size w w' := by
 have HR0 := Aside0.mk hr0
 have HC0 := Aside0.mk hc0
 clear hr0 hc0
 have HB := Aside0.mk (Below.refl w.heap.size w)
 have H : ((match_right.f l0).bind fun t104 => (if t104 = true then (if (l0.length : Int) = 0 then (some (([] : List Int), 0, true)) else (if 0 < (l0.length : Int) then (if 0 ≤ (wrap64 ((l0.length : Int) + 1)) then (if (wrap64 ((l0.length : Int) + 1) : Int).toNat ≤ 11728124029610 then ((some (List.replicate (wrap64 ((l0.length : Int) + 1) : Int).toNat [] : List (List Int))).bind fun y106 => (if 0 ≤ (shl .i64 1 ((rd_L1 l0 0).length : Int)) then (if (shl .i64 1 ((rd_L1 l0 0).length : Int) : Int).toNat ≤ 35184372088832 then (if 0 ≤ (l0.length : Int) then (if (l0.length : Int) < (y106.length : Int) then (match_Assign.l0 k l0 ((rd_L1 l0 0).length : Int) (y106.set ((l0.length : Int) : Int).toNat (List.replicate (shl .i64 1 ((rd_L1 l0 0).length : Int) : Int).toNat 0)) (wrap64 ((l0.length : Int) - 1))) else (none)) else (none)) else (none)) else (none))) else (none)) else (none)) else (none))) else (some (([] : List Int), 0, false)))) = some (r1, r2, r3) := h
 clear h
 replace H := Option.bind_eq_some_iff.mp H
 obtain ⟨t104, A20, H⟩ := H
 replace H : (if t104 = true then (if (l0.length : Int) = 0 then (some (([] : List Int), 0, true)) else (if 0 < (l0.length : Int) then (if 0 ≤ (wrap64 ((l0.length : Int) + 1)) then (if (wrap64 ((l0.length : Int) + 1) : Int).toNat ≤ 11728124029610 then ((some (List.replicate (wrap64 ((l0.length : Int) + 1) : Int).toNat [] : List (List Int))).bind fun y106 => (if 0 ≤ (shl .i64 1 ((rd_L1 l0 0).length : Int)) then (if (shl .i64 1 ((rd_L1 l0 0).length : Int) : Int).toNat ≤ 35184372088832 then (if 0 ≤ (l0.length : Int) then (if (l0.length : Int) < (y106.length : Int) then (match_Assign.l0 k l0 ((rd_L1 l0 0).length : Int) (y106.set ((l0.length : Int) : Int).toNat (List.replicate (shl .i64 1 ((rd_L1 l0 0).length : Int) : Int).toNat 0)) (wrap64 ((l0.length : Int) - 1))) else (none)) else (none)) else (none)) else (none))) else (none)) else (none)) else (none))) else (some (([] : List Int), 0, false))) = some (r1, r2, r3) := H
 have A2 := Aside0.mk A20
 clear A20
 by_cases c3 : t104 = true
 ·subst c3
  have H1 : (if (l0.length : Int) = 0 then (some (([] : List Int), 0, true)) else (if 0 < (l0.length : Int) then (if 0 ≤ (wrap64 ((l0.length : Int) + 1)) then (if (wrap64 ((l0.length : Int) + 1) : Int).toNat ≤ 11728124029610 then ((some (List.replicate (wrap64 ((l0.length : Int) + 1) : Int).toNat [] : List (List Int))).bind fun y106 => (if 0 ≤ (shl .i64 1 ((rd_L1 l0 0).length : Int)) then (if (shl .i64 1 ((rd_L1 l0 0).length : Int) : Int).toNat ≤ 35184372088832 then (if 0 ≤ (l0.length : Int) then (if (l0.length : Int) < (y106.length : Int) then (match_Assign.l0 k l0 ((rd_L1 l0 0).length : Int) (y106.set ((l0.length : Int) : Int).toNat (List.replicate (shl .i64 1 ((rd_L1 l0 0).length : Int) : Int).toNat 0)) (wrap64 ((l0.length : Int) - 1))) else (none)) else (none)) else (none)) else (none))) else (none)) else (none)) else (none))) = some (r1, r2, r3) := by rw [if_pos rfl] at H; exact H
  clear H
  have H := H1
  clear H1
  by_cases c4 : (l0.length : Int) = 0
  ·rw [if_pos c4] at H
   have c4b0 : ((l0.length : Int) == 0) = true := beq_iff_eq.mpr c4
   have c4b1 : ((l0.length : Int) != 0) = false := bne_eq_false_iff_eq.mpr c4
   clear c4
   simp only [Option.some.injEq, Prod.mk.injEq] at H
   obtain ⟨rfl, rfl, rfl⟩ := H
   go_enter Try.func15, Try.ntmps15
   go_wp2
   go_step3
   go_wp2_with (first | ((with_reducible refine gate_callee (f := 20) rfl ?_); refine goesL_ (some 18) rfl rfl Try.func20 (by kernel_rfl) rfl #[.slice A0 l0.length c0] rfl (by (try simp only [List.map_toArray, List.map_cons, List.map_nil]); first | done | rfl | (simp only [List.length_drop, List.length_take]; rfl)) ?_; (with_reducible refine (match_right.calls _ _ l0 true _ ?side1 ?side2 A2.out).mono ?_); (case side1 => repeat (first | exact HR0.out | (with_reducible refine Kd.C_alloc ?_ _) | (with_reducible refine Kd.C_drewN ?_ _) | (with_reducible refine Kd.C_drew ?_))); (case side2 => exact HC0.out); rintro e w5 ⟨rfl, hb⟩; refine ⟨_, rfl, ?_⟩; have n0_ := Aside0.mk (below_step (by repeat (first | (with_reducible first | exact HB.out | apply below_alloc | apply pw_below_drewN | apply below_drew1) | exact HB.out)) hb); clear HB; have HB := n0_; clear n0_; (try clear hb); (try clear hb2); (try clear hk); (try clear hi)))
   (try rw [Exit.noGoto_ret])
   go_ret3
   exact ⟨_, by first | rfl | (simp [errW_none, errW_some] <;> rfl) | (simp [*, errW_none, errW_some] <;> rfl), by first | exact Kd.R_nil _ _ _ _ _ | exact Kd.N_nil _ _ _ _ _ | exact Kd.V_nil _ _ _ _ _ | exact Kd.Q_nil _ _ _ _ _ | exact Kd.S_nil _ _ _ _ _, by repeat (first | (with_reducible first | exact HB.out | apply below_alloc | apply pw_below_drewN | apply below_drew1) | exact HB.out)⟩
  ·rw [if_neg c4] at H
   have c4b0 : ((l0.length : Int) == 0) = false := beq_eq_false_iff_ne.mpr c4
   have c4b1 : ((l0.length : Int) != 0) = true := bne_iff_ne.mpr c4
   have c4b2 : ¬ (l0 = []) := fun h_ => c4 (by rw [h_]; rfl)
   by_cases c6 : 0 < (l0.length : Int)
   ·rw [if_pos c6] at H
    have c6b0 : decide (0 < (l0.length : Int)) = true := decide_eq_true c6
    have c6b1 : decide (0 < l0.length) = true := decide_eq_true (by omega)
    clear c6
    obtain ⟨ji7, hji7⟩ : ∃ j_ : Int, (wrap64 ((l0.length : Int) + 1)) = j_ := ⟨_, rfl⟩
    replace H : (if 0 ≤ (ji7) then (if (ji7 : Int).toNat ≤ 11728124029610 then ((some (List.replicate (ji7 : Int).toNat [] : List (List Int))).bind fun y106 => (if 0 ≤ (shl .i64 1 ((rd_L1 l0 0).length : Int)) then (if (shl .i64 1 ((rd_L1 l0 0).length : Int) : Int).toNat ≤ 35184372088832 then (if 0 ≤ (l0.length : Int) then (if (l0.length : Int) < (y106.length : Int) then (match_Assign.l0 k l0 ((rd_L1 l0 0).length : Int) (y106.set ((l0.length : Int) : Int).toNat (List.replicate (shl .i64 1 ((rd_L1 l0 0).length : Int) : Int).toNat 0)) (wrap64 ((l0.length : Int) - 1))) else (none)) else (none)) else (none)) else (none))) else (none)) else (none)) = some (r1, r2, r3) := by first | (rw [hji7] at H; exact H) | (simp only [hji7] at H ⊢; exact H)
    (try rw [hji7] at A2)
    have hji7w : (IntKind.i64.wrap ((l0.length : Int) + 1)) = ji7 := (i64_w _).trans hji7
    by_cases c8 : 0 ≤ (ji7)
    ·rw [if_pos c8] at H
     have c8b0 := eq_true c8
     have c8b1 : decide (0 ≤ (ji7)) = true := decide_eq_true c8
     clear c8
     by_cases c9 : (ji7 : Int).toNat ≤ 11728124029610
     ·rw [if_pos c9] at H
      have c9b0 := eq_true c9
      have c9b1 : decide ((ji7 : Int).toNat ≤ 11728124029610) = true := decide_eq_true c9
      clear c9
      obtain ⟨y106, hy106⟩ : ∃ y_ : List (List Int), y_ = (List.replicate (ji7 : Int).toNat []) := ⟨_, rfl⟩
      replace H : (if 0 ≤ (shl .i64 1 ((rd_L1 l0 0).length : Int)) then (if (shl .i64 1 ((rd_L1 l0 0).length : Int) : Int).toNat ≤ 35184372088832 then (if 0 ≤ (l0.length : Int) then (if (l0.length : Int) < (y106.length : Int) then (match_Assign.l0 k l0 ((rd_L1 l0 0).length : Int) (y106.set ((l0.length : Int) : Int).toNat (List.replicate (shl .i64 1 ((rd_L1 l0 0).length : Int) : Int).toNat 0)) (wrap64 ((l0.length : Int) - 1))) else (none)) else (none)) else (none)) else (none)) = some (r1, r2, r3) := by first | (rw [hy106]; with_reducible exact H) | (have H2_ := (Option.bind_some _ _).symm.trans H; rw [hy106]; with_reducible exact H2_) | (have H2_ := (Option.bind_some _ _).symm.trans H; with_reducible exact H2_) | with_reducible exact H | (rw [hy106]; exact H) | exact H
      have Ny106 := Aside0.mk hy106
      clear hy106
      obtain ⟨ji10, hji10⟩ : ∃ j_ : Int, (shl .i64 1 ((rd_L1 l0 0).length : Int)) = j_ := ⟨_, rfl⟩
      replace H : (if 0 ≤ (ji10) then (if (ji10 : Int).toNat ≤ 35184372088832 then (if 0 ≤ (l0.length : Int) then (if (l0.length : Int) < (y106.length : Int) then (match_Assign.l0 k l0 ((rd_L1 l0 0).length : Int) (y106.set ((l0.length : Int) : Int).toNat (List.replicate (ji10 : Int).toNat 0)) (wrap64 ((l0.length : Int) - 1))) else (none)) else (none)) else (none)) else (none)) = some (r1, r2, r3) := by first | (rw [hji10] at H; exact H) | (simp only [hji10] at H ⊢; exact H)
      (try rw [hji10] at A2)
      have hji10_ : (IntKind.i64.wrap (1 * 2 ^ min ((rd_L1 l0 0).length : Int).toNat 64)) = ji10 := hji10
      have hji10z : ((rd_L1 l0 0).length : Int) ≤ 64 → (IntKind.i64.wrap (1 * 2 ^ ((rd_L1 l0 0).length : Int).toNat)) = ji10 := shl_small hji10
      have hji10p : (IntKind.i64.wrap (1 * 2 ^ min (rd_L1 l0 0).length 64)) = ji10 := hji10_
      have hji10q : ((rd_L1 l0 0).length : Int) ≤ 64 → (IntKind.i64.wrap (1 * 2 ^ (rd_L1 l0 0).length)) = ji10 := hji10z
      have hji10r : (IntKind.i64.wrap (2 ^ min (rd_L1 l0 0).length 64)) = ji10 := by have h_ := hji10p; rw [Int.one_mul] at h_; exact h_
      have hji10s : ((rd_L1 l0 0).length : Int) ≤ 64 → (IntKind.i64.wrap (2 ^ (rd_L1 l0 0).length)) = ji10 := fun hle_ => by have h_ := hji10q hle_; rw [Int.one_mul] at h_; exact h_
      have hji10u : (IntKind.i64.wrap (2 ^ min ((rd_L1 l0 0).length : Int).toNat 64)) = ji10 := by have h_ := hji10_; rw [Int.one_mul] at h_; exact h_
      have hji10v : ((rd_L1 l0 0).length : Int) ≤ 64 → (IntKind.i64.wrap (2 ^ ((rd_L1 l0 0).length : Int).toNat)) = ji10 := fun hle_ => by have h_ := hji10z hle_; rw [Int.one_mul] at h_; exact h_
      have hji10y : (wrap64 (1 * 2 ^ min ((rd_L1 l0 0).length : Int).toNat 64)) = ji10 := (i64_w _).symm.trans hji10_
      have hji10x : ((rd_L1 l0 0).length : Int) ≤ 64 → (wrap64 (1 * 2 ^ ((rd_L1 l0 0).length : Int).toNat)) = ji10 := fun h_ => (i64_w _).symm.trans (hji10z h_)
      by_cases c11 : 0 ≤ (ji10)
      ·rw [if_pos c11] at H
       have c11b0 := eq_true c11
       have c11b1 : decide (0 ≤ (ji10)) = true := decide_eq_true c11
       clear c11
       by_cases c12 : (ji10 : Int).toNat ≤ 35184372088832
       ·rw [if_pos c12] at H
        have c12b0 := eq_true c12
        have c12b1 : decide ((ji10 : Int).toNat ≤ 35184372088832) = true := decide_eq_true c12
        clear c12
        obtain ⟨y109, hy109⟩ : ∃ y_ : List Int, y_ = (List.replicate (ji10 : Int).toNat 0) := ⟨_, rfl⟩
        replace H : (if 0 ≤ (l0.length : Int) then (if (l0.length : Int) < (y106.length : Int) then (match_Assign.l0 k l0 ((rd_L1 l0 0).length : Int) (y106.set ((l0.length : Int) : Int).toNat y109) (wrap64 ((l0.length : Int) - 1))) else (none)) else (none)) = some (r1, r2, r3) := by first | (rw [hy109]; with_reducible exact H) | (have H2_ := (Option.bind_some _ _).symm.trans H; rw [hy109]; with_reducible exact H2_) | (have H2_ := (Option.bind_some _ _).symm.trans H; with_reducible exact H2_) | with_reducible exact H | (rw [hy109]; exact H) | exact H
        have Ny109 := Aside0.mk hy109
        clear hy109
        by_cases c13 : 0 ≤ (l0.length : Int)
        ·rw [if_pos c13] at H
         have c13b0 : decide (0 ≤ (l0.length : Int)) = true := decide_eq_true c13
         have c13b1 : decide (0 ≤ l0.length) = true := decide_eq_true (by omega)
         clear c13
         by_cases c14 : (l0.length : Int) < (y106.length : Int)
         ·rw [if_pos c14] at H
          have c14b0 : decide ((l0.length : Int) < (y106.length : Int)) = true := decide_eq_true c14
          have c14b1 : decide (l0.length < y106.length) = true := decide_eq_true (Int.ofNat_lt.mp c14)
          clear c14
          obtain ⟨y112, hy112⟩ : ∃ y_ : List (List Int), y_ = (y106.set ((l0.length : Int) : Int).toNat y109) := ⟨_, rfl⟩
          replace H : (match_Assign.l0 k l0 ((rd_L1 l0 0).length : Int) y112 (wrap64 ((l0.length : Int) - 1))) = some (r1, r2, r3) := by first | (rw [hy112]; with_reducible exact H) | (have H2_ := (Option.bind_some _ _).symm.trans H; rw [hy112]; with_reducible exact H2_) | (have H2_ := (Option.bind_some _ _).symm.trans H; with_reducible exact H2_) | with_reducible exact H | (rw [hy112]; exact H) | exact H
          have Ny112 := Aside0.mk hy112
          clear hy112
          have H' := Aside0.mk H
          clear H
          go_enter Try.func15, Try.ntmps15
          go_wp2
          go_step3
          go_wp2_with (first | ((with_reducible refine gate_callee (f := 20) rfl ?_); refine goesL_ (some 18) rfl rfl Try.func20 (by kernel_rfl) rfl #[.slice A0 l0.length c0] rfl (by (try simp only [List.map_toArray, List.map_cons, List.map_nil]); first | done | rfl | (simp only [List.length_drop, List.length_take]; rfl)) ?_; (with_reducible refine (match_right.calls _ _ l0 true _ ?side1 ?side2 A2.out).mono ?_); (case side1 => repeat (first | exact HR0.out | (with_reducible refine Kd.C_alloc ?_ _) | (with_reducible refine Kd.C_drewN ?_ _) | (with_reducible refine Kd.C_drew ?_))); (case side2 => exact HC0.out); rintro e w16 ⟨rfl, hb⟩; refine ⟨_, rfl, ?_⟩; have n0_ := Aside0.mk (below_step (by repeat (first | (with_reducible first | exact HB.out | apply below_alloc | apply pw_below_drewN | apply below_drew1) | exact HB.out)) hb); clear HB; have HB := n0_; clear n0_; (try clear hb); (try clear hb2); (try clear hk); (try clear hi); have p105 : 0 ≤ (0 : Int) := (by omega); have q105 : 0 < (l0.length : Int) := of_decide_eq_true (by first | (with_reducible assumption) | assumption); obtain ⟨ad105, A105_0, c105_0, e105, hx105_0, hl105_0, hi105_0⟩ := at_L1 HR0.out 0 p105 q105; cases e105; have qi105 : (0 < l0.length) = True := eq_true (by omega); (try rw [show ((0 : Int)).toNat = 0 from rfl] at hx105_0); (try rw [Addr.add_zero'] at hx105_0); replace hx105_0 := (HB.out.cell (World.block_lt_of_cell? w _ hx105_0)).trans hx105_0; have HR105_0 := Aside0.mk hi105_0; have HC105_0 := Aside0.mk hl105_0; clear hi105_0 hl105_0; replace p105 := eq_true p105; replace q105 := eq_true q105) | ((with_reducible refine gate_dst (N := 30) rfl ?_); refine Kd.S_make (Kd.slice 3 (Kd.int .i64)) _ 22 rfl (N := 30) rfl 24 _ _ rfl ji7 rfl rfl Try.underlying24 (.slice none 0 0) 24 info22 rfl (by decide) (by omega) [] (ok := fun _ => True) (okp := fun _ => True) ⟨_, rfl, Kd.R_nil _ _ _ _ _⟩ (fun _ hk => hk) trivial (of_decide_eq_true (by first | (with_reducible assumption) | assumption)) (Nat.le_trans (Nat.mul_le_mul_right _ (of_decide_eq_true (by first | (with_reducible assumption) | assumption) : ji7.toNat ≤ 11728124029610)) (by omega)) (Below.refl _ _) (Nat.le_refl _) ?_; intro v107 w17 ho18 hb hg_ hnew_; clear hg_ hnew_; (first | rw [← Ny106.out] at ho18 | (simp only [Int.reduceToNat] at ho18; rw [← Ny106.out] at ho18)); have n0_ := Aside0.mk (Kd.S_lower ho18 (below_size (by repeat (first | (with_reducible first | exact HB.out | apply below_alloc | apply pw_below_drewN | apply below_drew1) | exact HB.out)))); have n1_ := Aside0.mk (below_step (by repeat (first | (with_reducible first | exact HB.out | apply below_alloc | apply pw_below_drewN | apply below_drew1) | exact HB.out)) hb); clear HB; have HO108 := n0_; have HB := n1_; clear n0_ n1_; clear hb ho18) | ((with_reducible refine gate_dst (N := 35) rfl ?_); refine Kd.R_make (Kd.int .i64) _ 3 rfl (N := 35) rfl 22 _ _ rfl ji10 rfl rfl Try.underlying22 (.int .i64 0) 8 info3 rfl (by decide) (by omega) 0 (ok := fun _ => True) (okp := fun _ => True) rfl (fun _ hk => hk) trivial (of_decide_eq_true (by first | (with_reducible assumption) | assumption)) (Nat.le_trans (Nat.mul_le_mul_right _ (of_decide_eq_true (by first | (with_reducible assumption) | assumption) : ji10.toNat ≤ 35184372088832)) (by omega)) (Below.refl _ _) (Nat.le_refl _) ?_; intro v110 w19 ho20 hb hg_ hnew_; clear hg_ hnew_; (first | rw [← Ny109.out] at ho20 | (simp only [Int.reduceToNat] at ho20; rw [← Ny109.out] at ho20)); have n0_ := Aside0.mk (Kd.S_elder' (by (with_reducible repeat (first | apply Kd.S_alloc | apply Kd.S_drewN | apply Kd.S_drew)); exact HO108.out) (Kd.R_base ho20) hb); have n1_ := Aside0.mk (Kd.R_lower ho20 (below_size (by repeat (first | (with_reducible first | exact HB.out | apply below_alloc | apply pw_below_drewN | apply below_drew1) | exact HB.out)))); have n2_ := Aside0.mk (below_step (by repeat (first | (with_reducible first | exact HB.out | apply below_alloc | apply pw_below_drewN | apply below_drew1) | exact HB.out)) hb); clear HO108; clear HB; have HO108 := n0_; have HO111 := n1_; have HB := n2_; clear n0_ n1_ n2_; have hvav110 := Aside0.mk (cells_one (Kd.R_val ho20).1); have hvbv110 := Aside0.mk (Kd.R_val ho20).2; clear hb ho20; have p15 : 0 ≤ ((l0.length : Int) : Int) := of_decide_eq_true (by first | (with_reducible assumption) | assumption); have q15 : ((l0.length : Int) : Int) < ((y106.length : Int) : Int) := of_decide_eq_true (by first | (with_reducible assumption) | assumption); obtain ⟨go15, co15, eo15, gb15, gl15, cl15, HG15⟩ := Kd.S_form HO108.out (by omega); (first | cases eo15 | (injection eo15 with ea_ en_ ec_; (first | subst ea_ | (injection ea_ with ea_; subst ea_)); subst ec_; clear en_)); have GB15 := Aside0.mk gb15; have GG15 := Aside0.mk HG15; clear gb15 gl15 HG15; obtain ⟨_, ce15, hcl15, hM15, hcc15, hfr15, _, _⟩ := Kd.S_elem HO108.out [] ((l0.length : Int) : Int) p15 q15; obtain ⟨ve15_0, rfl, ge15_0⟩ := hM15; have hx15_0 := hcc15 0 _ rfl; have hf15_0 := hfr15 0; (try simp only [show ((Kd.slice 3 (Kd.int .i64))).sz = 1 from rfl, Nat.mul_one, Nat.add_zero] at hx15_0); (try simp only [Int.toNat_natCast] at hx15_0); (try simp only [show ((Kd.slice 3 (Kd.int .i64))).sz = 1 from rfl, Nat.mul_one, Nat.add_zero] at hf15_0); (try simp only [Int.toNat_natCast] at hf15_0); (try clear hcl15); (try clear hcc15); (try clear hfr15); (try clear hM15); replace p15 := eq_true p15; replace q15 := eq_true q15; have n_ := Aside0.mk (Kd.S_mono (ok' := (fun k_ => some k_ ≠ (v110 : Value).ownBlock)) HO108.out (fun k_ hk => hk.2)); clear HO108; have HO108 := n_; clear n_; have HX21 := Aside0.mk (show Kd.S (Kd.slice 3 (Kd.int .i64)) 22 w19 w.heap.size (fun k_ => ((fun _ => True)) k_ ∧ ¬ ((fun k_ => some k_ = (v110 : Value).ownBlock)) k_) (.slice (some ⟨go15, 0, none⟩) y106.length co15) y106 from (by (with_reducible repeat (first | apply Kd.S_alloc | apply Kd.S_drewN | apply Kd.S_drew)); exact Kd.S_mono HO108.out (fun k_ hk => ⟨trivial, fun e_ => hk e_⟩))); obtain ⟨oki21, ce21, hcl21, hM21, hcc21, hfr21, hoki21, hH21⟩ := Kd.S_elem HX21.out [] ((l0.length : Int) : Int) (of_decide_eq_true (by first | (with_reducible assumption) | assumption)) (by have h_ : ((l0.length : Int) : Int) < ((y106.length : Int) : Int) := of_decide_eq_true (by first | (with_reducible assumption) | assumption); first | exact h_ | (have e_ := (Kd.S_reads' HO108.out).1; omega) | simpa using h_); obtain ⟨ve21_0, rfl, ge21_0⟩ := hM21; have HP21 := Kd.S_seg hH21 (of_decide_eq_true (by first | (with_reducible assumption) | assumption)) (by have h_ : ((l0.length : Int) : Int) < ((y106.length : Int) : Int) := of_decide_eq_true (by first | (with_reducible assumption) | assumption); first | exact h_ | (have e_ := (Kd.S_reads' HO108.out).1; omega) | simpa using h_) (seg := [v110]) (j := 0) (show 1 ≤ 1 from by decide) (x' := y109) (Kd.M_row (Kd.R_mono (Kd.R_tight rfl (Kd.R_mono (ok' := fun k_ => ((fun _ => True)) k_ ∧ k_ ≠ go15) (Kd.R_apart' (HO111.out) (Kd.S_typed HO108.out) (by decide)) (fun k_ hk => ⟨trivial, fun e_ => (hk.2) (by rw [e_]; rfl)⟩))) (fun _ h_ => Or.inr (h_)))) (fun _ hk => hk) (fun k_ hk_ => ((Kd.R_mono (ok' := fun k_ => ((fun _ => True)) k_ ∧ k_ ≠ go15) (Kd.R_apart' (HO111.out) (Kd.S_typed HO108.out) (by decide)) (fun k_ hk => ⟨trivial, fun e_ => (hk.2) (by rw [e_]; rfl)⟩))).1 k_ hk_.symm); have hx21_0 := hcc21 0 _ rfl; (try simp only [show ((Kd.slice 3 (Kd.int .i64))).sz = 1 from rfl, Nat.mul_one, Nat.add_zero] at hx21_0); (try simp only [Int.toNat_natCast] at hx21_0); have hf21_0 := hfr21 0; (try simp only [show ((Kd.slice 3 (Kd.int .i64))).sz = 1 from rfl, Nat.mul_one, Nat.add_zero] at hf21_0); (try simp only [Int.toNat_natCast] at hf21_0); (try clear hcl21); (try clear hcc21); (try clear hfr21); (try clear hM21); (try clear hoki21); (try clear hH21); (try simp only [show ((Kd.slice 3 (Kd.int .i64))).sz = 1 from rfl, Nat.mul_one, Nat.add_zero] at HP21)) | ((with_reducible refine gate_store (t := 22) (p := 36) rfl ?_); refine store_event (t := 22) (p := 36) (v := ?vo_w22) (w1 := (w19.setCell ⟨go15, ((l0.length : Int) : Int).toNat, none⟩ (v110))) ?hg ?ho ?hn ?hr ?_; (case ho => rfl); (case hg => rfl); (case hn => rfl); (case hr => first | exact run_store_letter rfl rfl rfl info22 hvav110.out hvbv110.out (by assumption) (by assumption) | (go_simp; done) | (go_simp; rfl)); intro w22 hw; have hg : w19.grownBy w22 (some go15) := (by rw [hw]; exact HP21.2); have hp_ : Kd.S (Kd.slice 3 (Kd.int .i64)) 22 w22 w.heap.size (fun _ => True) (.slice (some ⟨go15, 0, none⟩) y106.length co15) y112 := (by rw [hw, Ny112.out]; exact HP21.1); clear HP21; have n0_ := Aside0.mk (hp_); have n1_ := Aside0.mk ((by rw [hw]; exact below_set (HB.out) GB15.out : Below w.heap.size w w22)); clear HO108; clear HB; clear HO111; have HO108 := n0_; have HB := n1_; clear n0_ n1_; clear hg hw hp_))
          go_loopg [8] k (fun kq v8 w' => ∃ (x7_1 : List (List Int)) (x8_1 : Int), v8 = .int .i64 x8_1 ∧ Aside0 (match_Assign.l0 kq l0 ((rd_L1 l0 0).length : Int) x7_1 x8_1 = some (r1, r2, r3)) ∧ Aside0 (kq ≤ k) ∧ Aside0 (Kd.S (Kd.slice 3 (Kd.int .i64)) 22 w' w.heap.size (fun _ => True) (.slice (some ⟨go15, 0, none⟩) y106.length co15) x7_1) ∧ Aside0 (Below w.heap.size w w'))
          case atStart => exact ⟨(y112), (wrap64 ((l0.length : Int) - 1)), (by first | rfl | (simp; done) | (simp [*]; done)), H', ⟨Nat.le_refl _⟩, ⟨by (with_reducible repeat (first | apply Kd.S_alloc | apply Kd.S_drewN | apply Kd.S_drew)); exact HO108.out⟩, ⟨by repeat (first | (with_reducible first | exact HB.out | apply below_alloc | apply pw_below_drewN | apply below_drew1) | exact HB.out)⟩⟩
          case round =>
           clear H'
           try clear c1
           try clear p1
           try clear q1
           try clear hx1
           try clear qi1
           try clear hf1
           try clear c2
           try clear p2
           try clear hx2
           try clear hf2
           try clear c3
           try clear c4
           try clear c4b0
           try clear c4b1
           try clear c4b2
           try clear c6
           try clear c6b0
           try clear c6b1
           try clear p6
           try clear c8
           try clear c8b0
           try clear c8b1
           try clear c9
           try clear c9b0
           try clear c9b1
           try clear c10
           try clear p10
           try clear q10
           try clear hx10
           try clear qi10
           try clear c11
           try clear c11b0
           try clear c11b1
           try clear c12
           try clear c12b0
           try clear c12b1
           try clear c13
           try clear c13b0
           try clear c13b1
           try clear c14
           try clear c14b0
           try clear c14b1
           try clear c15
           try clear p15
           try clear q15
           try clear hx15
           try clear hf15
           try clear c20
           try clear c21
           try clear hx21
           try clear hf21
           try clear hx105_0
           try clear hx15_0
           try clear hx21_0
           try clear p105
           try clear p15
           try clear q105
           try clear q15
           obtain ⟨x7_1, x8_1, rfl, HA, HK1, HO_7, HB⟩ := hrel
           have hl7_1 := (Kd.S_reads' HO_7.out).1
           rw [hl7_1] at HO_7
           (try simp only [hl7_1])
           cases gk with
           | zero => exact absurd HA.out (by simp [match_Assign.l0])
           | succ k1 =>
            have H := HA.out
            clear HA
            simp only [match_Assign.l0] at H
            by_cases c23 : x8_1 ≥ 0
            ·rw [if_pos c23] at H
             have c23b0 : decide (0 ≤ x8_1) = true := decide_eq_true c23
             clear c23
             by_cases c24 : 0 ≤ ((rd_L1 l0 0).length : Int)
             ·rw [if_pos c24] at H
              have c24b0 := eq_true c24
              have c24b1 : decide (0 ≤ ((rd_L1 l0 0).length : Int)) = true := decide_eq_true c24
              clear c24
              obtain ⟨ji25, hji25⟩ : ∃ j_ : Int, (shl .i64 1 ((rd_L1 l0 0).length : Int)) = j_ := ⟨_, rfl⟩
              replace H : (if 0 ≤ (ji25) then (if (ji25 : Int).toNat ≤ 35184372088832 then (if 0 ≤ x8_1 then (if x8_1 < (x7_1.length : Int) then ((some (x7_1.set (x8_1 : Int).toNat (List.replicate (ji25 : Int).toNat 0) : List (List Int))).bind fun y116 => (match_Assign.l1 k1 l0 ((rd_L1 l0 0).length : Int) y116 x8_1 ((rd_L1 y116 x8_1).length : Int) 0)) else (none)) else (none)) else (none)) else (none)) = some (r1, r2, r3) := by first | (rw [hji25] at H; exact H) | (simp only [hji25] at H ⊢; exact H)
              have hji25_ : (IntKind.i64.wrap (1 * 2 ^ min ((rd_L1 l0 0).length : Int).toNat 64)) = ji25 := hji25
              have hji25z : ((rd_L1 l0 0).length : Int) ≤ 64 → (IntKind.i64.wrap (1 * 2 ^ ((rd_L1 l0 0).length : Int).toNat)) = ji25 := shl_small hji25
              have hji25p : (IntKind.i64.wrap (1 * 2 ^ min (rd_L1 l0 0).length 64)) = ji25 := hji25_
              have hji25q : ((rd_L1 l0 0).length : Int) ≤ 64 → (IntKind.i64.wrap (1 * 2 ^ (rd_L1 l0 0).length)) = ji25 := hji25z
              have hji25r : (IntKind.i64.wrap (2 ^ min (rd_L1 l0 0).length 64)) = ji25 := by have h_ := hji25p; rw [Int.one_mul] at h_; exact h_
              have hji25s : ((rd_L1 l0 0).length : Int) ≤ 64 → (IntKind.i64.wrap (2 ^ (rd_L1 l0 0).length)) = ji25 := fun hle_ => by have h_ := hji25q hle_; rw [Int.one_mul] at h_; exact h_
              have hji25u : (IntKind.i64.wrap (2 ^ min ((rd_L1 l0 0).length : Int).toNat 64)) = ji25 := by have h_ := hji25_; rw [Int.one_mul] at h_; exact h_
              have hji25v : ((rd_L1 l0 0).length : Int) ≤ 64 → (IntKind.i64.wrap (2 ^ ((rd_L1 l0 0).length : Int).toNat)) = ji25 := fun hle_ => by have h_ := hji25z hle_; rw [Int.one_mul] at h_; exact h_
              have hji25y : (wrap64 (1 * 2 ^ min ((rd_L1 l0 0).length : Int).toNat 64)) = ji25 := (i64_w _).symm.trans hji25_
              have hji25x : ((rd_L1 l0 0).length : Int) ≤ 64 → (wrap64 (1 * 2 ^ ((rd_L1 l0 0).length : Int).toNat)) = ji25 := fun h_ => (i64_w _).symm.trans (hji25z h_)
              by_cases c26 : 0 ≤ (ji25)
              ·rw [if_pos c26] at H
               have c26b0 := eq_true c26
               have c26b1 : decide (0 ≤ (ji25)) = true := decide_eq_true c26
               clear c26
               by_cases c27 : (ji25 : Int).toNat ≤ 35184372088832
               ·rw [if_pos c27] at H
                have c27b0 := eq_true c27
                have c27b1 : decide ((ji25 : Int).toNat ≤ 35184372088832) = true := decide_eq_true c27
                clear c27
                obtain ⟨y113, hy113⟩ : ∃ y_ : List Int, y_ = (List.replicate (ji25 : Int).toNat 0) := ⟨_, rfl⟩
                replace H : (if 0 ≤ x8_1 then (if x8_1 < (x7_1.length : Int) then ((some (x7_1.set (x8_1 : Int).toNat y113 : List (List Int))).bind fun y116 => (match_Assign.l1 k1 l0 ((rd_L1 l0 0).length : Int) y116 x8_1 ((rd_L1 y116 x8_1).length : Int) 0)) else (none)) else (none)) = some (r1, r2, r3) := by first | (rw [hy113]; with_reducible exact H) | (have H2_ := (Option.bind_some _ _).symm.trans H; rw [hy113]; with_reducible exact H2_) | (have H2_ := (Option.bind_some _ _).symm.trans H; with_reducible exact H2_) | with_reducible exact H | (rw [hy113]; exact H) | exact H
                have Ny113 := Aside0.mk hy113
                clear hy113
                by_cases c28 : 0 ≤ x8_1
                ·rw [if_pos c28] at H
                 have c28b0 : decide (0 ≤ x8_1) = true := decide_eq_true c28
                 clear c28
                 by_cases c29 : x8_1 < (x7_1.length : Int)
                 ·rw [if_pos c29] at H
                  have c29b0 : decide (x8_1 < (x7_1.length : Int)) = true := decide_eq_true c29
                  clear c29
                  obtain ⟨y116, hy116⟩ : ∃ y_ : List (List Int), y_ = (x7_1.set (x8_1 : Int).toNat y113) := ⟨_, rfl⟩
                  replace H : (match_Assign.l1 k1 l0 ((rd_L1 l0 0).length : Int) y116 x8_1 ((rd_L1 y116 x8_1).length : Int) 0) = some (r1, r2, r3) := by first | (rw [hy116]; with_reducible exact H) | (have H2_ := (Option.bind_some _ _).symm.trans H; rw [hy116]; with_reducible exact H2_) | (have H2_ := (Option.bind_some _ _).symm.trans H; with_reducible exact H2_) | with_reducible exact H | (rw [hy116]; exact H) | exact H
                  have Ny116 := Aside0.mk hy116
                  clear hy116
                  have H' := Aside0.mk H
                  clear H
                  obtain rfl : ji25 = ji10 := hji25.symm.trans hji10
                  go_wp2_with (first | ((with_reducible refine gate_dst (N := 47) rfl ?_); refine Kd.R_make (Kd.int .i64) _ 3 rfl (N := 47) rfl 22 _ _ rfl ji25 rfl rfl Try.underlying22 (.int .i64 0) 8 info3 rfl (by decide) (by omega) 0 (ok := fun _ => True) (okp := fun _ => True) rfl (fun _ hk => hk) trivial (of_decide_eq_true (by first | (with_reducible assumption) | assumption)) (Nat.le_trans (Nat.mul_le_mul_right _ (of_decide_eq_true (by first | (with_reducible assumption) | assumption) : ji25.toNat ≤ 35184372088832)) (by omega)) (Below.refl _ _) (Nat.le_refl _) ?_; intro v114 w31 ho32 hb hg_ hnew_; clear hg_ hnew_; (first | rw [← Ny113.out] at ho32 | (simp only [Int.reduceToNat] at ho32; rw [← Ny113.out] at ho32)); have n0_ := Aside0.mk (Kd.S_elder' (by (with_reducible repeat (first | apply Kd.S_alloc | apply Kd.S_drewN | apply Kd.S_drew)); exact HO_7.out) (Kd.R_base ho32) hb); have n1_ := Aside0.mk (Kd.R_lower ho32 (below_size (by repeat (first | (with_reducible first | exact HB.out | apply below_alloc | apply pw_below_drewN | apply below_drew1) | exact HB.out)))); have n2_ := Aside0.mk (below_step (by repeat (first | (with_reducible first | exact HB.out | apply below_alloc | apply pw_below_drewN | apply below_drew1) | exact HB.out)) hb); clear HO_7; clear HB; have HO_7 := n0_; have HO115 := n1_; have HB := n2_; clear n0_ n1_ n2_; have hvav114 := Aside0.mk (cells_one (Kd.R_val ho32).1); have hvbv114 := Aside0.mk (Kd.R_val ho32).2; clear hb ho32; have p30 : 0 ≤ (x8_1 : Int) := of_decide_eq_true (by first | (with_reducible assumption) | assumption); have q30 : (x8_1 : Int) < ((x7_1.length : Int) : Int) := of_decide_eq_true (by first | (with_reducible assumption) | assumption); obtain ⟨_, ce30, hcl30, hM30, hcc30, hfr30, _, _⟩ := Kd.S_elem HO_7.out [] (x8_1 : Int) p30 q30; obtain ⟨ve30_0, rfl, ge30_0⟩ := hM30; have hx30_0 := hcc30 0 _ rfl; have hf30_0 := hfr30 0; (try simp only [show ((Kd.slice 3 (Kd.int .i64))).sz = 1 from rfl, Nat.mul_one, Nat.add_zero] at hx30_0); (try simp only [Int.toNat_natCast] at hx30_0); (try simp only [show ((Kd.slice 3 (Kd.int .i64))).sz = 1 from rfl, Nat.mul_one, Nat.add_zero] at hf30_0); (try simp only [Int.toNat_natCast] at hf30_0); (try clear hcl30); (try clear hcc30); (try clear hfr30); (try clear hM30); replace p30 := eq_true p30; replace q30 := eq_true q30; have n_ := Aside0.mk (Kd.S_mono (ok' := (fun k_ => some k_ ≠ (v114 : Value).ownBlock)) HO_7.out (fun k_ hk => hk.2)); clear HO_7; have HO_7 := n_; clear n_; have HX33 := Aside0.mk (show Kd.S (Kd.slice 3 (Kd.int .i64)) 22 w31 w.heap.size (fun k_ => ((fun _ => True)) k_ ∧ ¬ ((fun k_ => some k_ = (v114 : Value).ownBlock)) k_) (.slice (some ⟨go15, 0, none⟩) x7_1.length co15) x7_1 from (by (with_reducible repeat (first | apply Kd.S_alloc | apply Kd.S_drewN | apply Kd.S_drew)); exact Kd.S_mono HO_7.out (fun k_ hk => ⟨trivial, fun e_ => hk e_⟩))); obtain ⟨oki33, ce33, hcl33, hM33, hcc33, hfr33, hoki33, hH33⟩ := Kd.S_elem HX33.out [] (x8_1 : Int) (of_decide_eq_true (by first | (with_reducible assumption) | assumption)) (by have h_ : (x8_1 : Int) < ((x7_1.length : Int) : Int) := of_decide_eq_true (by first | (with_reducible assumption) | assumption); first | exact h_ | (have e_ := (Kd.S_reads' HO_7.out).1; omega) | simpa using h_); obtain ⟨ve33_0, rfl, ge33_0⟩ := hM33; have HP33 := Kd.S_seg hH33 (of_decide_eq_true (by first | (with_reducible assumption) | assumption)) (by have h_ : (x8_1 : Int) < ((x7_1.length : Int) : Int) := of_decide_eq_true (by first | (with_reducible assumption) | assumption); first | exact h_ | (have e_ := (Kd.S_reads' HO_7.out).1; omega) | simpa using h_) (seg := [v114]) (j := 0) (show 1 ≤ 1 from by decide) (x' := y113) (Kd.M_row (Kd.R_mono (Kd.R_tight rfl (Kd.R_mono (ok' := fun k_ => ((fun _ => True)) k_ ∧ k_ ≠ go15) (Kd.R_apart' (HO115.out) (Kd.S_typed HO_7.out) (by decide)) (fun k_ hk => ⟨trivial, fun e_ => (hk.2) (by rw [e_]; rfl)⟩))) (fun _ h_ => Or.inr (h_)))) (fun _ hk => hk) (fun k_ hk_ => ((Kd.R_mono (ok' := fun k_ => ((fun _ => True)) k_ ∧ k_ ≠ go15) (Kd.R_apart' (HO115.out) (Kd.S_typed HO_7.out) (by decide)) (fun k_ hk => ⟨trivial, fun e_ => (hk.2) (by rw [e_]; rfl)⟩))).1 k_ hk_.symm); have hx33_0 := hcc33 0 _ rfl; (try simp only [show ((Kd.slice 3 (Kd.int .i64))).sz = 1 from rfl, Nat.mul_one, Nat.add_zero] at hx33_0); (try simp only [Int.toNat_natCast] at hx33_0); have hf33_0 := hfr33 0; (try simp only [show ((Kd.slice 3 (Kd.int .i64))).sz = 1 from rfl, Nat.mul_one, Nat.add_zero] at hf33_0); (try simp only [Int.toNat_natCast] at hf33_0); (try clear hcl33); (try clear hcc33); (try clear hfr33); (try clear hM33); (try clear hoki33); (try clear hH33); (try simp only [show ((Kd.slice 3 (Kd.int .i64))).sz = 1 from rfl, Nat.mul_one, Nat.add_zero] at HP33)) | ((with_reducible refine gate_store (t := 22) (p := 48) rfl ?_); refine store_event (t := 22) (p := 48) (v := ?vo_w34) (w1 := (w31.setCell ⟨go15, (x8_1 : Int).toNat, none⟩ (v114))) ?hg ?ho ?hn ?hr ?_; (case ho => rfl); (case hg => rfl); (case hn => rfl); (case hr => first | exact run_store_letter rfl rfl rfl info22 hvav114.out hvbv114.out (by assumption) (by assumption) | (go_simp; done) | (go_simp; rfl)); intro w34 hw; have hg : w31.grownBy w34 (some go15) := (by rw [hw]; exact HP33.2); have hp_ : Kd.S (Kd.slice 3 (Kd.int .i64)) 22 w34 w.heap.size (fun _ => True) (.slice (some ⟨go15, 0, none⟩) x7_1.length co15) y116 := (by rw [hw, Ny116.out]; exact HP33.1); clear HP33; have n0_ := Aside0.mk (hp_); have n1_ := Aside0.mk ((by rw [hw]; exact below_set (HB.out) GB15.out : Below w.heap.size w w34)); clear HO_7; clear HB; clear HO115; have HO_7 := n0_; have HB := n1_; clear n0_ n1_; clear hg hw hp_; have p117 : 0 ≤ (x8_1 : Int) := of_decide_eq_true (by first | (with_reducible assumption) | assumption); have q117 : x8_1 < (y116.length : Int) := (by have h_ : (x8_1 : Int) < ((x7_1.length : Int) : Int) := of_decide_eq_true (by first | (with_reducible assumption) | assumption); first | (have e_ := (Kd.S_reads' HO_7.out).1; omega) | simpa only [Ny116.out, List.length_set] using h_); have ql117 : ((x8_1 : Int) < ((x7_1.length : Int) : Int)) = True := eq_true (of_decide_eq_true (by first | (with_reducible assumption) | assumption)); obtain ⟨ad117, A117_0, c117_0, e117, hx117_0, hl117_0, hi117_0⟩ := at_L1 (Kd.S_reads' HO_7.out).2.2 x8_1 p117 q117; obtain rfl : (⟨go15, 0, none⟩ : Addr) = ad117 := (by injection e117); obtain ⟨ce117, hce117, hMe117, hcc117⟩ := Kd.S_get HO_7.out [] x8_1 p117 (by first | exact q117 | exact of_decide_eq_true (by first | (with_reducible assumption) | assumption) | (have e_ := (Kd.S_reads' HO_7.out).1; omega)); obtain ⟨ve117_0, rfl, ge117_0⟩ := hMe117; have hv117_0 := hcc117 0 _ rfl; rw [Nat.add_zero, show ((Kd.slice 3 (Kd.int .i64))).sz = 1 from rfl, Nat.mul_one] at hv117_0; replace hv117_0 := Option.some.inj (hv117_0.symm.trans hx117_0); rw [hv117_0] at ge117_0; have HL117_0 := Aside0.mk (show Kd.R (Kd.int .i64) 3 _ _ _ _ (rd_L1 y116 x8_1) from ge117_0); clear hv117_0 ge117_0; have HX117_0 := Aside0.mk hx117_0; (try clear hcc117); (try clear hce117); (first | simp only [add_plain] at hx117_0 | simp only [add_at] at hx117_0 | simp only [Addr.add, Nat.zero_add] at hx117_0 | skip); have HR117_0 := Aside0.mk hi117_0; have HC117_0 := Aside0.mk hl117_0; clear hi117_0 hl117_0; replace p117 := eq_true p117; replace q117 := eq_true q117))
                  go_loopg [54] k1 (fun kq v54 w' => ∃ (x7_2 : List (List Int)) (x54_2 : Int), v54 = .int .i64 x54_2 ∧ Aside0 (match_Assign.l1 kq l0 ((rd_L1 l0 0).length : Int) x7_2 x8_1 ((rd_L1 y116 x8_1).length : Int) x54_2 = some (r1, r2, r3)) ∧ Aside0 (kq ≤ k1) ∧ Aside0 (Kd.S (Kd.slice 3 (Kd.int .i64)) 22 w' w.heap.size (fun _ => True) (.slice (some ⟨go15, 0, none⟩) x7_1.length co15) x7_2) ∧ Aside0 (Below w.heap.size w w'))
                  case atStart => exact ⟨(y116), (0), (by first | rfl | (simp; done) | (simp [*]; done)), H', ⟨Nat.le_refl _⟩, ⟨by (try simp only [hl7_1]); (with_reducible repeat (first | apply Kd.S_alloc | apply Kd.S_drewN | apply Kd.S_drew)); exact HO_7.out⟩, ⟨by repeat (first | (with_reducible first | exact HB.out | apply below_alloc | apply pw_below_drewN | apply below_drew1) | exact HB.out)⟩⟩
                  case round =>
                   clear H'
                   try clear c1
                   try clear p1
                   try clear q1
                   try clear hx1
                   try clear qi1
                   try clear hf1
                   try clear c2
                   try clear p2
                   try clear hx2
                   try clear hf2
                   try clear c3
                   try clear p3
                   try clear q3
                   try clear hx3
                   try clear hf3
                   try clear c4
                   try clear c4b0
                   try clear c4b1
                   try clear c4b2
                   try clear c6
                   try clear c6b0
                   try clear c6b1
                   try clear p6
                   try clear c8
                   try clear c8b0
                   try clear c8b1
                   try clear c9
                   try clear c9b0
                   try clear c9b1
                   try clear c10
                   try clear p10
                   try clear q10
                   try clear hx10
                   try clear qi10
                   try clear c11
                   try clear c11b0
                   try clear c11b1
                   try clear p11
                   try clear q11
                   try clear hx11
                   try clear c12
                   try clear c12b0
                   try clear c12b1
                   try clear c13
                   try clear c13b0
                   try clear c13b1
                   try clear c14
                   try clear c14b0
                   try clear c14b1
                   try clear c15
                   try clear p15
                   try clear q15
                   try clear hx15
                   try clear hf15
                   try clear c20
                   try clear c21
                   try clear hx21
                   try clear hf21
                   try clear c23
                   try clear c23b0
                   try clear c24
                   try clear c24b0
                   try clear c24b1
                   try clear c26
                   try clear c26b0
                   try clear c26b1
                   try clear c27
                   try clear c27b0
                   try clear c27b1
                   try clear c28
                   try clear c28b0
                   try clear c29
                   try clear c29b0
                   try clear c30
                   try clear p30
                   try clear q30
                   try clear hx30
                   try clear hf30
                   try clear c33
                   try clear hx33
                   try clear hf33
                   try clear hx105_0
                   try clear hx117_0
                   try clear hx15_0
                   try clear hx21_0
                   try clear hx30_0
                   try clear hx33_0
                   try clear p1
                   try clear p10
                   try clear p105
                   try clear p117
                   try clear p15
                   try clear p2
                   try clear p30
                   try clear p6
                   try clear q1
                   try clear q10
                   try clear q105
                   try clear q117
                   try clear q15
                   try clear q30
                   obtain ⟨x7_2, x54_2, rfl, HA, HK2, HO_7, HB⟩ := hrel
                   have hl7_2 := (Kd.S_reads' HO_7.out).1
                   rw [hl7_2] at HO_7
                   (try simp only [hl7_2])
                   cases gk with
                   | zero => exact absurd HA.out (by simp [match_Assign.l1])
                   | succ k2 =>
                    have H := HA.out
                    clear HA
                    simp only [match_Assign.l1] at H
                    by_cases c35 : x54_2 < ((rd_L1 y116 x8_1).length : Int)
                    ·rw [if_pos c35] at H
                     have c35b0 : decide (x54_2 < ((rd_L1 y116 x8_1).length : Int)) = true := decide_eq_true c35
                     clear c35
                     by_cases c36 : 0 ≤ x8_1
                     ·rw [if_pos c36] at H
                      have c36b0 : decide (0 ≤ x8_1) = true := decide_eq_true c36
                      clear c36
                      by_cases c37 : x8_1 < (x7_2.length : Int)
                      ·rw [if_pos c37] at H
                       have c37b0 : decide (x8_1 < (x7_2.length : Int)) = true := decide_eq_true c37
                       clear c37
                       by_cases c38 : 0 ≤ x54_2
                       ·rw [if_pos c38] at H
                        have c38b0 : decide (0 ≤ x54_2) = true := decide_eq_true c38
                        clear c38
                        by_cases c39 : x54_2 < ((rd_L1 x7_2 x8_1).length : Int)
                        ·rw [if_pos c39] at H
                         have c39b0 : decide (x54_2 < ((rd_L1 x7_2 x8_1).length : Int)) = true := decide_eq_true c39
                         clear c39
                         obtain ⟨y119, hy119⟩ : ∃ y_ : List Int, y_ = ((rd_L1 x7_2 x8_1).set (x54_2 : Int).toNat 1099511627776) := ⟨_, rfl⟩
                         replace H : (if x8_1 < (l0.length : Int) then (match_Assign.l2 k2 l0 ((rd_L1 l0 0).length : Int) (x7_2.set (x8_1 : Int).toNat y119) x8_1 x54_2 ((rd_L1 y116 x8_1).length : Int) x54_2 (rd_L1 l0 x8_1) ((rd_L1 l0 x8_1).length : Int) 0) else (none)) = some (r1, r2, r3) := by first | (rw [hy119]; with_reducible exact H) | (have H2_ := (Option.bind_some _ _).symm.trans H; rw [hy119]; with_reducible exact H2_) | (have H2_ := (Option.bind_some _ _).symm.trans H; with_reducible exact H2_) | with_reducible exact H | (rw [hy119]; exact H) | exact H
                         have Ny119 := Aside0.mk hy119
                         clear hy119
                         obtain ⟨y121, hy121⟩ : ∃ y_ : List (List Int), y_ = (x7_2.set (x8_1 : Int).toNat y119) := ⟨_, rfl⟩
                         replace H : (if x8_1 < (l0.length : Int) then (match_Assign.l2 k2 l0 ((rd_L1 l0 0).length : Int) y121 x8_1 x54_2 ((rd_L1 y116 x8_1).length : Int) x54_2 (rd_L1 l0 x8_1) ((rd_L1 l0 x8_1).length : Int) 0) else (none)) = some (r1, r2, r3) := by first | (rw [hy121]; with_reducible exact H) | (have H2_ := (Option.bind_some _ _).symm.trans H; rw [hy121]; with_reducible exact H2_) | (have H2_ := (Option.bind_some _ _).symm.trans H; with_reducible exact H2_) | with_reducible exact H | (rw [hy121]; exact H) | exact H
                         have Ny121 := Aside0.mk hy121
                         clear hy121
                         by_cases c41 : x8_1 < (l0.length : Int)
                         ·rw [if_pos c41] at H
                          have c41b0 : decide (x8_1 < (l0.length : Int)) = true := decide_eq_true c41
                          clear c41
                          have H' := Aside0.mk H
                          clear H
                          have p118 : 0 ≤ (x8_1 : Int) := of_decide_eq_true (by first | (with_reducible assumption) | assumption)
                          have q118 : x8_1 < (x7_2.length : Int) := of_decide_eq_true (by first | (with_reducible assumption) | assumption)
                          obtain ⟨ad118, A118_0, c118_0, e118, hx118_0, hl118_0, hi118_0⟩ := at_L1 (Kd.S_reads' HO_7.out).2.2 x8_1 p118 q118
                          obtain rfl : (⟨go15, 0, none⟩ : Addr) = ad118 := (by injection e118)
                          obtain ⟨ce118, hce118, hMe118, hcc118⟩ := Kd.S_get HO_7.out [] x8_1 p118 (by first | exact q118 | exact of_decide_eq_true (by first | (with_reducible assumption) | assumption) | (have e_ := (Kd.S_reads' HO_7.out).1; omega))
                          obtain ⟨ve118_0, rfl, ge118_0⟩ := hMe118
                          have hv118_0 := hcc118 0 _ rfl
                          rw [Nat.add_zero, show ((Kd.slice 3 (Kd.int .i64))).sz = 1 from rfl, Nat.mul_one] at hv118_0
                          replace hv118_0 := Option.some.inj (hv118_0.symm.trans hx118_0)
                          rw [hv118_0] at ge118_0
                          have HL118_0 := Aside0.mk (show Kd.R (Kd.int .i64) 3 _ _ _ _ (rd_L1 x7_2 x8_1) from ge118_0)
                          clear hv118_0 ge118_0
                          have HX118_0 := Aside0.mk hx118_0
                          clear hcc118 hce118
                          (first | simp only [add_plain] at hx118_0 | simp only [add_at] at hx118_0 | simp only [Addr.add, Nat.zero_add] at hx118_0 | skip)
                          have HR118_0 := Aside0.mk hi118_0
                          have HC118_0 := Aside0.mk hl118_0
                          clear hi118_0 hl118_0
                          replace p118 := eq_true p118
                          replace q118 := eq_true q118
                          have p40 : 0 ≤ (x54_2 : Int) := of_decide_eq_true (by first | (with_reducible assumption) | assumption)
                          have q40 : (x54_2 : Int) < (((rd_L1 x7_2 x8_1).length : Int) : Int) := of_decide_eq_true (by first | (with_reducible assumption) | assumption)
                          obtain ⟨go40, co40, eo40, gb40, gl40, cl40, HG40⟩ := Kd.R_form HL118_0.out (by omega)
                          (first | cases eo40 | (injection eo40 with ea_ en_ ec_; (first | subst ea_ | (injection ea_ with ea_; subst ea_)); subst ec_; clear en_))
                          have GB40 := Aside0.mk gb40
                          have GG40 := Aside0.mk HG40
                          clear gb40 gl40 HG40
                          obtain ⟨hx40_0, hf40_0⟩ := Kd.R_celln 0 HL118_0.out (x54_2 : Int) p40 q40
                          replace p40 := eq_true p40
                          replace q40 := eq_true q40
                          have hq42 : (x8_1 : Int) < (x7_2.length : Int) := (by have h_ : (x8_1 : Int) < ((x7_2.length : Int) : Int) := of_decide_eq_true (by first | (with_reducible assumption) | assumption); first | exact h_ | (have e_ := (Kd.S_reads' HO_7.out).1; omega) | simpa only [List.length_set, List.length_set] using h_)
                          obtain ⟨oki42, ce42, hcl42, hM42, hcc42, hok42, hbk42⟩ := Kd.S_borrow HO_7.out [] (x8_1 : Int) (of_decide_eq_true (by first | (with_reducible assumption) | assumption)) hq42
                          obtain ⟨ve42_0, rfl, ge42_0⟩ := hM42
                          have hv42 := hcc42 0 _ rfl
                          rw [Nat.add_zero, show ((Kd.slice 3 (Kd.int .i64))).sz = 1 from rfl, Nat.mul_one] at hv42
                          replace hv42 := Option.some.inj (hv42.symm.trans HX118_0.out)
                          subst hv42
                          clear hcc42 hcl42
                          replace ge42_0 := (show Kd.R (Kd.int .i64) 3 _ _ _ _ (rd_L1 x7_2 x8_1) from ge42_0)
                          have HP42 := Kd.R_putg ge42_0 (x54_2 : Int) 1099511627776
                          go_wp2_with (first | ((with_reducible refine gate_store (t := 3) (p := 62) rfl ?_); refine store_event (t := 3) (p := 62) (v := ?vo_w43) (w1 := (wr.setCell ⟨go40, (x54_2 : Int).toNat, none⟩ (.int .i64 1099511627776))) ?hg ?ho ?hn ?hr ?_; (case ho => rfl); (case hg => rfl); (case hn => rfl); (case hr => first | (go_simp; done) | (go_simp; rfl)); intro w43 hw; have hg : wr.grownBy w43 (some go40) := (by rw [hw]; exact HP42.2); have hz_ : Kd.R (Kd.int .i64) 3 w43 w.heap.size oki42 (.slice (some ⟨go40, 0, none⟩) (rd_L1 x7_2 x8_1).length c118_0) y119 := (by rw [hw, Ny119.out]; exact HP42.1); have hp_ : Kd.S (Kd.slice 3 (Kd.int .i64)) 22 w43 w.heap.size (fun _ => True) (.slice (some ⟨go15, 0, none⟩) x7_2.length co15) y121 := (by rw [Ny121.out]; exact hbk42 hg (fun k_ e_ => by injection e_ with e_; subst e_; exact ge42_0.1 _ rfl) (Kd.M_row hz_)); have hm_ := Kd.R_mono hz_ hok42; clear HP42 hbk42; have n0_ := Aside0.mk (hp_); have n1_ := Aside0.mk ((by rw [hw]; exact below_set (HB.out) GB40.out : Below w.heap.size w w43)); have n2_ := Aside0.mk (hm_); have n3_ := Aside0.mk ((Kd.R_reads' hm_).2.1); clear HO_7; clear HB; clear HL118_0; have HO_7 := n0_; have HB := n1_; have HL143 := n2_; have HC120 := n3_; clear n0_ n1_ n2_ n3_; clear hg hw hp_ hz_ hm_ hok42; have p122 : 0 ≤ (x8_1 : Int) := of_decide_eq_true (by first | (with_reducible assumption) | assumption); have q122 : x8_1 < (l0.length : Int) := of_decide_eq_true (by first | (with_reducible assumption) | assumption); obtain ⟨ad122, A122_0, c122_0, e122, hx122_0, hl122_0, hi122_0⟩ := at_L1 HR0.out x8_1 p122 q122; obtain rfl : ad105 = ad122 := (by injection e122); replace hx122_0 := (HB.out.cell (World.block_lt_of_cell? w _ hx122_0)).trans hx122_0; have HR122_0 := Aside0.mk hi122_0; have HC122_0 := Aside0.mk hl122_0; clear hi122_0 hl122_0; replace p122 := eq_true p122; replace q122 := eq_true q122))
                          go_loopg [68] k2 (fun kq v68 w' => ∃ (x7_3 : List (List Int)) (x68_3 : Int), v68 = .int .i64 x68_3 ∧ Aside0 (match_Assign.l2 kq l0 ((rd_L1 l0 0).length : Int) x7_3 x8_1 x54_2 ((rd_L1 y116 x8_1).length : Int) x54_2 (rd_L1 l0 x8_1) ((rd_L1 l0 x8_1).length : Int) x68_3 = some (r1, r2, r3)) ∧ Aside0 (kq ≤ k2) ∧ Aside0 (Kd.S (Kd.slice 3 (Kd.int .i64)) 22 w' w.heap.size (fun _ => True) (.slice (some ⟨go15, 0, none⟩) x7_2.length co15) x7_3) ∧ Aside0 (Below w.heap.size w w'))
                          case atStart => exact ⟨(y121), (0), (by first | rfl | (simp; done) | (simp [*]; done)), H', ⟨Nat.le_refl _⟩, ⟨by (try simp only [hl7_1]); (try simp only [hl7_2]); (with_reducible repeat (first | apply Kd.S_alloc | apply Kd.S_drewN | apply Kd.S_drew)); exact HO_7.out⟩, ⟨by repeat (first | (with_reducible first | exact HB.out | apply below_alloc | apply pw_below_drewN | apply below_drew1) | exact HB.out)⟩⟩
                          case round =>
                           clear H'
                           try clear c1
                           try clear p1
                           try clear q1
                           try clear hx1
                           try clear qi1
                           try clear hf1
                           try clear c2
                           try clear p2
                           try clear hx2
                           try clear hf2
                           try clear c3
                           try clear p3
                           try clear q3
                           try clear hx3
                           try clear hf3
                           try clear c4
                           try clear c4b0
                           try clear c4b1
                           try clear c4b2
                           try clear p4
                           try clear q4
                           try clear hx4
                           try clear hf4
                           try clear c6
                           try clear c6b0
                           try clear c6b1
                           try clear p6
                           try clear c8
                           try clear c8b0
                           try clear c8b1
                           try clear c9
                           try clear c9b0
                           try clear c9b1
                           try clear c10
                           try clear p10
                           try clear q10
                           try clear hx10
                           try clear qi10
                           try clear c11
                           try clear c11b0
                           try clear c11b1
                           try clear p11
                           try clear q11
                           try clear hx11
                           try clear c12
                           try clear c12b0
                           try clear c12b1
                           try clear p12
                           try clear q12
                           try clear hx12
                           try clear c13
                           try clear c13b0
                           try clear c13b1
                           try clear c14
                           try clear c14b0
                           try clear c14b1
                           try clear c15
                           try clear p15
                           try clear q15
                           try clear hx15
                           try clear hf15
                           try clear c20
                           try clear c21
                           try clear hx21
                           try clear hf21
                           try clear c23
                           try clear c23b0
                           try clear c24
                           try clear c24b0
                           try clear c24b1
                           try clear c26
                           try clear c26b0
                           try clear c26b1
                           try clear c27
                           try clear c27b0
                           try clear c27b1
                           try clear c28
                           try clear c28b0
                           try clear c29
                           try clear c29b0
                           try clear c30
                           try clear p30
                           try clear q30
                           try clear hx30
                           try clear hf30
                           try clear c33
                           try clear hx33
                           try clear hf33
                           try clear c35
                           try clear c35b0
                           try clear c36
                           try clear c36b0
                           try clear c37
                           try clear c37b0
                           try clear c38
                           try clear c38b0
                           try clear c39
                           try clear c39b0
                           try clear p40
                           try clear q40
                           try clear hx40
                           try clear hf40
                           try clear c41
                           try clear c41b0
                           try clear c42
                           try clear q42
                           try clear hx105_0
                           try clear hx117_0
                           try clear hx118_0
                           try clear hx122_0
                           try clear hx15_0
                           try clear hx21_0
                           try clear hx30_0
                           try clear hx33_0
                           try clear hx40_0
                           try clear p1
                           try clear p10
                           try clear p105
                           try clear p11
                           try clear p117
                           try clear p118
                           try clear p122
                           try clear p15
                           try clear p2
                           try clear p3
                           try clear p30
                           try clear p40
                           try clear p6
                           try clear q1
                           try clear q10
                           try clear q105
                           try clear q11
                           try clear q117
                           try clear q118
                           try clear q122
                           try clear q15
                           try clear q3
                           try clear q30
                           try clear q40
                           obtain ⟨x7_3, x68_3, rfl, HA, HK3, HO_7, HB⟩ := hrel
                           have hl7_3 := (Kd.S_reads' HO_7.out).1
                           rw [hl7_3] at HO_7
                           (try simp only [hl7_3])
                           cases gk with
                           | zero => exact absurd HA.out (by simp [match_Assign.l2])
                           | succ k3 =>
                            have H := HA.out
                            clear HA
                            simp only [match_Assign.l2] at H
                            by_cases c44 : x68_3 < ((rd_L1 l0 x8_1).length : Int)
                            ·rw [if_pos c44] at H
                             have c44b0 : decide (x68_3 < ((rd_L1 l0 x8_1).length : Int)) = true := decide_eq_true c44
                             clear c44
                             by_cases c45 : 0 ≤ x68_3
                             ·rw [if_pos c45] at H
                              have c45b0 : decide (0 ≤ x68_3) = true := decide_eq_true c45
                              clear c45
                              by_cases c46 : x68_3 < ((rd_L1 l0 x8_1).length : Int)
                              ·rw [if_pos c46] at H
                               have c46b0 : decide (x68_3 < ((rd_L1 l0 x8_1).length : Int)) = true := decide_eq_true c46
                               clear c46
                               have c47b0 := eq_true (of_decide_eq_true (by first | (with_reducible assumption) | assumption) : 0 ≤ x68_3)
                               obtain ⟨ji48, hji48⟩ : ∃ j_ : Int, (shr .i64 x54_2 x68_3) = j_ := ⟨_, rfl⟩
                               replace H : (if (Go.bits .and .i64 (ji48) 1) = 0 then (if 0 ≤ x8_1 then (if x8_1 < (x7_3.length : Int) then (if 0 ≤ x54_2 then (if x54_2 < ((rd_L1 x7_3 x8_1).length : Int) then (if 0 ≤ (wrap64 (x8_1 + 1)) then (if (wrap64 (x8_1 + 1)) < (x7_3.length : Int) then (if 0 ≤ (Go.bits .or .i64 x54_2 (shl .i64 1 x68_3)) then (if (Go.bits .or .i64 x54_2 (shl .i64 1 x68_3)) < ((rd_L1 x7_3 (wrap64 (x8_1 + 1))).length : Int) then (match_Assign.l2 k3 l0 ((rd_L1 l0 0).length : Int) (x7_3.set (x8_1 : Int).toNat ((rd_L1 x7_3 x8_1).set (x54_2 : Int).toNat (mn (rd (rd_L1 x7_3 x8_1) x54_2) (wrap64 ((rd (rd_L1 l0 x8_1) x68_3) + (rd (rd_L1 x7_3 (wrap64 (x8_1 + 1))) (Go.bits .or .i64 x54_2 (shl .i64 1 x68_3)))))))) x8_1 x54_2 ((rd_L1 y116 x8_1).length : Int) x54_2 (rd_L1 l0 x8_1) ((rd_L1 l0 x8_1).length : Int) (wrap64 (x68_3 + 1))) else (none)) else (none)) else (none)) else (none)) else (none)) else (none)) else (none)) else (none)) else (match_Assign.l2 k3 l0 ((rd_L1 l0 0).length : Int) x7_3 x8_1 x54_2 ((rd_L1 y116 x8_1).length : Int) x54_2 (rd_L1 l0 x8_1) ((rd_L1 l0 x8_1).length : Int) (wrap64 (x68_3 + 1)))) = some (r1, r2, r3) := by first | (rw [hji48] at H; exact H) | (simp only [hji48] at H ⊢; exact H)
                               have hji48_ : (x54_2 / 2 ^ min x68_3.toNat 64) = ji48 := hji48
                               have hji48z : x68_3 ≤ 64 → (x54_2 / 2 ^ x68_3.toNat) = ji48 := shr_small hji48
                               by_cases c49 : (Go.bits .and .i64 (ji48) 1) = 0
                               ·rw [if_pos c49] at H
                                have c49b0 : ((Go.bits .and .i64 (ji48) 1) == 0) = true := beq_iff_eq.mpr c49
                                have c49b1 : ((Go.bits .and .i64 (ji48) 1) != 0) = false := bne_eq_false_iff_eq.mpr c49
                                clear c49
                                by_cases c50 : 0 ≤ x8_1
                                ·rw [if_pos c50] at H
                                 have c50b0 : decide (0 ≤ x8_1) = true := decide_eq_true c50
                                 clear c50
                                 by_cases c51 : x8_1 < (x7_3.length : Int)
                                 ·rw [if_pos c51] at H
                                  have c51b0 : decide (x8_1 < (x7_3.length : Int)) = true := decide_eq_true c51
                                  clear c51
                                  by_cases c52 : 0 ≤ x54_2
                                  ·rw [if_pos c52] at H
                                   have c52b0 : decide (0 ≤ x54_2) = true := decide_eq_true c52
                                   clear c52
                                   by_cases c53 : x54_2 < ((rd_L1 x7_3 x8_1).length : Int)
                                   ·rw [if_pos c53] at H
                                    have c53b0 : decide (x54_2 < ((rd_L1 x7_3 x8_1).length : Int)) = true := decide_eq_true c53
                                    clear c53
                                    obtain ⟨ji54, hji54⟩ : ∃ j_ : Int, (wrap64 (x8_1 + 1)) = j_ := ⟨_, rfl⟩
                                    replace H : (if 0 ≤ (ji54) then (if (ji54) < (x7_3.length : Int) then (if 0 ≤ (Go.bits .or .i64 x54_2 (shl .i64 1 x68_3)) then (if (Go.bits .or .i64 x54_2 (shl .i64 1 x68_3)) < ((rd_L1 x7_3 (ji54)).length : Int) then (match_Assign.l2 k3 l0 ((rd_L1 l0 0).length : Int) (x7_3.set (x8_1 : Int).toNat ((rd_L1 x7_3 x8_1).set (x54_2 : Int).toNat (mn (rd (rd_L1 x7_3 x8_1) x54_2) (wrap64 ((rd (rd_L1 l0 x8_1) x68_3) + (rd (rd_L1 x7_3 (ji54)) (Go.bits .or .i64 x54_2 (shl .i64 1 x68_3)))))))) x8_1 x54_2 ((rd_L1 y116 x8_1).length : Int) x54_2 (rd_L1 l0 x8_1) ((rd_L1 l0 x8_1).length : Int) (wrap64 (x68_3 + 1))) else (none)) else (none)) else (none)) else (none)) = some (r1, r2, r3) := by first | (rw [hji54] at H; exact H) | (simp only [hji54] at H ⊢; exact H)
                                    have hji54w : (IntKind.i64.wrap (x8_1 + 1)) = ji54 := (i64_w _).trans hji54
                                    by_cases c55 : 0 ≤ (ji54)
                                    ·rw [if_pos c55] at H
                                     have c55b0 : decide (0 ≤ (ji54)) = true := decide_eq_true c55
                                     clear c55
                                     by_cases c56 : (ji54) < (x7_3.length : Int)
                                     ·rw [if_pos c56] at H
                                      have c56b0 : decide ((ji54) < (x7_3.length : Int)) = true := decide_eq_true c56
                                      clear c56
                                      have c57b0 := eq_true (of_decide_eq_true (by first | (with_reducible assumption) | assumption) : 0 ≤ x68_3)
                                      obtain ⟨ji58, hji58⟩ : ∃ j_ : Int, (shl .i64 1 x68_3) = j_ := ⟨_, rfl⟩
                                      replace H : (if 0 ≤ (Go.bits .or .i64 x54_2 (ji58)) then (if (Go.bits .or .i64 x54_2 (ji58)) < ((rd_L1 x7_3 (ji54)).length : Int) then (match_Assign.l2 k3 l0 ((rd_L1 l0 0).length : Int) (x7_3.set (x8_1 : Int).toNat ((rd_L1 x7_3 x8_1).set (x54_2 : Int).toNat (mn (rd (rd_L1 x7_3 x8_1) x54_2) (wrap64 ((rd (rd_L1 l0 x8_1) x68_3) + (rd (rd_L1 x7_3 (ji54)) (Go.bits .or .i64 x54_2 (ji58)))))))) x8_1 x54_2 ((rd_L1 y116 x8_1).length : Int) x54_2 (rd_L1 l0 x8_1) ((rd_L1 l0 x8_1).length : Int) (wrap64 (x68_3 + 1))) else (none)) else (none)) = some (r1, r2, r3) := by first | (rw [hji58] at H; exact H) | (simp only [hji58] at H ⊢; exact H)
                                      have hji58_ : (IntKind.i64.wrap (1 * 2 ^ min x68_3.toNat 64)) = ji58 := hji58
                                      have hji58z : x68_3 ≤ 64 → (IntKind.i64.wrap (1 * 2 ^ x68_3.toNat)) = ji58 := shl_small hji58
                                      have hji58u : (IntKind.i64.wrap (2 ^ min x68_3.toNat 64)) = ji58 := by have h_ := hji58_; rw [Int.one_mul] at h_; exact h_
                                      have hji58v : x68_3 ≤ 64 → (IntKind.i64.wrap (2 ^ x68_3.toNat)) = ji58 := fun hle_ => by have h_ := hji58z hle_; rw [Int.one_mul] at h_; exact h_
                                      have hji58y : (wrap64 (1 * 2 ^ min x68_3.toNat 64)) = ji58 := (i64_w _).symm.trans hji58_
                                      have hji58x : x68_3 ≤ 64 → (wrap64 (1 * 2 ^ x68_3.toNat)) = ji58 := fun h_ => (i64_w _).symm.trans (hji58z h_)
                                      by_cases c59 : 0 ≤ (Go.bits .or .i64 x54_2 (ji58))
                                      ·rw [if_pos c59] at H
                                       have c59b0 : decide (0 ≤ (Go.bits .or .i64 x54_2 (ji58))) = true := decide_eq_true c59
                                       clear c59
                                       by_cases c60 : (Go.bits .or .i64 x54_2 (ji58)) < ((rd_L1 x7_3 (ji54)).length : Int)
                                       ·rw [if_pos c60] at H
                                        have c60b0 : decide ((Go.bits .or .i64 x54_2 (ji58)) < ((rd_L1 x7_3 (ji54)).length : Int)) = true := decide_eq_true c60
                                        clear c60
                                        obtain ⟨ji61, hji61⟩ : ∃ j_ : Int, (mn (rd (rd_L1 x7_3 x8_1) x54_2) (wrap64 ((rd (rd_L1 l0 x8_1) x68_3) + (rd (rd_L1 x7_3 (ji54)) (Go.bits .or .i64 x54_2 (ji58)))))) = j_ := ⟨_, rfl⟩
                                        replace H : (match_Assign.l2 k3 l0 ((rd_L1 l0 0).length : Int) (x7_3.set (x8_1 : Int).toNat ((rd_L1 x7_3 x8_1).set (x54_2 : Int).toNat (ji61))) x8_1 x54_2 ((rd_L1 y116 x8_1).length : Int) x54_2 (rd_L1 l0 x8_1) ((rd_L1 l0 x8_1).length : Int) (wrap64 (x68_3 + 1))) = some (r1, r2, r3) := by first | (rw [hji61] at H; exact H) | (simp only [hji61] at H ⊢; exact H)
                                        have hji61_ : (if (wrap64 ((rd (rd_L1 l0 x8_1) x68_3) + (rd (rd_L1 x7_3 (ji54)) (Go.bits .or .i64 x54_2 (ji58))))) < (rd (rd_L1 x7_3 x8_1) x54_2) then (wrap64 ((rd (rd_L1 l0 x8_1) x68_3) + (rd (rd_L1 x7_3 (ji54)) (Go.bits .or .i64 x54_2 (ji58))))) else (rd (rd_L1 x7_3 x8_1) x54_2)) = ji61 := hji61
                                        obtain ⟨y129, hy129⟩ : ∃ y_ : List Int, y_ = ((rd_L1 x7_3 x8_1).set (x54_2 : Int).toNat (ji61)) := ⟨_, rfl⟩
                                        replace H : (match_Assign.l2 k3 l0 ((rd_L1 l0 0).length : Int) (x7_3.set (x8_1 : Int).toNat y129) x8_1 x54_2 ((rd_L1 y116 x8_1).length : Int) x54_2 (rd_L1 l0 x8_1) ((rd_L1 l0 x8_1).length : Int) (wrap64 (x68_3 + 1))) = some (r1, r2, r3) := by first | (rw [hy129]; with_reducible exact H) | (have H2_ := (Option.bind_some _ _).symm.trans H; rw [hy129]; with_reducible exact H2_) | (have H2_ := (Option.bind_some _ _).symm.trans H; with_reducible exact H2_) | with_reducible exact H | (rw [hy129]; exact H) | exact H
                                        have Ny129 := Aside0.mk hy129
                                        clear hy129
                                        obtain ⟨y131, hy131⟩ : ∃ y_ : List (List Int), y_ = (x7_3.set (x8_1 : Int).toNat y129) := ⟨_, rfl⟩
                                        replace H : (match_Assign.l2 k3 l0 ((rd_L1 l0 0).length : Int) y131 x8_1 x54_2 ((rd_L1 y116 x8_1).length : Int) x54_2 (rd_L1 l0 x8_1) ((rd_L1 l0 x8_1).length : Int) (wrap64 (x68_3 + 1))) = some (r1, r2, r3) := by first | (rw [hy131]; with_reducible exact H) | (have H2_ := (Option.bind_some _ _).symm.trans H; rw [hy131]; with_reducible exact H2_) | (have H2_ := (Option.bind_some _ _).symm.trans H; with_reducible exact H2_) | with_reducible exact H | (rw [hy131]; exact H) | exact H
                                        have Ny131 := Aside0.mk hy131
                                        clear hy131
                                        have H' := Aside0.mk H
                                        clear H
                                        have p123 : 0 ≤ (x68_3 : Int) := of_decide_eq_true (by first | (with_reducible assumption) | assumption)
                                        have q123 : x68_3 < ((rd_L1 l0 x8_1).length : Int) := of_decide_eq_true (by first | (with_reducible assumption) | assumption)
                                        obtain ⟨ad123, e123, hx123_0⟩ := Kd.at_int HR122_0.out x68_3 p123 q123
                                        cases e123
                                        replace hx123_0 := (HB.out.cell (World.block_lt_of_cell? w _ hx123_0)).trans hx123_0
                                        replace p123 := eq_true p123
                                        replace q123 := eq_true q123
                                        try go_wp2
                                        have n0_ := Aside0.mk (Kd.S_drew HO_7.out)
                                        have n1_ := Aside0.mk (below_drew1 HB.out)
                                        clear HO_7
                                        clear HB
                                        have HO_7 := n0_
                                        have HB := n1_
                                        clear n0_ n1_
                                        have p124 : 0 ≤ (x8_1 : Int) := of_decide_eq_true (by first | (with_reducible assumption) | assumption)
                                        have q124 : x8_1 < (x7_3.length : Int) := of_decide_eq_true (by first | (with_reducible assumption) | assumption)
                                        obtain ⟨ad124, A124_0, c124_0, e124, hx124_0, hl124_0, hi124_0⟩ := at_L1 (Kd.S_reads' HO_7.out).2.2 x8_1 p124 q124
                                        obtain rfl : (⟨go15, 0, none⟩ : Addr) = ad124 := (by injection e124)
                                        obtain ⟨ce124, hce124, hMe124, hcc124⟩ := Kd.S_get HO_7.out [] x8_1 p124 (by first | exact q124 | exact of_decide_eq_true (by first | (with_reducible assumption) | assumption) | (have e_ := (Kd.S_reads' HO_7.out).1; omega))
                                        obtain ⟨ve124_0, rfl, ge124_0⟩ := hMe124
                                        have hv124_0 := hcc124 0 _ rfl
                                        rw [Nat.add_zero, show ((Kd.slice 3 (Kd.int .i64))).sz = 1 from rfl, Nat.mul_one] at hv124_0
                                        replace hv124_0 := Option.some.inj (hv124_0.symm.trans hx124_0)
                                        rw [hv124_0] at ge124_0
                                        have HL124_0 := Aside0.mk (show Kd.R (Kd.int .i64) 3 _ _ _ _ (rd_L1 x7_3 x8_1) from ge124_0)
                                        clear hv124_0 ge124_0
                                        have HX124_0 := Aside0.mk hx124_0
                                        clear hcc124 hce124
                                        (first | simp only [add_plain] at hx124_0 | simp only [add_at] at hx124_0 | simp only [Addr.add, Nat.zero_add] at hx124_0 | skip)
                                        have HR124_0 := Aside0.mk hi124_0
                                        have HC124_0 := Aside0.mk hl124_0
                                        clear hi124_0 hl124_0
                                        replace p124 := eq_true p124
                                        replace q124 := eq_true q124
                                        have p125 : 0 ≤ (x8_1 : Int) := of_decide_eq_true (by first | (with_reducible assumption) | assumption)
                                        have q125 : x8_1 < (x7_3.length : Int) := of_decide_eq_true (by first | (with_reducible assumption) | assumption)
                                        obtain ⟨ad125, A125_0, c125_0, e125, hx125_0, hl125_0, hi125_0⟩ := at_L1 (Kd.S_reads' HO_7.out).2.2 x8_1 p125 q125
                                        obtain rfl : (⟨go15, 0, none⟩ : Addr) = ad125 := (by injection e125)
                                        obtain ⟨ce125, hce125, hMe125, hcc125⟩ := Kd.S_get HO_7.out [] x8_1 p125 (by first | exact q125 | exact of_decide_eq_true (by first | (with_reducible assumption) | assumption) | (have e_ := (Kd.S_reads' HO_7.out).1; omega))
                                        obtain ⟨ve125_0, rfl, ge125_0⟩ := hMe125
                                        have hv125_0 := hcc125 0 _ rfl
                                        rw [Nat.add_zero, show ((Kd.slice 3 (Kd.int .i64))).sz = 1 from rfl, Nat.mul_one] at hv125_0
                                        replace hv125_0 := Option.some.inj (hv125_0.symm.trans hx125_0)
                                        rw [hv125_0] at ge125_0
                                        have HL125_0 := Aside0.mk (show Kd.R (Kd.int .i64) 3 _ _ _ _ (rd_L1 x7_3 x8_1) from ge125_0)
                                        clear hv125_0 ge125_0
                                        have HX125_0 := Aside0.mk hx125_0
                                        clear hcc125 hce125
                                        (first | simp only [add_plain] at hx125_0 | simp only [add_at] at hx125_0 | simp only [Addr.add, Nat.zero_add] at hx125_0 | skip)
                                        have HR125_0 := Aside0.mk hi125_0
                                        have HC125_0 := Aside0.mk hl125_0
                                        clear hi125_0 hl125_0
                                        replace p125 := eq_true p125
                                        replace q125 := eq_true q125
                                        have ea_ := Option.some.inj (hx124_0.symm.trans hx125_0)
                                        injection ea_ with ea_ en_ ec_
                                        subst ea_
                                        subst ec_
                                        clear en_
                                        have p126 : 0 ≤ (x54_2 : Int) := of_decide_eq_true (by first | (with_reducible assumption) | assumption)
                                        have q126 : x54_2 < ((rd_L1 x7_3 x8_1).length : Int) := of_decide_eq_true (by first | (with_reducible assumption) | assumption)
                                        obtain ⟨ad126, e126, hx126_0⟩ := Kd.at_int (by repeat (first | (with_reducible exact HR125_0.out) | (with_reducible refine Kd.C_alloc ?_ _) | (with_reducible refine Kd.C_drewN ?_ _) | (with_reducible refine Kd.C_drew ?_) | exact HR125_0.out)) x54_2 p126 q126
                                        cases e126
                                        replace p126 := eq_true p126
                                        replace q126 := eq_true q126
                                        have p127 : 0 ≤ ((ji54) : Int) := of_decide_eq_true (by first | (with_reducible assumption) | assumption)
                                        have q127 : (ji54) < (x7_3.length : Int) := of_decide_eq_true (by first | (with_reducible assumption) | assumption)
                                        obtain ⟨ad127, A127_0, c127_0, e127, hx127_0, hl127_0, hi127_0⟩ := at_L1 (Kd.S_reads' HO_7.out).2.2 (ji54) p127 q127
                                        obtain rfl : (⟨go15, 0, none⟩ : Addr) = ad127 := (by injection e127)
                                        obtain ⟨ce127, hce127, hMe127, hcc127⟩ := Kd.S_get HO_7.out [] (ji54) p127 (by first | exact q127 | exact of_decide_eq_true (by first | (with_reducible assumption) | assumption) | (have e_ := (Kd.S_reads' HO_7.out).1; omega))
                                        obtain ⟨ve127_0, rfl, ge127_0⟩ := hMe127
                                        have hv127_0 := hcc127 0 _ rfl
                                        rw [Nat.add_zero, show ((Kd.slice 3 (Kd.int .i64))).sz = 1 from rfl, Nat.mul_one] at hv127_0
                                        replace hv127_0 := Option.some.inj (hv127_0.symm.trans hx127_0)
                                        rw [hv127_0] at ge127_0
                                        have HL127_0 := Aside0.mk (show Kd.R (Kd.int .i64) 3 _ _ _ _ (rd_L1 x7_3 (ji54)) from ge127_0)
                                        clear hv127_0 ge127_0
                                        have HX127_0 := Aside0.mk hx127_0
                                        clear hcc127 hce127
                                        (first | simp only [add_plain] at hx127_0 | simp only [add_at] at hx127_0 | simp only [Addr.add, Nat.zero_add] at hx127_0 | skip)
                                        have HR127_0 := Aside0.mk hi127_0
                                        have HC127_0 := Aside0.mk hl127_0
                                        clear hi127_0 hl127_0
                                        replace p127 := eq_true p127
                                        replace q127 := eq_true q127
                                        have p128 : 0 ≤ ((Go.bits .or .i64 x54_2 (ji58)) : Int) := of_decide_eq_true (by first | (with_reducible assumption) | assumption)
                                        have q128 : (Go.bits .or .i64 x54_2 (ji58)) < ((rd_L1 x7_3 (ji54)).length : Int) := of_decide_eq_true (by first | (with_reducible assumption) | assumption)
                                        obtain ⟨ad128, e128, hx128_0⟩ := Kd.at_int (by repeat (first | (with_reducible exact HR127_0.out) | (with_reducible refine Kd.C_alloc ?_ _) | (with_reducible refine Kd.C_drewN ?_ _) | (with_reducible refine Kd.C_drew ?_) | exact HR127_0.out)) (Go.bits .or .i64 x54_2 (ji58)) p128 q128
                                        cases e128
                                        replace p128 := eq_true p128
                                        replace q128 := eq_true q128
                                        have p62 : 0 ≤ (x54_2 : Int) := of_decide_eq_true (by first | (with_reducible assumption) | assumption)
                                        have q62 : (x54_2 : Int) < (((rd_L1 x7_3 x8_1).length : Int) : Int) := of_decide_eq_true (by first | (with_reducible assumption) | assumption)
                                        obtain ⟨go62, co62, eo62, gb62, gl62, cl62, HG62⟩ := Kd.R_form HL124_0.out (by omega)
                                        (first | cases eo62 | (injection eo62 with ea_ en_ ec_; (first | subst ea_ | (injection ea_ with ea_; subst ea_)); subst ec_; clear en_))
                                        have GB62 := Aside0.mk gb62
                                        have GG62 := Aside0.mk HG62
                                        clear gb62 gl62 HG62
                                        (first | simp only [add_plain] at hx126_0 | skip)
                                        obtain ⟨hx62_0, hf62_0⟩ := Kd.R_celln 0 HL124_0.out (x54_2 : Int) p62 q62
                                        replace p62 := eq_true p62
                                        replace q62 := eq_true q62
                                        have hq64 : (x8_1 : Int) < (x7_3.length : Int) := (by have h_ : (x8_1 : Int) < ((x7_3.length : Int) : Int) := of_decide_eq_true (by first | (with_reducible assumption) | assumption); first | exact h_ | (have e_ := (Kd.S_reads' HO_7.out).1; omega) | simpa only [List.length_set, List.length_set] using h_)
                                        obtain ⟨oki64, ce64, hcl64, hM64, hcc64, hok64, hbk64⟩ := Kd.S_borrow HO_7.out [] (x8_1 : Int) (of_decide_eq_true (by first | (with_reducible assumption) | assumption)) hq64
                                        obtain ⟨ve64_0, rfl, ge64_0⟩ := hM64
                                        have hv64 := hcc64 0 _ rfl
                                        rw [Nat.add_zero, show ((Kd.slice 3 (Kd.int .i64))).sz = 1 from rfl, Nat.mul_one] at hv64
                                        replace hv64 := Option.some.inj (hv64.symm.trans HX124_0.out)
                                        subst hv64
                                        clear hcc64 hcl64
                                        replace ge64_0 := (show Kd.R (Kd.int .i64) 3 _ _ _ _ (rd_L1 x7_3 x8_1) from ge64_0)
                                        have HP64 := Kd.R_putg ge64_0 (x54_2 : Int) ji61
                                        rw [← Ny129.out] at HP64
                                        have HS64 := hbk64 HP64.2 (fun k_ e_ => by injection e_ with e_; subst e_; exact ge64_0.1 _ rfl) (x' := y129) (Kd.M_row HP64.1)
                                        rw [← Ny131.out] at HS64
                                        have HQ64 := Aside0.mk HS64
                                        clear HP64 HS64 hbk64 hok64
                                        refine start_ (n := 28) (S := fun w' => w'.cell? ⟨go15, (x8_1).toNat, none⟩ = some (.slice (some ⟨go62, 0, none⟩) (rd_L1 x7_3 x8_1).length c124_0) ∧ w'.cell? ⟨go15, (x8_1).toNat, none⟩ = some (.slice (some ⟨go62, 0, none⟩) (rd_L1 x7_3 x8_1).length c124_0) ∧ w'.cell? ⟨go62, (x54_2).toNat, none⟩ = some (.int .i64 (rd (rd_L1 x7_3 x8_1) x54_2)) ∧ w'.cell? ⟨go15, ((ji54)).toNat, none⟩ = some (.slice (some ad128) (rd_L1 x7_3 (ji54)).length c127_0) ∧ w'.cell? (ad128.add ((Go.bits .or .i64 x54_2 (ji58))).toNat) = some (.int .i64 (rd (rd_L1 x7_3 (ji54)) (Go.bits .or .i64 x54_2 (ji58))))) (ds := [27]) #[false, false, false, false, false, false, false, false, false, false, false, false, false, false, false, false, false, false, false, false, false, false, false, false, false, false, false, false] (by kernel_rfl) rfl rfl ⟨hx124_0, hx125_0, hx126_0, hx127_0, hx128_0⟩ (fun hHeld => ?_); refine with_tabW match_Assign.tab21 match_Assign.bits21 (fun HT_ HW_ => ?_)
                                        generalize wr.drew = w63 at HO_7 HB GG62 HL124_0 HL125_0 HL127_0 HQ64 HR124_0 HR125_0 HR127_0 HX124_0 HX125_0 HX127_0 hf62_0 hx124_0 hx125_0 hx126_0 hx127_0 hx128_0 hx62_0 hHeld ⊢
                                        refine pure_ (i := 0) (N := some 78) (v := ?_) (a' := ?_) #[true, false, false, false, false, false, false, false, false, false, false, false, false, false, false, false, false, false, false, false, false, false, false, false, false, false, false, false] rfl rfl (any_of HT_.out (by kernel_rfl)) (fun _ _ _ h => h) (Or.inl ⟨by rfl, ?_⟩) ?_ ?_
                                        rotate_left
                                        ·intro w'
                                         go_simp
                                         with_reducible rfl
                                        rotate_left
                                        ·simp only [Act.put, List.setIfInBounds_toArray, List.set_cons_zero, List.set_cons_succ, i64_w, i32_w]
                                         rfl
                                        refine pure_ (i := 1) (N := some 79) (v := ?_) (a' := ?_) #[true, true, false, false, false, false, false, false, false, false, false, false, false, false, false, false, false, false, false, false, false, false, false, false, false, false, false, false] rfl rfl (any_of HT_.out (by kernel_rfl)) (fun _ _ _ h => h) (Or.inl ⟨by rfl, ?_⟩) ?_ ?_
                                        rotate_left
                                        ·intro w'
                                         go_simp
                                         with_reducible rfl
                                        rotate_left
                                        ·simp only [Act.put, List.setIfInBounds_toArray, List.set_cons_zero, List.set_cons_succ, i64_w, i32_w]
                                         rfl
                                        refine pure_ (i := 2) (N := some 80) (v := ?_) (a' := ?_) #[true, true, true, false, false, false, false, false, false, false, false, false, false, false, false, false, false, false, false, false, false, false, false, false, false, false, false, false] rfl rfl (any_of HT_.out (by kernel_rfl)) (fun _ _ _ h => h) (Or.inl ⟨by rfl, ?_⟩) ?_ ?_
                                        rotate_left
                                        ·intro w'
                                         go_simp
                                         with_reducible rfl
                                        rotate_left
                                        ·simp only [Act.put, List.setIfInBounds_toArray, List.set_cons_zero, List.set_cons_succ, i64_w, i32_w]
                                         rfl
                                        refine pure_ (i := 4) (N := some 82) (v := ?_) (a' := ?_) #[true, true, true, false, true, false, false, false, false, false, false, false, false, false, false, false, false, false, false, false, false, false, false, false, false, false, false, false] rfl rfl (any_of HT_.out (by kernel_rfl)) (fun _ _ _ h => h) (Or.inl ⟨by rfl, ?_⟩) ?_ ?_
                                        rotate_left
                                        ·intro w'
                                         go_simp
                                         with_reducible rfl
                                        rotate_left
                                        ·simp only [Act.put, List.setIfInBounds_toArray, List.set_cons_zero, List.set_cons_succ, i64_w, i32_w]
                                         rfl
                                        refine pure_ (i := 5) (N := some 83) (v := ?_) (a' := ?_) #[true, true, true, false, true, true, false, false, false, false, false, false, false, false, false, false, false, false, false, false, false, false, false, false, false, false, false, false] rfl rfl (any_of HT_.out (by kernel_rfl)) (fun _ _ _ h => h) (Or.inl ⟨by rfl, ?_⟩) ?_ ?_
                                        rotate_left
                                        ·intro w'
                                         go_simp
                                         with_reducible rfl
                                        rotate_left
                                        ·simp only [Act.put, List.setIfInBounds_toArray, List.set_cons_zero, List.set_cons_succ, i64_w, i32_w]
                                         rfl
                                        refine pure_ (i := 6) (N := some 84) (v := ?_) (a' := ?_) #[true, true, true, false, true, true, true, false, false, false, false, false, false, false, false, false, false, false, false, false, false, false, false, false, false, false, false, false] rfl rfl (any_of HT_.out (by kernel_rfl)) (fun _ _ _ h => h) (Or.inl ⟨by rfl, ?_⟩) ?_ ?_
                                        rotate_left
                                        ·intro w'
                                         go_simp
                                         with_reducible rfl
                                        rotate_left
                                        ·simp only [Act.put, List.setIfInBounds_toArray, List.set_cons_zero, List.set_cons_succ, i64_w, i32_w]
                                         rfl
                                        refine pure_ (i := 7) (N := some 85) (v := ?_) (a' := ?_) #[true, true, true, false, true, true, true, true, false, false, false, false, false, false, false, false, false, false, false, false, false, false, false, false, false, false, false, false] rfl rfl (any_of HT_.out (by kernel_rfl)) (fun _ _ _ h => h) (Or.inl ⟨by rfl, ?_⟩) ?_ ?_
                                        rotate_left
                                        ·intro w'
                                         go_simp
                                         with_reducible rfl
                                        rotate_left
                                        ·simp only [Act.put, List.setIfInBounds_toArray, List.set_cons_zero, List.set_cons_succ, i64_w, i32_w]
                                         rfl
                                        refine pure_ (i := 9) (N := some 87) (v := ?_) (a' := ?_) #[true, true, true, false, true, true, true, true, false, true, false, false, false, false, false, false, false, false, false, false, false, false, false, false, false, false, false, false] rfl rfl (any_of HT_.out (by kernel_rfl)) (fun _ _ _ h => h) (Or.inl ⟨by rfl, ?_⟩) ?_ ?_
                                        rotate_left
                                        ·intro w'
                                         go_simp
                                         with_reducible rfl
                                        rotate_left
                                        ·simp only [Act.put, List.setIfInBounds_toArray, List.set_cons_zero, List.set_cons_succ, i64_w, i32_w]
                                         rfl
                                        refine pure_ (i := 12) (N := some 90) (v := ?_) (a' := ?_) #[true, true, true, false, true, true, true, true, false, true, false, false, true, false, false, false, false, false, false, false, false, false, false, false, false, false, false, false] rfl rfl (any_of HT_.out (by kernel_rfl)) (fun _ _ _ h => h) (Or.inl ⟨by rfl, ?_⟩) ?_ ?_
                                        rotate_left
                                        ·intro w'
                                         go_simp
                                         with_reducible rfl
                                        rotate_left
                                        ·simp only [Act.put, List.setIfInBounds_toArray, List.set_cons_zero, List.set_cons_succ, i64_w, i32_w]
                                         rfl
                                        refine pure_ (i := 13) (N := some 91) (v := ?_) (a' := ?_) #[true, true, true, false, true, true, true, true, false, true, false, false, true, true, false, false, false, false, false, false, false, false, false, false, false, false, false, false] rfl rfl (any_of HT_.out (by kernel_rfl)) (fun _ _ _ h => h) (Or.inl ⟨by rfl, ?_⟩) ?_ ?_
                                        rotate_left
                                        ·intro w'
                                         go_simp
                                         with_reducible rfl
                                        rotate_left
                                        ·simp only [Act.put, List.setIfInBounds_toArray, List.set_cons_zero, List.set_cons_succ, i64_w, i32_w]
                                         rfl
                                        refine pure_ (i := 14) (N := some 92) (v := ?_) (a' := ?_) #[true, true, true, false, true, true, true, true, false, true, false, false, true, true, true, false, false, false, false, false, false, false, false, false, false, false, false, false] rfl rfl (any_of HT_.out (by kernel_rfl)) (fun _ _ _ h => h) (Or.inl ⟨by rfl, ?_⟩) ?_ ?_
                                        rotate_left
                                        ·intro w'
                                         go_simp
                                         with_reducible rfl
                                        rotate_left
                                        ·simp only [Act.put, List.setIfInBounds_toArray, List.set_cons_zero, List.set_cons_succ, i64_w, i32_w]
                                         rfl
                                        refine pure_ (i := 15) (N := some 93) (v := ?_) (a' := ?_) #[true, true, true, false, true, true, true, true, false, true, false, false, true, true, true, true, false, false, false, false, false, false, false, false, false, false, false, false] rfl rfl (any_of HT_.out (by kernel_rfl)) (fun _ _ _ h => h) (Or.inl ⟨by rfl, ?_⟩) ?_ ?_
                                        rotate_left
                                        ·intro w'
                                         go_simp
                                         with_reducible rfl
                                        rotate_left
                                        ·simp only [Act.put, List.setIfInBounds_toArray, List.set_cons_zero, List.set_cons_succ, i64_w, i32_w]
                                         rfl
                                        refine pure_ (i := 16) (N := some 94) (v := ?_) (a' := ?_) #[true, true, true, false, true, true, true, true, false, true, false, false, true, true, true, true, true, false, false, false, false, false, false, false, false, false, false, false] rfl rfl (any_of HT_.out (by kernel_rfl)) (fun _ _ _ h => h) (Or.inl ⟨by rfl, ?_⟩) ?_ ?_
                                        rotate_left
                                        ·intro w'
                                         go_simp
                                         with_reducible rfl
                                        rotate_left
                                        ·simp only [Act.put, List.setIfInBounds_toArray, List.set_cons_zero, List.set_cons_succ, i64_w, i32_w]
                                         rfl
                                        refine pure_ (i := 18) (N := some 96) (v := ?_) (a' := ?_) #[true, true, true, false, true, true, true, true, false, true, false, false, true, true, true, true, true, false, true, false, false, false, false, false, false, false, false, false] rfl rfl (any_of HT_.out (by kernel_rfl)) (fun _ _ _ h => h) (Or.inl ⟨by rfl, ?_⟩) ?_ ?_
                                        rotate_left
                                        ·intro w'
                                         go_simp
                                         with_reducible rfl
                                        rotate_left
                                        ·simp only [Act.put, List.setIfInBounds_toArray, List.set_cons_zero, List.set_cons_succ, i64_w, i32_w]
                                         rfl
                                        refine pure_ (i := 19) (N := some 97) (v := ?_) (a' := ?_) #[true, true, true, false, true, true, true, true, false, true, false, false, true, true, true, true, true, false, true, true, false, false, false, false, false, false, false, false] rfl rfl (any_of HT_.out (by kernel_rfl)) (fun _ _ _ h => h) (Or.inl ⟨by rfl, ?_⟩) ?_ ?_
                                        rotate_left
                                        ·intro w'
                                         go_simp
                                         with_reducible rfl
                                        rotate_left
                                        ·simp only [Act.put, List.setIfInBounds_toArray, List.set_cons_zero, List.set_cons_succ, i64_w, i32_w]
                                         rfl
                                        refine pure_ (i := 20) (N := some 98) (v := ?_) (a' := ?_) #[true, true, true, false, true, true, true, true, false, true, false, false, true, true, true, true, true, false, true, true, true, false, false, false, false, false, false, false] rfl rfl (any_of HT_.out (by kernel_rfl)) (fun _ _ _ h => h) (Or.inl ⟨by rfl, ?_⟩) ?_ ?_
                                        rotate_left
                                        ·intro w'
                                         go_simp
                                         with_reducible rfl
                                        rotate_left
                                        ·simp only [Act.put, List.setIfInBounds_toArray, List.set_cons_zero, List.set_cons_succ, i64_w, i32_w]
                                         rfl
                                        refine pure_ (i := 21) (N := some 99) (v := ?_) (a' := ?_) #[true, true, true, false, true, true, true, true, false, true, false, false, true, true, true, true, true, false, true, true, true, true, false, false, false, false, false, false] rfl rfl (any_of HT_.out (by kernel_rfl)) (fun _ _ _ h => h) (Or.inl ⟨by rfl, ?_⟩) ?_ ?_
                                        rotate_left
                                        ·intro w'
                                         go_simp
                                         with_reducible rfl
                                        rotate_left
                                        ·simp only [Act.put, List.setIfInBounds_toArray, List.set_cons_zero, List.set_cons_succ, i64_w, i32_w]
                                         rfl
                                        refine take_ (i := 3) (N := some 81) (v := ?_) (a' := ?_) #[true, true, true, true, true, true, true, true, false, true, false, false, true, true, true, true, true, false, true, true, true, true, false, false, false, false, false, false] rfl rfl (take_ofW HT_.out HW_.out (by kernel_rfl)) (fun _ _ _ h => h) (Or.inl ⟨by rfl, ?_⟩) hHeld ?_ ?_
                                        rotate_left
                                        ·rintro w' ⟨s0, s1, s2, s3, s4⟩
                                         go_simp
                                         with_reducible rfl
                                        rotate_left
                                        ·simp only [Act.put, List.setIfInBounds_toArray, List.set_cons_zero, List.set_cons_succ, i64_w, i32_w]
                                         rfl
                                        refine take_ (i := 8) (N := some 86) (v := ?_) (a' := ?_) #[true, true, true, true, true, true, true, true, true, true, false, false, true, true, true, true, true, false, true, true, true, true, false, false, false, false, false, false] rfl rfl (take_ofW HT_.out HW_.out (by kernel_rfl)) (fun _ _ _ h => h) (Or.inl ⟨by rfl, ?_⟩) hHeld ?_ ?_
                                        rotate_left
                                        ·rintro w' ⟨s0, s1, s2, s3, s4⟩
                                         go_simp
                                         with_reducible rfl
                                        rotate_left
                                        ·simp only [Act.put, List.setIfInBounds_toArray, List.set_cons_zero, List.set_cons_succ, i64_w, i32_w]
                                         rfl
                                        refine pure_ (i := 10) (N := some 88) (v := ?_) (a' := ?_) #[true, true, true, true, true, true, true, true, true, true, true, false, true, true, true, true, true, false, true, true, true, true, false, false, false, false, false, false] rfl rfl (any_of HT_.out (by kernel_rfl)) (fun _ _ _ h => h) (Or.inl ⟨by rfl, ?_⟩) ?_ ?_
                                        rotate_left
                                        ·intro w'
                                         go_simp
                                         with_reducible rfl
                                        rotate_left
                                        ·simp only [Act.put, List.setIfInBounds_toArray, List.set_cons_zero, List.set_cons_succ, i64_w, i32_w]
                                         rfl
                                        refine take_ (i := 11) (N := some 89) (v := ?_) (a' := ?_) #[true, true, true, true, true, true, true, true, true, true, true, true, true, true, true, true, true, false, true, true, true, true, false, false, false, false, false, false] rfl rfl (take_ofW HT_.out HW_.out (by kernel_rfl)) (fun _ _ _ h => h) (Or.inl ⟨by rfl, ?_⟩) hHeld ?_ ?_
                                        rotate_left
                                        ·rintro w' ⟨s0, s1, s2, s3, s4⟩
                                         go_simp
                                         with_reducible rfl
                                        rotate_left
                                        ·simp only [Act.put, List.setIfInBounds_toArray, List.set_cons_zero, List.set_cons_succ, i64_w, i32_w]
                                         rfl
                                        refine take_ (i := 17) (N := some 95) (v := ?_) (a' := ?_) #[true, true, true, true, true, true, true, true, true, true, true, true, true, true, true, true, true, true, true, true, true, true, false, false, false, false, false, false] rfl rfl (take_ofW HT_.out HW_.out (by kernel_rfl)) (fun _ _ _ h => h) (Or.inl ⟨by rfl, ?_⟩) hHeld ?_ ?_
                                        rotate_left
                                        ·rintro w' ⟨s0, s1, s2, s3, s4⟩
                                         go_simp
                                         with_reducible rfl
                                        rotate_left
                                        ·simp only [Act.put, List.setIfInBounds_toArray, List.set_cons_zero, List.set_cons_succ, i64_w, i32_w]
                                         rfl
                                        refine pure_ (i := 22) (N := some 100) (v := ?_) (a' := ?_) #[true, true, true, true, true, true, true, true, true, true, true, true, true, true, true, true, true, true, true, true, true, true, true, false, false, false, false, false] rfl rfl (any_of HT_.out (by kernel_rfl)) (fun _ _ _ h => h) (Or.inl ⟨by rfl, ?_⟩) ?_ ?_
                                        rotate_left
                                        ·intro w'
                                         go_simp
                                         with_reducible rfl
                                        rotate_left
                                        ·simp only [Act.put, List.setIfInBounds_toArray, List.set_cons_zero, List.set_cons_succ, i64_w, i32_w]
                                         rfl
                                        refine take_ (i := 23) (N := some 101) (v := ?_) (a' := ?_) #[true, true, true, true, true, true, true, true, true, true, true, true, true, true, true, true, true, true, true, true, true, true, true, true, false, false, false, false] rfl rfl (take_ofW HT_.out HW_.out (by kernel_rfl)) (fun _ _ _ h => h) (Or.inl ⟨by rfl, ?_⟩) hHeld ?_ ?_
                                        rotate_left
                                        ·rintro w' ⟨s0, s1, s2, s3, s4⟩
                                         go_simp
                                         with_reducible rfl
                                        rotate_left
                                        ·simp only [Act.put, List.setIfInBounds_toArray, List.set_cons_zero, List.set_cons_succ, i64_w, i32_w]
                                         rfl
                                        refine pure_ (i := 24) (N := some 102) (v := ?_) (a' := ?_) #[true, true, true, true, true, true, true, true, true, true, true, true, true, true, true, true, true, true, true, true, true, true, true, true, true, false, false, false] rfl rfl (any_of HT_.out (by kernel_rfl)) (fun _ _ _ h => h) (Or.inl ⟨by rfl, ?_⟩) ?_ ?_
                                        rotate_left
                                        ·intro w'
                                         go_simp
                                         with_reducible rfl
                                        rotate_left
                                        ·simp only [Act.put, List.setIfInBounds_toArray, List.set_cons_zero, List.set_cons_succ, i64_w, i32_w]
                                         rfl
                                        refine pure_ (i := 25) (N := some 103) (v := ?_) (a' := ?_) #[true, true, true, true, true, true, true, true, true, true, true, true, true, true, true, true, true, true, true, true, true, true, true, true, true, true, false, false] rfl rfl (any_of HT_.out (by kernel_rfl)) (fun _ _ _ h => h) (Or.inl ⟨by rfl, ?_⟩) ?_ ?_
                                        rotate_left
                                        ·intro w'
                                         go_simp
                                         with_reducible rfl
                                        rotate_left
                                        ·simp only [Act.put, List.setIfInBounds_toArray, List.set_cons_zero, List.set_cons_succ, i64_w, i32_w]
                                         rfl
                                        refine pure_ (i := 26) (N := some 104) (v := ?_) (a' := ?_) #[true, true, true, true, true, true, true, true, true, true, true, true, true, true, true, true, true, true, true, true, true, true, true, true, true, true, true, false] rfl rfl (any_of HT_.out (by kernel_rfl)) (fun _ _ _ h => h) (Or.inl ⟨by rfl, ?_⟩) ?_ ?_
                                        rotate_left
                                        ·intro w'
                                         go_simp
                                         with_reducible rfl
                                        rotate_left
                                        ·simp only [Act.put, List.setIfInBounds_toArray, List.set_cons_zero, List.set_cons_succ, i64_w, i32_w]
                                         rfl
                                        refine last_ (i := 27) (N := none) #[true, true, true, true, true, true, true, true, true, true, true, true, true, true, true, true, true, true, true, true, true, true, true, true, true, true, true, true] rfl rfl (one_of HT_.out (by kernel_rfl)) (by decide) (fun K hK => ?_)
                                        refine skip_ (w1 := ?_) (by rfl) rfl ?_ ?_
                                        rotate_left
                                        ·go_simp
                                         rfl
                                        refine hK.out _ _ ?_
                                        clear hK K
                                        refine done_ (done_of HT_.out (by kernel_rfl)) ?_
                                        try go_wp2
                                        (try simp only [← hl7_3])
                                        go_roundg k3
                                        case measure => have := HK1.out; have := HK2.out; have := HK3.out; omega
                                        case rel => exact ⟨(y131), (wrap64 (x68_3 + 1)), (by first | rfl | (simp; done) | (simp [*]; done)), H', ⟨by have := HK1.out; have := HK2.out; have := HK3.out; omega⟩, ⟨by (try simp only [hl7_1]); (try simp only [hl7_2]); (try simp only [hl7_3]); (with_reducible repeat (first | apply Kd.S_alloc | apply Kd.S_drewN | apply Kd.S_drew)); exact HQ64.out⟩, ⟨by repeat (first | (with_reducible first | exact HB.out | apply below_alloc | apply pw_below_drewN | apply below_drew1 | refine below_set ?_ GB62.out) | exact HB.out)⟩⟩
                                       ·rw [if_neg c60] at H
                                        exact absurd H (by simp)
                                      ·rw [if_neg c59] at H
                                       exact absurd H (by simp)
                                     ·rw [if_neg c56] at H
                                      exact absurd H (by simp)
                                    ·rw [if_neg c55] at H
                                     exact absurd H (by simp)
                                   ·rw [if_neg c53] at H
                                    exact absurd H (by simp)
                                  ·rw [if_neg c52] at H
                                   exact absurd H (by simp)
                                 ·rw [if_neg c51] at H
                                  exact absurd H (by simp)
                                ·rw [if_neg c50] at H
                                 exact absurd H (by simp)
                               ·rw [if_neg c49] at H
                                have c49b0 : ((Go.bits .and .i64 (ji48) 1) == 0) = false := beq_eq_false_iff_ne.mpr c49
                                have c49b1 : ((Go.bits .and .i64 (ji48) 1) != 0) = true := bne_iff_ne.mpr c49
                                have H' := Aside0.mk H
                                clear H
                                have p123 : 0 ≤ (x68_3 : Int) := of_decide_eq_true (by first | (with_reducible assumption) | assumption)
                                have q123 : x68_3 < ((rd_L1 l0 x8_1).length : Int) := of_decide_eq_true (by first | (with_reducible assumption) | assumption)
                                obtain ⟨ad123, e123, hx123_0⟩ := Kd.at_int HR122_0.out x68_3 p123 q123
                                cases e123
                                replace hx123_0 := (HB.out.cell (World.block_lt_of_cell? w _ hx123_0)).trans hx123_0
                                replace p123 := eq_true p123
                                replace q123 := eq_true q123
                                go_wp2
                                (try simp only [← hl7_3])
                                go_roundg k3
                                case measure => have := HK1.out; have := HK2.out; have := HK3.out; omega
                                case rel => exact ⟨(x7_3), (wrap64 (x68_3 + 1)), (by first | rfl | (simp; done) | (simp [*]; done)), H', ⟨by have := HK1.out; have := HK2.out; have := HK3.out; omega⟩, ⟨by (try simp only [hl7_1]); (try simp only [hl7_2]); (try simp only [hl7_3]); (with_reducible repeat (first | apply Kd.S_alloc | apply Kd.S_drewN | apply Kd.S_drew)); exact HO_7.out⟩, ⟨by repeat (first | (with_reducible first | exact HB.out | apply below_alloc | apply pw_below_drewN | apply below_drew1) | exact HB.out)⟩⟩
                              ·rw [if_neg c46] at H
                               exact absurd H (by simp)
                             ·rw [if_neg c45] at H
                              exact absurd H (by simp)
                            ·rw [if_neg c44] at H
                             have c44b0 : decide (x68_3 < ((rd_L1 l0 x8_1).length : Int)) = false := decide_eq_false c44
                             clear c44
                             have H' := Aside0.mk H
                             clear H
                             go_wp2
                             (try simp only [← hl7_2, ← hl7_3])
                             go_roundg k3
                             case measure => have := HK1.out; have := HK2.out; have := HK3.out; omega
                             case rel => exact ⟨(x7_3), (wrap64 (x54_2 + 1)), (by first | rfl | (simp; done) | (simp [*]; done)), H', ⟨by have := HK1.out; have := HK2.out; have := HK3.out; omega⟩, ⟨by (try simp only [hl7_1]); (try simp only [hl7_2]); (try simp only [hl7_3]); (with_reducible repeat (first | apply Kd.S_alloc | apply Kd.S_drewN | apply Kd.S_drew)); exact HO_7.out⟩, ⟨by repeat (first | (with_reducible first | exact HB.out | apply below_alloc | apply pw_below_drewN | apply below_drew1) | exact HB.out)⟩⟩
                         ·rw [if_neg c41] at H
                          exact absurd H (by simp)
                        ·rw [if_neg c39] at H
                         exact absurd H (by simp)
                       ·rw [if_neg c38] at H
                        exact absurd H (by simp)
                      ·rw [if_neg c37] at H
                       exact absurd H (by simp)
                     ·rw [if_neg c36] at H
                      exact absurd H (by simp)
                    ·rw [if_neg c35] at H
                     have c35b0 : decide (x54_2 < ((rd_L1 y116 x8_1).length : Int)) = false := decide_eq_false c35
                     clear c35
                     have H' := Aside0.mk H
                     clear H
                     go_wp2
                     (try simp only [← hl7_1, ← hl7_2])
                     go_roundg k2
                     case measure => have := HK1.out; have := HK2.out; omega
                     case rel => exact ⟨(x7_2), (wrap64 (x8_1 - 1)), (by first | rfl | (simp; done) | (simp [*]; done)), H', ⟨by have := HK1.out; have := HK2.out; omega⟩, ⟨by (try simp only [hl7_1]); (try simp only [hl7_2]); (with_reducible repeat (first | apply Kd.S_alloc | apply Kd.S_drewN | apply Kd.S_drew)); exact HO_7.out⟩, ⟨by repeat (first | (with_reducible first | exact HB.out | apply below_alloc | apply pw_below_drewN | apply below_drew1) | exact HB.out)⟩⟩
                 ·rw [if_neg c29] at H
                  exact absurd H (by simp)
                ·rw [if_neg c28] at H
                 exact absurd H (by simp)
               ·rw [if_neg c27] at H
                exact absurd H (by simp)
              ·rw [if_neg c26] at H
               exact absurd H (by simp)
             ·rw [if_neg c24] at H
              exact absurd H (by simp)
            ·rw [if_neg c23] at H
             have c23b0 : decide (0 ≤ x8_1) = false := decide_eq_false c23
             clear c23
             have H' := Aside0.mk H
             clear H
             have hl12 := right_len A2.out
             go_wp2_with (first | ((with_reducible refine gate_dst (N := 108) rfl ?_); refine R_make0 (Kd.int .i64) _ 3 rfl 22 _ _ rfl (l0.length : Int) rfl rfl Try.underlying22 (.int .i64 0) 8 info3 (by decide) (ok := fun _ => True) trivial (by omega) (by omega) (Below.refl _ _) (Nat.le_refl _) ?_; intro vM wM hoM hbM hgM hnM; clear hgM hnM; have n0_ := Aside0.mk (Kd.S_elder' (by (with_reducible repeat (first | apply Kd.S_alloc | apply Kd.S_drewN | apply Kd.S_drew)); exact HO_7.out) (Kd.R_base hoM) hbM); have n1_ := Aside0.mk (Kd.R_lower hoM (below_size (by repeat (first | (with_reducible first | exact HB.out | apply below_alloc | apply pw_below_drewN | apply below_drew1) | exact HB.out)))); have n2_ := Aside0.mk (below_step (by repeat (first | (with_reducible first | exact HB.out | apply below_alloc | apply pw_below_drewN | apply below_drew1) | exact HB.out)) hbM); clear HO_7; clear HB; have HO_7 := n0_; have HOM := n1_; have HB := n2_; clear n0_ n1_ n2_; clear hbM hoM))
             go_step3
             go_wp2
             go_loopg [2, 12, 111] k1 (fun kq v2 v12 v111 w' => ∃ (x2_2 : List Int) (x12_2 : Int) (x111_2 : Int), v12 = .int .i64 x12_2 ∧ v111 = .int .i64 x111_2 ∧ Aside0 (match_Assign.l3 kq x2_2 x7_1 x12_2 l0 (l0.length : Int) x111_2 = some (r1, r2, r3)) ∧ Aside0 (kq ≤ k1) ∧ Aside0 (Kd.R (Kd.int .i64) 3 w' w.heap.size (fun _ => True) v2 x2_2) ∧ Aside0 (Kd.S (Kd.slice 3 (Kd.int .i64)) 22 w' w.heap.size (fun k_ => some k_ ≠ (v2 : Value).ownBlock) (.slice (some ⟨go15, 0, none⟩) x7_1.length co15) x7_1) ∧ Aside0 (Below w.heap.size w w'))
             case atStart => exact ⟨(([] : List Int)), (0), (0), (by first | rfl | (simp; done) | (simp [*]; done)), (by first | rfl | (simp; done) | (simp [*]; done)), H', ⟨Nat.le_refl _⟩, HOM, ⟨by (try simp only [hl7_1]); (with_reducible repeat (first | apply Kd.S_alloc | apply Kd.S_drewN | apply Kd.S_drew)); exact Kd.S_mono HO_7.out (fun _ hk => hk.2)⟩, ⟨by repeat (first | (with_reducible first | exact HB.out | apply below_alloc | apply pw_below_drewN | apply below_drew1) | exact HB.out)⟩⟩
             case round =>
              clear H'
              try clear c1
              try clear p1
              try clear q1
              try clear hx1
              try clear c2
              try clear p2
              try clear hx2
              try clear hf2
              try clear c3
              try clear p3
              try clear q3
              try clear hx3
              try clear hf3
              try clear c4
              try clear p4
              try clear q4
              try clear hx4
              try clear hf4
              try clear c5
              try clear c6
              try clear p6
              try clear q6
              try clear hx6
              try clear hf6
              try clear p10
              try clear q10
              try clear hx10
              try clear p11
              try clear q11
              try clear hx11
              try clear c12
              try clear p12
              try clear q12
              try clear hx12
              try clear p15
              try clear q15
              try clear hx15
              try clear hx21
              try clear hf21
              try clear c23
              try clear c23b0
              try clear c24
              try clear c24b0
              try clear c24b1
              try clear c26
              try clear c26b0
              try clear c26b1
              try clear c27
              try clear c27b0
              try clear c27b1
              try clear c28
              try clear c28b0
              try clear c29
              try clear c29b0
              try clear c30
              try clear p30
              try clear q30
              try clear hx30
              try clear hf30
              try clear c33
              try clear hx33
              try clear hf33
              try clear c35
              try clear c35b0
              try clear c36
              try clear c36b0
              try clear c37
              try clear c37b0
              try clear c38
              try clear c38b0
              try clear c39
              try clear c39b0
              try clear p40
              try clear q40
              try clear hx40
              try clear hf40
              try clear c41
              try clear c41b0
              try clear c42
              try clear q42
              try clear c44
              try clear c44b0
              try clear c45
              try clear c45b0
              try clear c46
              try clear c46b0
              try clear c47
              try clear c47b0
              try clear c49
              try clear c49b0
              try clear c49b1
              try clear c50
              try clear c50b0
              try clear c51
              try clear c51b0
              try clear c52
              try clear c52b0
              try clear c53
              try clear c53b0
              try clear c55
              try clear c55b0
              try clear c56
              try clear c56b0
              try clear c57
              try clear c57b0
              try clear c59
              try clear c59b0
              try clear c60
              try clear c60b0
              try clear p62
              try clear q62
              try clear hx62
              try clear hf62
              try clear c64
              try clear p64
              try clear q64
              try clear hx105_0
              try clear hx117_0
              try clear hx118_0
              try clear hx122_0
              try clear hx123_0
              try clear hx124_0
              try clear hx125_0
              try clear hx126_0
              try clear hx127_0
              try clear hx128_0
              try clear hx15_0
              try clear hx21_0
              try clear hx30_0
              try clear hx33_0
              try clear hx40_0
              try clear hx62_0
              try clear p1
              try clear p10
              try clear p105
              try clear p11
              try clear p117
              try clear p118
              try clear p122
              try clear p123
              try clear p124
              try clear p125
              try clear p126
              try clear p127
              try clear p128
              try clear p15
              try clear p2
              try clear p3
              try clear p30
              try clear p40
              try clear p6
              try clear p62
              try clear q1
              try clear q10
              try clear q105
              try clear q11
              try clear q117
              try clear q118
              try clear q122
              try clear q123
              try clear q124
              try clear q125
              try clear q126
              try clear q127
              try clear q128
              try clear q15
              try clear q3
              try clear q30
              try clear q40
              try clear q42
              try clear q62
              obtain ⟨x2_2, x12_2, x111_2, rfl, rfl, HA, HK2, HO_2, HO_7, HB⟩ := hrel
              cases gk with
              | zero => exact absurd HA.out (by simp [match_Assign.l3])
              | succ k2 =>
               have H := HA.out
               clear HA
               simp only [match_Assign.l3] at H
               by_cases c66 : x111_2 < (l0.length : Int)
               ·rw [if_pos c66] at H
                have c66b0 : decide (x111_2 < (l0.length : Int)) = true := decide_eq_true c66
                clear c66
                by_cases c67 : 0 ≤ x111_2
                ·rw [if_pos c67] at H
                 have c67b0 : decide (0 ≤ x111_2) = true := decide_eq_true c67
                 clear c67
                 by_cases c68 : x111_2 < (l0.length : Int)
                 ·rw [if_pos c68] at H
                  have c68b0 : decide (x111_2 < (l0.length : Int)) = true := decide_eq_true c68
                  clear c68
                  have H' := Aside0.mk H
                  clear H
                  have p134 : 0 ≤ (x111_2 : Int) := of_decide_eq_true (by first | (with_reducible assumption) | assumption)
                  have q134 : x111_2 < (l0.length : Int) := of_decide_eq_true (by first | (with_reducible assumption) | assumption)
                  obtain ⟨ad134, A134_0, c134_0, e134, hx134_0, hl134_0, hi134_0⟩ := at_L1 HR0.out x111_2 p134 q134
                  obtain rfl : ad105 = ad134 := (by injection e134)
                  replace hx134_0 := (HB.out.cell (World.block_lt_of_cell? w _ hx134_0)).trans hx134_0
                  have HR134_0 := Aside0.mk hi134_0
                  have HC134_0 := Aside0.mk hl134_0
                  clear hi134_0 hl134_0
                  replace p134 := eq_true p134
                  replace q134 := eq_true q134
                  go_wp2
                  go_loopg [2, 12, 118] k2 (fun kq v2 v12 v118 w' => ∃ (x2_3 : List Int) (x12_3 : Int) (x118_3 : Int), v12 = .int .i64 x12_3 ∧ v118 = .int .i64 x118_3 ∧ Aside0 (match_Assign.l4 kq x2_3 x7_1 x12_3 x111_2 l0 (l0.length : Int) x111_2 (rd_L1 l0 x111_2) ((rd_L1 l0 x111_2).length : Int) x118_3 = some (r1, r2, r3)) ∧ Aside0 (kq ≤ k2) ∧ Aside0 (Kd.R (Kd.int .i64) 3 w' w.heap.size (fun _ => True) v2 x2_3) ∧ Aside0 (Kd.S (Kd.slice 3 (Kd.int .i64)) 22 w' w.heap.size (fun k_ => some k_ ≠ (v2 : Value).ownBlock) (.slice (some ⟨go15, 0, none⟩) x7_1.length co15) x7_1) ∧ Aside0 (Below w.heap.size w w'))
                  case atStart => exact ⟨(x2_2), (x12_2), (0), (by first | rfl | (simp; done) | (simp [*]; done)), (by first | rfl | (simp; done) | (simp [*]; done)), H', ⟨Nat.le_refl _⟩, ⟨by (try simp only [hl7_1]); (with_reducible repeat (first | apply Kd.R_alloc | apply Kd.R_drewN | apply Kd.R_drew)); exact HO_2.out⟩, ⟨by (try simp only [hl7_1]); (with_reducible repeat (first | apply Kd.S_alloc | apply Kd.S_drewN | apply Kd.S_drew)); exact HO_7.out⟩, ⟨by repeat (first | (with_reducible first | exact HB.out | apply below_alloc | apply pw_below_drewN | apply below_drew1) | exact HB.out)⟩⟩
                  case round =>
                   clear H'
                   try clear c1
                   try clear p1
                   try clear q1
                   try clear hx1
                   try clear c2
                   try clear p2
                   try clear hx2
                   try clear hf2
                   try clear c3
                   try clear p3
                   try clear q3
                   try clear hx3
                   try clear hf3
                   try clear c4
                   try clear p4
                   try clear q4
                   try clear hx4
                   try clear hf4
                   try clear c5
                   try clear c6
                   try clear p6
                   try clear q6
                   try clear hx6
                   try clear hf6
                   try clear p10
                   try clear q10
                   try clear hx10
                   try clear p11
                   try clear q11
                   try clear hx11
                   try clear c12
                   try clear p12
                   try clear q12
                   try clear hx12
                   try clear c13
                   try clear p13
                   try clear q13
                   try clear hx13
                   try clear p15
                   try clear q15
                   try clear hx15
                   try clear hx21
                   try clear hf21
                   try clear c23
                   try clear c23b0
                   try clear c24
                   try clear c24b0
                   try clear c24b1
                   try clear c26
                   try clear c26b0
                   try clear c26b1
                   try clear c27
                   try clear c27b0
                   try clear c27b1
                   try clear c28
                   try clear c28b0
                   try clear c29
                   try clear c29b0
                   try clear c30
                   try clear p30
                   try clear q30
                   try clear hx30
                   try clear hf30
                   try clear c33
                   try clear hx33
                   try clear hf33
                   try clear c35
                   try clear c35b0
                   try clear c36
                   try clear c36b0
                   try clear c37
                   try clear c37b0
                   try clear c38
                   try clear c38b0
                   try clear c39
                   try clear c39b0
                   try clear p40
                   try clear q40
                   try clear hx40
                   try clear hf40
                   try clear c41
                   try clear c41b0
                   try clear c42
                   try clear q42
                   try clear c44
                   try clear c44b0
                   try clear c45
                   try clear c45b0
                   try clear c46
                   try clear c46b0
                   try clear c47
                   try clear c47b0
                   try clear c49
                   try clear c49b0
                   try clear c49b1
                   try clear c50
                   try clear c50b0
                   try clear c51
                   try clear c51b0
                   try clear c52
                   try clear c52b0
                   try clear c53
                   try clear c53b0
                   try clear c55
                   try clear c55b0
                   try clear c56
                   try clear c56b0
                   try clear c57
                   try clear c57b0
                   try clear c59
                   try clear c59b0
                   try clear c60
                   try clear c60b0
                   try clear p62
                   try clear q62
                   try clear hx62
                   try clear hf62
                   try clear c64
                   try clear p64
                   try clear q64
                   try clear c66
                   try clear c66b0
                   try clear c67
                   try clear c67b0
                   try clear c68
                   try clear c68b0
                   try clear hx105_0
                   try clear hx117_0
                   try clear hx118_0
                   try clear hx122_0
                   try clear hx123_0
                   try clear hx124_0
                   try clear hx125_0
                   try clear hx126_0
                   try clear hx127_0
                   try clear hx128_0
                   try clear hx134_0
                   try clear hx15_0
                   try clear hx21_0
                   try clear hx30_0
                   try clear hx33_0
                   try clear hx40_0
                   try clear hx62_0
                   try clear p1
                   try clear p10
                   try clear p105
                   try clear p11
                   try clear p117
                   try clear p118
                   try clear p12
                   try clear p122
                   try clear p123
                   try clear p124
                   try clear p125
                   try clear p126
                   try clear p127
                   try clear p128
                   try clear p134
                   try clear p15
                   try clear p2
                   try clear p3
                   try clear p30
                   try clear p4
                   try clear p40
                   try clear p6
                   try clear p62
                   try clear p64
                   try clear q1
                   try clear q10
                   try clear q105
                   try clear q11
                   try clear q117
                   try clear q118
                   try clear q12
                   try clear q122
                   try clear q123
                   try clear q124
                   try clear q125
                   try clear q126
                   try clear q127
                   try clear q128
                   try clear q134
                   try clear q15
                   try clear q3
                   try clear q30
                   try clear q4
                   try clear q40
                   try clear q42
                   try clear q6
                   try clear q62
                   try clear q64
                   obtain ⟨x2_3, x12_3, x118_3, rfl, rfl, HA, HK3, HO_2, HO_7, HB⟩ := hrel
                   cases gk with
                   | zero => exact absurd HA.out (by simp [match_Assign.l4])
                   | succ k3 =>
                    have H := HA.out
                    clear HA
                    simp only [match_Assign.l4] at H
                    by_cases c69 : x118_3 < ((rd_L1 l0 x111_2).length : Int)
                    ·rw [if_pos c69] at H
                     have c69b0 : decide (x118_3 < ((rd_L1 l0 x111_2).length : Int)) = true := decide_eq_true c69
                     clear c69
                     by_cases c70 : 0 ≤ x118_3
                     ·rw [if_pos c70] at H
                      have c70b0 : decide (0 ≤ x118_3) = true := decide_eq_true c70
                      clear c70
                      by_cases c71 : x118_3 < ((rd_L1 l0 x111_2).length : Int)
                      ·rw [if_pos c71] at H
                       have c71b0 : decide (x118_3 < ((rd_L1 l0 x111_2).length : Int)) = true := decide_eq_true c71
                       clear c71
                       have c72b0 := eq_true (of_decide_eq_true (by first | (with_reducible assumption) | assumption) : 0 ≤ x118_3)
                       obtain ⟨ji73, hji73⟩ : ∃ j_ : Int, (shr .i64 x12_3 x118_3) = j_ := ⟨_, rfl⟩
                       replace H : (if (Go.bits .and .i64 (ji73) 1) = 0 then (if 0 ≤ (wrap64 (x111_2 + 1)) then (if (wrap64 (x111_2 + 1)) < (x7_1.length : Int) then (if 0 ≤ (Go.bits .or .i64 x12_3 (shl .i64 1 x118_3)) then (if (Go.bits .or .i64 x12_3 (shl .i64 1 x118_3)) < ((rd_L1 x7_1 (wrap64 (x111_2 + 1))).length : Int) then (if 0 ≤ x111_2 then (if x111_2 < (x7_1.length : Int) then (if 0 ≤ x12_3 then (if x12_3 < ((rd_L1 x7_1 x111_2).length : Int) then (if (wrap64 ((rd (rd_L1 l0 x111_2) x118_3) + (rd (rd_L1 x7_1 (wrap64 (x111_2 + 1))) (Go.bits .or .i64 x12_3 (shl .i64 1 x118_3))))) = (rd (rd_L1 x7_1 x111_2) x12_3) then (if x2_3.length < 17592186044416 then (match_Assign.l3 k3 (x2_3 ++ [x118_3]) x7_1 (Go.bits .or .i64 x12_3 (shl .i64 1 x118_3)) l0 (l0.length : Int) (wrap64 (x111_2 + 1))) else (none)) else (match_Assign.l4 k3 x2_3 x7_1 x12_3 x111_2 l0 (l0.length : Int) x111_2 (rd_L1 l0 x111_2) ((rd_L1 l0 x111_2).length : Int) (wrap64 (x118_3 + 1)))) else (none)) else (none)) else (none)) else (none)) else (none)) else (none)) else (none)) else (none)) else (match_Assign.l4 k3 x2_3 x7_1 x12_3 x111_2 l0 (l0.length : Int) x111_2 (rd_L1 l0 x111_2) ((rd_L1 l0 x111_2).length : Int) (wrap64 (x118_3 + 1)))) = some (r1, r2, r3) := by first | (rw [hji73] at H; exact H) | (simp only [hji73] at H ⊢; exact H)
                       have hji73_ : (x12_3 / 2 ^ min x118_3.toNat 64) = ji73 := hji73
                       have hji73z : x118_3 ≤ 64 → (x12_3 / 2 ^ x118_3.toNat) = ji73 := shr_small hji73
                       by_cases c74 : (Go.bits .and .i64 (ji73) 1) = 0
                       ·rw [if_pos c74] at H
                        have c74b0 : ((Go.bits .and .i64 (ji73) 1) == 0) = true := beq_iff_eq.mpr c74
                        have c74b1 : ((Go.bits .and .i64 (ji73) 1) != 0) = false := bne_eq_false_iff_eq.mpr c74
                        clear c74
                        obtain ⟨ji75, hji75⟩ : ∃ j_ : Int, (wrap64 (x111_2 + 1)) = j_ := ⟨_, rfl⟩
                        replace H : (if 0 ≤ (ji75) then (if (ji75) < (x7_1.length : Int) then (if 0 ≤ (Go.bits .or .i64 x12_3 (shl .i64 1 x118_3)) then (if (Go.bits .or .i64 x12_3 (shl .i64 1 x118_3)) < ((rd_L1 x7_1 (ji75)).length : Int) then (if 0 ≤ x111_2 then (if x111_2 < (x7_1.length : Int) then (if 0 ≤ x12_3 then (if x12_3 < ((rd_L1 x7_1 x111_2).length : Int) then (if (wrap64 ((rd (rd_L1 l0 x111_2) x118_3) + (rd (rd_L1 x7_1 (ji75)) (Go.bits .or .i64 x12_3 (shl .i64 1 x118_3))))) = (rd (rd_L1 x7_1 x111_2) x12_3) then (if x2_3.length < 17592186044416 then (match_Assign.l3 k3 (x2_3 ++ [x118_3]) x7_1 (Go.bits .or .i64 x12_3 (shl .i64 1 x118_3)) l0 (l0.length : Int) ji75) else (none)) else (match_Assign.l4 k3 x2_3 x7_1 x12_3 x111_2 l0 (l0.length : Int) x111_2 (rd_L1 l0 x111_2) ((rd_L1 l0 x111_2).length : Int) (wrap64 (x118_3 + 1)))) else (none)) else (none)) else (none)) else (none)) else (none)) else (none)) else (none)) else (none)) = some (r1, r2, r3) := by first | (rw [hji75] at H; exact H) | (simp only [hji75] at H ⊢; exact H)
                        have hji75w : (IntKind.i64.wrap (x111_2 + 1)) = ji75 := (i64_w _).trans hji75
                        by_cases c76 : 0 ≤ (ji75)
                        ·rw [if_pos c76] at H
                         have c76b0 : decide (0 ≤ (ji75)) = true := decide_eq_true c76
                         clear c76
                         by_cases c77 : (ji75) < (x7_1.length : Int)
                         ·rw [if_pos c77] at H
                          have c77b0 : decide ((ji75) < (x7_1.length : Int)) = true := decide_eq_true c77
                          clear c77
                          have c78b0 := eq_true (of_decide_eq_true (by first | (with_reducible assumption) | assumption) : 0 ≤ x118_3)
                          obtain ⟨ji79, hji79⟩ : ∃ j_ : Int, (shl .i64 1 x118_3) = j_ := ⟨_, rfl⟩
                          replace H : (if 0 ≤ (Go.bits .or .i64 x12_3 (ji79)) then (if (Go.bits .or .i64 x12_3 (ji79)) < ((rd_L1 x7_1 (ji75)).length : Int) then (if 0 ≤ x111_2 then (if x111_2 < (x7_1.length : Int) then (if 0 ≤ x12_3 then (if x12_3 < ((rd_L1 x7_1 x111_2).length : Int) then (if (wrap64 ((rd (rd_L1 l0 x111_2) x118_3) + (rd (rd_L1 x7_1 (ji75)) (Go.bits .or .i64 x12_3 (ji79))))) = (rd (rd_L1 x7_1 x111_2) x12_3) then (if x2_3.length < 17592186044416 then (match_Assign.l3 k3 (x2_3 ++ [x118_3]) x7_1 (Go.bits .or .i64 x12_3 (ji79)) l0 (l0.length : Int) ji75) else (none)) else (match_Assign.l4 k3 x2_3 x7_1 x12_3 x111_2 l0 (l0.length : Int) x111_2 (rd_L1 l0 x111_2) ((rd_L1 l0 x111_2).length : Int) (wrap64 (x118_3 + 1)))) else (none)) else (none)) else (none)) else (none)) else (none)) else (none)) = some (r1, r2, r3) := by first | (rw [hji79] at H; exact H) | (simp only [hji79] at H ⊢; exact H)
                          have hji79_ : (IntKind.i64.wrap (1 * 2 ^ min x118_3.toNat 64)) = ji79 := hji79
                          have hji79z : x118_3 ≤ 64 → (IntKind.i64.wrap (1 * 2 ^ x118_3.toNat)) = ji79 := shl_small hji79
                          have hji79u : (IntKind.i64.wrap (2 ^ min x118_3.toNat 64)) = ji79 := by have h_ := hji79_; rw [Int.one_mul] at h_; exact h_
                          have hji79v : x118_3 ≤ 64 → (IntKind.i64.wrap (2 ^ x118_3.toNat)) = ji79 := fun hle_ => by have h_ := hji79z hle_; rw [Int.one_mul] at h_; exact h_
                          have hji79y : (wrap64 (1 * 2 ^ min x118_3.toNat 64)) = ji79 := (i64_w _).symm.trans hji79_
                          have hji79x : x118_3 ≤ 64 → (wrap64 (1 * 2 ^ x118_3.toNat)) = ji79 := fun h_ => (i64_w _).symm.trans (hji79z h_)
                          by_cases c80 : 0 ≤ (Go.bits .or .i64 x12_3 (ji79))
                          ·rw [if_pos c80] at H
                           have c80b0 : decide (0 ≤ (Go.bits .or .i64 x12_3 (ji79))) = true := decide_eq_true c80
                           clear c80
                           by_cases c81 : (Go.bits .or .i64 x12_3 (ji79)) < ((rd_L1 x7_1 (ji75)).length : Int)
                           ·rw [if_pos c81] at H
                            have c81b0 : decide ((Go.bits .or .i64 x12_3 (ji79)) < ((rd_L1 x7_1 (ji75)).length : Int)) = true := decide_eq_true c81
                            clear c81
                            by_cases c82 : 0 ≤ x111_2
                            ·rw [if_pos c82] at H
                             have c82b0 : decide (0 ≤ x111_2) = true := decide_eq_true c82
                             clear c82
                             by_cases c83 : x111_2 < (x7_1.length : Int)
                             ·rw [if_pos c83] at H
                              have c83b0 : decide (x111_2 < (x7_1.length : Int)) = true := decide_eq_true c83
                              clear c83
                              by_cases c84 : 0 ≤ x12_3
                              ·rw [if_pos c84] at H
                               have c84b0 : decide (0 ≤ x12_3) = true := decide_eq_true c84
                               clear c84
                               by_cases c85 : x12_3 < ((rd_L1 x7_1 x111_2).length : Int)
                               ·rw [if_pos c85] at H
                                have c85b0 : decide (x12_3 < ((rd_L1 x7_1 x111_2).length : Int)) = true := decide_eq_true c85
                                clear c85
                                by_cases c86 : (wrap64 ((rd (rd_L1 l0 x111_2) x118_3) + (rd (rd_L1 x7_1 (ji75)) (Go.bits .or .i64 x12_3 (ji79))))) = (rd (rd_L1 x7_1 x111_2) x12_3)
                                ·rw [if_pos c86] at H
                                 have c86b0 : ((wrap64 ((rd (rd_L1 l0 x111_2) x118_3) + (rd (rd_L1 x7_1 (ji75)) (Go.bits .or .i64 x12_3 (ji79))))) == (rd (rd_L1 x7_1 x111_2) x12_3)) = true := beq_iff_eq.mpr c86
                                 have c86b1 : ((wrap64 ((rd (rd_L1 l0 x111_2) x118_3) + (rd (rd_L1 x7_1 (ji75)) (Go.bits .or .i64 x12_3 (ji79))))) != (rd (rd_L1 x7_1 x111_2) x12_3)) = false := bne_eq_false_iff_eq.mpr c86
                                 clear c86
                                 by_cases c87 : x2_3.length < 17592186044416
                                 ·rw [if_pos c87] at H
                                  have LMc87 := Aside0.mk c87
                                  clear c87
                                  obtain ⟨y140, hy140⟩ : ∃ y_ : List Int, y_ = (x2_3 ++ [x118_3]) := ⟨_, rfl⟩
                                  replace H : (match_Assign.l3 k3 y140 x7_1 (Go.bits .or .i64 x12_3 (ji79)) l0 (l0.length : Int) ji75) = some (r1, r2, r3) := by first | (rw [hy140]; with_reducible exact H) | (have H2_ := (Option.bind_some _ _).symm.trans H; rw [hy140]; with_reducible exact H2_) | (have H2_ := (Option.bind_some _ _).symm.trans H; with_reducible exact H2_) | with_reducible exact H | (rw [hy140]; exact H) | exact H
                                  have Ny140 := Aside0.mk hy140
                                  clear hy140
                                  have c88b0 := eq_true (of_decide_eq_true (by first | (with_reducible assumption) | assumption) : 0 ≤ x118_3)
                                  have H' := Aside0.mk H
                                  clear H
                                  have p135 : 0 ≤ (x118_3 : Int) := of_decide_eq_true (by first | (with_reducible assumption) | assumption)
                                  have q135 : x118_3 < ((rd_L1 l0 x111_2).length : Int) := of_decide_eq_true (by first | (with_reducible assumption) | assumption)
                                  obtain ⟨ad135, e135, hx135_0⟩ := Kd.at_int HR134_0.out x118_3 p135 q135
                                  cases e135
                                  replace hx135_0 := (HB.out.cell (World.block_lt_of_cell? w _ hx135_0)).trans hx135_0
                                  replace p135 := eq_true p135
                                  replace q135 := eq_true q135
                                  try go_wp2
                                  have n0_ := Aside0.mk (Kd.R_drew HO_2.out)
                                  have n1_ := Aside0.mk (Kd.S_drew HO_7.out)
                                  have n2_ := Aside0.mk (below_drew1 HB.out)
                                  clear HO_2
                                  clear HO_7
                                  clear HB
                                  have HO_2 := n0_
                                  have HO_7 := n1_
                                  have HB := n2_
                                  clear n0_ n1_ n2_
                                  have p136 : 0 ≤ ((ji75) : Int) := of_decide_eq_true (by first | (with_reducible assumption) | assumption)
                                  have q136 : (ji75) < (x7_1.length : Int) := of_decide_eq_true (by first | (with_reducible assumption) | assumption)
                                  obtain ⟨ad136, A136_0, c136_0, e136, hx136_0, hl136_0, hi136_0⟩ := at_L1 (Kd.S_reads' HO_7.out).2.2 (ji75) p136 q136
                                  obtain rfl : (⟨go15, 0, none⟩ : Addr) = ad136 := (by injection e136)
                                  obtain ⟨ce136, hce136, hMe136, hcc136⟩ := Kd.S_get HO_7.out [] (ji75) p136 (by first | exact q136 | exact of_decide_eq_true (by first | (with_reducible assumption) | assumption) | (have e_ := (Kd.S_reads' HO_7.out).1; omega))
                                  obtain ⟨ve136_0, rfl, ge136_0⟩ := hMe136
                                  have hv136_0 := hcc136 0 _ rfl
                                  rw [Nat.add_zero, show ((Kd.slice 3 (Kd.int .i64))).sz = 1 from rfl, Nat.mul_one] at hv136_0
                                  replace hv136_0 := Option.some.inj (hv136_0.symm.trans hx136_0)
                                  rw [hv136_0] at ge136_0
                                  have HL136_0 := Aside0.mk (show Kd.R (Kd.int .i64) 3 _ _ _ _ (rd_L1 x7_1 (ji75)) from ge136_0)
                                  clear hv136_0 ge136_0
                                  have HX136_0 := Aside0.mk hx136_0
                                  clear hcc136 hce136
                                  (first | simp only [add_plain] at hx136_0 | simp only [add_at] at hx136_0 | simp only [Addr.add, Nat.zero_add] at hx136_0 | skip)
                                  have HR136_0 := Aside0.mk hi136_0
                                  have HC136_0 := Aside0.mk hl136_0
                                  clear hi136_0 hl136_0
                                  replace p136 := eq_true p136
                                  replace q136 := eq_true q136
                                  have p137 : 0 ≤ ((Go.bits .or .i64 x12_3 (ji79)) : Int) := of_decide_eq_true (by first | (with_reducible assumption) | assumption)
                                  have q137 : (Go.bits .or .i64 x12_3 (ji79)) < ((rd_L1 x7_1 (ji75)).length : Int) := of_decide_eq_true (by first | (with_reducible assumption) | assumption)
                                  obtain ⟨ad137, e137, hx137_0⟩ := Kd.at_int (by repeat (first | (with_reducible exact HR136_0.out) | (with_reducible refine Kd.C_alloc ?_ _) | (with_reducible refine Kd.C_drewN ?_ _) | (with_reducible refine Kd.C_drew ?_) | exact HR136_0.out)) (Go.bits .or .i64 x12_3 (ji79)) p137 q137
                                  cases e137
                                  replace p137 := eq_true p137
                                  replace q137 := eq_true q137
                                  have p138 : 0 ≤ (x111_2 : Int) := of_decide_eq_true (by first | (with_reducible assumption) | assumption)
                                  have q138 : x111_2 < (x7_1.length : Int) := of_decide_eq_true (by first | (with_reducible assumption) | assumption)
                                  obtain ⟨ad138, A138_0, c138_0, e138, hx138_0, hl138_0, hi138_0⟩ := at_L1 (Kd.S_reads' HO_7.out).2.2 x111_2 p138 q138
                                  obtain rfl : (⟨go15, 0, none⟩ : Addr) = ad138 := (by injection e138)
                                  obtain ⟨ce138, hce138, hMe138, hcc138⟩ := Kd.S_get HO_7.out [] x111_2 p138 (by first | exact q138 | exact of_decide_eq_true (by first | (with_reducible assumption) | assumption) | (have e_ := (Kd.S_reads' HO_7.out).1; omega))
                                  obtain ⟨ve138_0, rfl, ge138_0⟩ := hMe138
                                  have hv138_0 := hcc138 0 _ rfl
                                  rw [Nat.add_zero, show ((Kd.slice 3 (Kd.int .i64))).sz = 1 from rfl, Nat.mul_one] at hv138_0
                                  replace hv138_0 := Option.some.inj (hv138_0.symm.trans hx138_0)
                                  rw [hv138_0] at ge138_0
                                  have HL138_0 := Aside0.mk (show Kd.R (Kd.int .i64) 3 _ _ _ _ (rd_L1 x7_1 x111_2) from ge138_0)
                                  clear hv138_0 ge138_0
                                  have HX138_0 := Aside0.mk hx138_0
                                  clear hcc138 hce138
                                  (first | simp only [add_plain] at hx138_0 | simp only [add_at] at hx138_0 | simp only [Addr.add, Nat.zero_add] at hx138_0 | skip)
                                  have HR138_0 := Aside0.mk hi138_0
                                  have HC138_0 := Aside0.mk hl138_0
                                  clear hi138_0 hl138_0
                                  replace p138 := eq_true p138
                                  replace q138 := eq_true q138
                                  have p139 : 0 ≤ (x12_3 : Int) := of_decide_eq_true (by first | (with_reducible assumption) | assumption)
                                  have q139 : x12_3 < ((rd_L1 x7_1 x111_2).length : Int) := of_decide_eq_true (by first | (with_reducible assumption) | assumption)
                                  obtain ⟨ad139, e139, hx139_0⟩ := Kd.at_int (by repeat (first | (with_reducible exact HR138_0.out) | (with_reducible refine Kd.C_alloc ?_ _) | (with_reducible refine Kd.C_drewN ?_ _) | (with_reducible refine Kd.C_drew ?_) | exact HR138_0.out)) x12_3 p139 q139
                                  cases e139
                                  replace p139 := eq_true p139
                                  replace q139 := eq_true q139
                                  refine start_ (n := 28) (S := fun w' => w'.cell? ⟨go15, ((ji75)).toNat, none⟩ = some (.slice (some ad137) (rd_L1 x7_1 (ji75)).length c136_0) ∧ w'.cell? (ad137.add ((Go.bits .or .i64 x12_3 (ji79))).toNat) = some (.int .i64 (rd (rd_L1 x7_1 (ji75)) (Go.bits .or .i64 x12_3 (ji79)))) ∧ w'.cell? ⟨go15, (x111_2).toNat, none⟩ = some (.slice (some ad139) (rd_L1 x7_1 x111_2).length c138_0) ∧ w'.cell? (ad139.add (x12_3).toNat) = some (.int .i64 (rd (rd_L1 x7_1 x111_2) x12_3))) (ds := []) #[false, false, false, false, false, false, false, false, false, false, false, false, false, false, false, false, false, false, false, false, false, false, false, false, false, false, false, false] (by kernel_rfl) rfl rfl ⟨hx136_0, hx137_0, hx138_0, hx139_0⟩ (fun hHeld => ?_); refine with_tabW match_Assign.tab32 match_Assign.bits32 (fun HT_ HW_ => ?_)
                                  generalize wr.drew = w90 at HO_2 HO_7 HB HL136_0 HL138_0 HR136_0 HR138_0 HX136_0 HX138_0 hx136_0 hx137_0 hx138_0 hx139_0 hHeld ⊢
                                  refine pure_ (i := 0) (N := some 123) (v := ?_) (a' := ?_) #[true, false, false, false, false, false, false, false, false, false, false, false, false, false, false, false, false, false, false, false, false, false, false, false, false, false, false, false] rfl rfl (any_of HT_.out (by kernel_rfl)) (fun _ _ _ h => h) (Or.inl ⟨by rfl, ?_⟩) ?_ ?_
                                  rotate_left
                                  ·intro w'
                                   go_simp
                                   with_reducible rfl
                                  rotate_left
                                  ·simp only [Act.put, List.setIfInBounds_toArray, List.set_cons_zero, List.set_cons_succ, i64_w, i32_w]
                                   rfl
                                  refine pure_ (i := 1) (N := some 124) (v := ?_) (a' := ?_) #[true, true, false, false, false, false, false, false, false, false, false, false, false, false, false, false, false, false, false, false, false, false, false, false, false, false, false, false] rfl rfl (any_of HT_.out (by kernel_rfl)) (fun _ _ _ h => h) (Or.inl ⟨by rfl, ?_⟩) ?_ ?_
                                  rotate_left
                                  ·intro w'
                                   go_simp
                                   with_reducible rfl
                                  rotate_left
                                  ·simp only [Act.put, List.setIfInBounds_toArray, List.set_cons_zero, List.set_cons_succ, i64_w, i32_w]
                                   rfl
                                  refine pure_ (i := 2) (N := some 125) (v := ?_) (a' := ?_) #[true, true, true, false, false, false, false, false, false, false, false, false, false, false, false, false, false, false, false, false, false, false, false, false, false, false, false, false] rfl rfl (any_of HT_.out (by kernel_rfl)) (fun _ _ _ h => h) (Or.inl ⟨by rfl, ?_⟩) ?_ ?_
                                  rotate_left
                                  ·intro w'
                                   go_simp
                                   with_reducible rfl
                                  rotate_left
                                  ·simp only [Act.put, List.setIfInBounds_toArray, List.set_cons_zero, List.set_cons_succ, i64_w, i32_w]
                                   rfl
                                  refine pure_ (i := 3) (N := some 126) (v := ?_) (a' := ?_) #[true, true, true, true, false, false, false, false, false, false, false, false, false, false, false, false, false, false, false, false, false, false, false, false, false, false, false, false] rfl rfl (any_of HT_.out (by kernel_rfl)) (fun _ _ _ h => h) (Or.inl ⟨by rfl, ?_⟩) ?_ ?_
                                  rotate_left
                                  ·intro w'
                                   go_simp
                                   with_reducible rfl
                                  rotate_left
                                  ·simp only [Act.put, List.setIfInBounds_toArray, List.set_cons_zero, List.set_cons_succ, i64_w, i32_w]
                                   rfl
                                  refine pure_ (i := 4) (N := some 127) (v := ?_) (a' := ?_) #[true, true, true, true, true, false, false, false, false, false, false, false, false, false, false, false, false, false, false, false, false, false, false, false, false, false, false, false] rfl rfl (any_of HT_.out (by kernel_rfl)) (fun _ _ _ h => h) (Or.inl ⟨by rfl, ?_⟩) ?_ ?_
                                  rotate_left
                                  ·intro w'
                                   go_simp
                                   with_reducible rfl
                                  rotate_left
                                  ·simp only [Act.put, List.setIfInBounds_toArray, List.set_cons_zero, List.set_cons_succ, i64_w, i32_w]
                                   rfl
                                  refine pure_ (i := 5) (N := some 128) (v := ?_) (a' := ?_) #[true, true, true, true, true, true, false, false, false, false, false, false, false, false, false, false, false, false, false, false, false, false, false, false, false, false, false, false] rfl rfl (any_of HT_.out (by kernel_rfl)) (fun _ _ _ h => h) (Or.inl ⟨by rfl, ?_⟩) ?_ ?_
                                  rotate_left
                                  ·intro w'
                                   go_simp
                                   with_reducible rfl
                                  rotate_left
                                  ·simp only [Act.put, List.setIfInBounds_toArray, List.set_cons_zero, List.set_cons_succ, i64_w, i32_w]
                                   rfl
                                  refine pure_ (i := 6) (N := some 129) (v := ?_) (a' := ?_) #[true, true, true, true, true, true, true, false, false, false, false, false, false, false, false, false, false, false, false, false, false, false, false, false, false, false, false, false] rfl rfl (any_of HT_.out (by kernel_rfl)) (fun _ _ _ h => h) (Or.inl ⟨by rfl, ?_⟩) ?_ ?_
                                  rotate_left
                                  ·intro w'
                                   go_simp
                                   with_reducible rfl
                                  rotate_left
                                  ·simp only [Act.put, List.setIfInBounds_toArray, List.set_cons_zero, List.set_cons_succ, i64_w, i32_w]
                                   rfl
                                  refine pure_ (i := 7) (N := some 130) (v := ?_) (a' := ?_) #[true, true, true, true, true, true, true, true, false, false, false, false, false, false, false, false, false, false, false, false, false, false, false, false, false, false, false, false] rfl rfl (any_of HT_.out (by kernel_rfl)) (fun _ _ _ h => h) (Or.inl ⟨by rfl, ?_⟩) ?_ ?_
                                  rotate_left
                                  ·intro w'
                                   go_simp
                                   with_reducible rfl
                                  rotate_left
                                  ·simp only [Act.put, List.setIfInBounds_toArray, List.set_cons_zero, List.set_cons_succ, i64_w, i32_w]
                                   rfl
                                  refine pure_ (i := 8) (N := some 131) (v := ?_) (a' := ?_) #[true, true, true, true, true, true, true, true, true, false, false, false, false, false, false, false, false, false, false, false, false, false, false, false, false, false, false, false] rfl rfl (any_of HT_.out (by kernel_rfl)) (fun _ _ _ h => h) (Or.inl ⟨by rfl, ?_⟩) ?_ ?_
                                  rotate_left
                                  ·intro w'
                                   go_simp
                                   with_reducible rfl
                                  rotate_left
                                  ·simp only [Act.put, List.setIfInBounds_toArray, List.set_cons_zero, List.set_cons_succ, i64_w, i32_w]
                                   rfl
                                  refine pure_ (i := 9) (N := some 132) (v := ?_) (a' := ?_) #[true, true, true, true, true, true, true, true, true, true, false, false, false, false, false, false, false, false, false, false, false, false, false, false, false, false, false, false] rfl rfl (any_of HT_.out (by kernel_rfl)) (fun _ _ _ h => h) (Or.inl ⟨by rfl, ?_⟩) ?_ ?_
                                  rotate_left
                                  ·intro w'
                                   go_simp
                                   with_reducible rfl
                                  rotate_left
                                  ·simp only [Act.put, List.setIfInBounds_toArray, List.set_cons_zero, List.set_cons_succ, i64_w, i32_w]
                                   rfl
                                  refine pure_ (i := 10) (N := some 133) (v := ?_) (a' := ?_) #[true, true, true, true, true, true, true, true, true, true, true, false, false, false, false, false, false, false, false, false, false, false, false, false, false, false, false, false] rfl rfl (any_of HT_.out (by kernel_rfl)) (fun _ _ _ h => h) (Or.inl ⟨by rfl, ?_⟩) ?_ ?_
                                  rotate_left
                                  ·intro w'
                                   go_simp
                                   with_reducible rfl
                                  rotate_left
                                  ·simp only [Act.put, List.setIfInBounds_toArray, List.set_cons_zero, List.set_cons_succ, i64_w, i32_w]
                                   rfl
                                  refine pure_ (i := 12) (N := some 135) (v := ?_) (a' := ?_) #[true, true, true, true, true, true, true, true, true, true, true, false, true, false, false, false, false, false, false, false, false, false, false, false, false, false, false, false] rfl rfl (any_of HT_.out (by kernel_rfl)) (fun _ _ _ h => h) (Or.inl ⟨by rfl, ?_⟩) ?_ ?_
                                  rotate_left
                                  ·intro w'
                                   go_simp
                                   with_reducible rfl
                                  rotate_left
                                  ·simp only [Act.put, List.setIfInBounds_toArray, List.set_cons_zero, List.set_cons_succ, i64_w, i32_w]
                                   rfl
                                  refine pure_ (i := 13) (N := some 136) (v := ?_) (a' := ?_) #[true, true, true, true, true, true, true, true, true, true, true, false, true, true, false, false, false, false, false, false, false, false, false, false, false, false, false, false] rfl rfl (any_of HT_.out (by kernel_rfl)) (fun _ _ _ h => h) (Or.inl ⟨by rfl, ?_⟩) ?_ ?_
                                  rotate_left
                                  ·intro w'
                                   go_simp
                                   with_reducible rfl
                                  rotate_left
                                  ·simp only [Act.put, List.setIfInBounds_toArray, List.set_cons_zero, List.set_cons_succ, i64_w, i32_w]
                                   rfl
                                  refine pure_ (i := 14) (N := some 137) (v := ?_) (a' := ?_) #[true, true, true, true, true, true, true, true, true, true, true, false, true, true, true, false, false, false, false, false, false, false, false, false, false, false, false, false] rfl rfl (any_of HT_.out (by kernel_rfl)) (fun _ _ _ h => h) (Or.inl ⟨by rfl, ?_⟩) ?_ ?_
                                  rotate_left
                                  ·intro w'
                                   go_simp
                                   with_reducible rfl
                                  rotate_left
                                  ·simp only [Act.put, List.setIfInBounds_toArray, List.set_cons_zero, List.set_cons_succ, i64_w, i32_w]
                                   rfl
                                  refine pure_ (i := 15) (N := some 138) (v := ?_) (a' := ?_) #[true, true, true, true, true, true, true, true, true, true, true, false, true, true, true, true, false, false, false, false, false, false, false, false, false, false, false, false] rfl rfl (any_of HT_.out (by kernel_rfl)) (fun _ _ _ h => h) (Or.inl ⟨by rfl, ?_⟩) ?_ ?_
                                  rotate_left
                                  ·intro w'
                                   go_simp
                                   with_reducible rfl
                                  rotate_left
                                  ·simp only [Act.put, List.setIfInBounds_toArray, List.set_cons_zero, List.set_cons_succ, i64_w, i32_w]
                                   rfl
                                  refine pure_ (i := 19) (N := some 142) (v := ?_) (a' := ?_) #[true, true, true, true, true, true, true, true, true, true, true, false, true, true, true, true, false, false, false, true, false, false, false, false, false, false, false, false] rfl rfl (any_of HT_.out (by kernel_rfl)) (fun _ _ _ h => h) (Or.inl ⟨by rfl, ?_⟩) ?_ ?_
                                  rotate_left
                                  ·intro w'
                                   go_simp
                                   with_reducible rfl
                                  rotate_left
                                  ·simp only [Act.put, List.setIfInBounds_toArray, List.set_cons_zero, List.set_cons_succ, i64_w, i32_w]
                                   rfl
                                  refine pure_ (i := 20) (N := some 143) (v := ?_) (a' := ?_) #[true, true, true, true, true, true, true, true, true, true, true, false, true, true, true, true, false, false, false, true, true, false, false, false, false, false, false, false] rfl rfl (any_of HT_.out (by kernel_rfl)) (fun _ _ _ h => h) (Or.inl ⟨by rfl, ?_⟩) ?_ ?_
                                  rotate_left
                                  ·intro w'
                                   go_simp
                                   with_reducible rfl
                                  rotate_left
                                  ·simp only [Act.put, List.setIfInBounds_toArray, List.set_cons_zero, List.set_cons_succ, i64_w, i32_w]
                                   rfl
                                  refine pure_ (i := 21) (N := some 144) (v := ?_) (a' := ?_) #[true, true, true, true, true, true, true, true, true, true, true, false, true, true, true, true, false, false, false, true, true, true, false, false, false, false, false, false] rfl rfl (any_of HT_.out (by kernel_rfl)) (fun _ _ _ h => h) (Or.inl ⟨by rfl, ?_⟩) ?_ ?_
                                  rotate_left
                                  ·intro w'
                                   go_simp
                                   with_reducible rfl
                                  rotate_left
                                  ·simp only [Act.put, List.setIfInBounds_toArray, List.set_cons_zero, List.set_cons_succ, i64_w, i32_w]
                                   rfl
                                  refine pure_ (i := 23) (N := some 146) (v := ?_) (a' := ?_) #[true, true, true, true, true, true, true, true, true, true, true, false, true, true, true, true, false, false, false, true, true, true, false, true, false, false, false, false] rfl rfl (any_of HT_.out (by kernel_rfl)) (fun _ _ _ h => h) (Or.inl ⟨by rfl, ?_⟩) ?_ ?_
                                  rotate_left
                                  ·intro w'
                                   go_simp
                                   with_reducible rfl
                                  rotate_left
                                  ·simp only [Act.put, List.setIfInBounds_toArray, List.set_cons_zero, List.set_cons_succ, i64_w, i32_w]
                                   rfl
                                  refine take_ (i := 11) (N := some 134) (v := ?_) (a' := ?_) #[true, true, true, true, true, true, true, true, true, true, true, true, true, true, true, true, false, false, false, true, true, true, false, true, false, false, false, false] rfl rfl (take_ofW HT_.out HW_.out (by kernel_rfl)) (fun _ _ _ h => h) (Or.inl ⟨by rfl, ?_⟩) hHeld ?_ ?_
                                  rotate_left
                                  ·rintro w' ⟨s0, s1, s2, s3⟩
                                   go_simp
                                   with_reducible rfl
                                  rotate_left
                                  ·simp only [Act.put, List.setIfInBounds_toArray, List.set_cons_zero, List.set_cons_succ, i64_w, i32_w]
                                   rfl
                                  refine pure_ (i := 16) (N := some 139) (v := ?_) (a' := ?_) #[true, true, true, true, true, true, true, true, true, true, true, true, true, true, true, true, true, false, false, true, true, true, false, true, false, false, false, false] rfl rfl (any_of HT_.out (by kernel_rfl)) (fun _ _ _ h => h) (Or.inl ⟨by rfl, ?_⟩) ?_ ?_
                                  rotate_left
                                  ·intro w'
                                   go_simp
                                   with_reducible rfl
                                  rotate_left
                                  ·simp only [Act.put, List.setIfInBounds_toArray, List.set_cons_zero, List.set_cons_succ, i64_w, i32_w]
                                   rfl
                                  refine take_ (i := 17) (N := some 140) (v := ?_) (a' := ?_) #[true, true, true, true, true, true, true, true, true, true, true, true, true, true, true, true, true, true, false, true, true, true, false, true, false, false, false, false] rfl rfl (take_ofW HT_.out HW_.out (by kernel_rfl)) (fun _ _ _ h => h) (Or.inl ⟨by rfl, ?_⟩) hHeld ?_ ?_
                                  rotate_left
                                  ·rintro w' ⟨s0, s1, s2, s3⟩
                                   go_simp
                                   with_reducible rfl
                                  rotate_left
                                  ·simp only [Act.put, List.setIfInBounds_toArray, List.set_cons_zero, List.set_cons_succ, i64_w, i32_w]
                                   rfl
                                  refine pure_ (i := 18) (N := some 141) (v := ?_) (a' := ?_) #[true, true, true, true, true, true, true, true, true, true, true, true, true, true, true, true, true, true, true, true, true, true, false, true, false, false, false, false] rfl rfl (any_of HT_.out (by kernel_rfl)) (fun _ _ _ h => h) (Or.inl ⟨by rfl, ?_⟩) ?_ ?_
                                  rotate_left
                                  ·intro w'
                                   go_simp
                                   with_reducible rfl
                                  rotate_left
                                  ·simp only [Act.put, List.setIfInBounds_toArray, List.set_cons_zero, List.set_cons_succ, i64_w, i32_w]
                                   rfl
                                  refine take_ (i := 22) (N := some 145) (v := ?_) (a' := ?_) #[true, true, true, true, true, true, true, true, true, true, true, true, true, true, true, true, true, true, true, true, true, true, true, true, false, false, false, false] rfl rfl (take_ofW HT_.out HW_.out (by kernel_rfl)) (fun _ _ _ h => h) (Or.inl ⟨by rfl, ?_⟩) hHeld ?_ ?_
                                  rotate_left
                                  ·rintro w' ⟨s0, s1, s2, s3⟩
                                   go_simp
                                   with_reducible rfl
                                  rotate_left
                                  ·simp only [Act.put, List.setIfInBounds_toArray, List.set_cons_zero, List.set_cons_succ, i64_w, i32_w]
                                   rfl
                                  refine pure_ (i := 24) (N := some 147) (v := ?_) (a' := ?_) #[true, true, true, true, true, true, true, true, true, true, true, true, true, true, true, true, true, true, true, true, true, true, true, true, true, false, false, false] rfl rfl (any_of HT_.out (by kernel_rfl)) (fun _ _ _ h => h) (Or.inl ⟨by rfl, ?_⟩) ?_ ?_
                                  rotate_left
                                  ·intro w'
                                   go_simp
                                   with_reducible rfl
                                  rotate_left
                                  ·simp only [Act.put, List.setIfInBounds_toArray, List.set_cons_zero, List.set_cons_succ, i64_w, i32_w]
                                   rfl
                                  refine take_ (i := 25) (N := some 148) (v := ?_) (a' := ?_) #[true, true, true, true, true, true, true, true, true, true, true, true, true, true, true, true, true, true, true, true, true, true, true, true, true, true, false, false] rfl rfl (take_ofW HT_.out HW_.out (by kernel_rfl)) (fun _ _ _ h => h) (Or.inl ⟨by rfl, ?_⟩) hHeld ?_ ?_
                                  rotate_left
                                  ·rintro w' ⟨s0, s1, s2, s3⟩
                                   go_simp
                                   with_reducible rfl
                                  rotate_left
                                  ·simp only [Act.put, List.setIfInBounds_toArray, List.set_cons_zero, List.set_cons_succ, i64_w, i32_w]
                                   rfl
                                  refine pure_ (i := 26) (N := some 149) (v := ?_) (a' := ?_) #[true, true, true, true, true, true, true, true, true, true, true, true, true, true, true, true, true, true, true, true, true, true, true, true, true, true, true, false] rfl rfl (any_of HT_.out (by kernel_rfl)) (fun _ _ _ h => h) (Or.inl ⟨by rfl, ?_⟩) ?_ ?_
                                  rotate_left
                                  ·intro w'
                                   go_simp
                                   with_reducible rfl
                                  rotate_left
                                  ·simp only [Act.put, List.setIfInBounds_toArray, List.set_cons_zero, List.set_cons_succ, i64_w, i32_w]
                                   rfl
                                  refine pure_ (i := 27) (N := some 150) (v := ?_) (a' := ?_) #[true, true, true, true, true, true, true, true, true, true, true, true, true, true, true, true, true, true, true, true, true, true, true, true, true, true, true, true] rfl rfl (any_of HT_.out (by kernel_rfl)) (fun _ _ _ h => h) (Or.inl ⟨by rfl, ?_⟩) ?_ ?_
                                  rotate_left
                                  ·intro w'
                                   go_simp
                                   with_reducible rfl
                                  rotate_left
                                  ·simp only [Act.put, List.setIfInBounds_toArray, List.set_cons_zero, List.set_cons_succ, i64_w, i32_w]
                                   rfl
                                  refine done_ (done_of HT_.out (by kernel_rfl)) ?_
                                  try go_wp2
                                  have n0_ := Aside0.mk (Kd.R_drew HO_2.out)
                                  have n1_ := Aside0.mk (Kd.S_drew HO_7.out)
                                  have n2_ := Aside0.mk (Kd.R_drew HL136_0.out)
                                  have n3_ := Aside0.mk (Kd.R_drew HL138_0.out)
                                  have n4_ := Aside0.mk (Kd.C_drew HR136_0.out)
                                  have n5_ := Aside0.mk (Kd.C_drew HR138_0.out)
                                  have n6_ := Aside0.mk (below_drew1 HB.out)
                                  clear HO_2
                                  clear HO_7
                                  clear HL136_0
                                  clear HL138_0
                                  clear HR136_0
                                  clear HR138_0
                                  clear HB
                                  have HO_2 := n0_
                                  have HO_7 := n1_
                                  have HL136_0 := n2_
                                  have HL138_0 := n3_
                                  have HR136_0 := n4_
                                  have HR138_0 := n5_
                                  have HB := n6_
                                  clear n0_ n1_ n2_ n3_ n4_ n5_ n6_
                                  refine start_ (n := 10) (S := fun w' => True) (ds := []) #[false, false, false, false, false, false, false, false, false, false] (by kernel_rfl) rfl rfl trivial (fun hHeld => ?_); refine with_tabW match_Assign.tab33 match_Assign.bits33 (fun HT_ HW_ => ?_)
                                  generalize w90.drew = w91 at HO_2 HO_7 HL136_0 HL138_0 HR136_0 HR138_0 HB hHeld ⊢
                                  refine pure_ (i := 0) (N := some 151) (v := ?_) (a' := ?_) #[true, false, false, false, false, false, false, false, false, false] rfl rfl (any_of HT_.out (by kernel_rfl)) (fun _ _ _ h => h) (Or.inl ⟨by rfl, ?_⟩) ?_ ?_
                                  rotate_left
                                  ·intro w'
                                   go_simp
                                   with_reducible rfl
                                  rotate_left
                                  ·simp only [Act.put, List.setIfInBounds_toArray, List.set_cons_zero, List.set_cons_succ, i64_w, i32_w]
                                   rfl
                                  refine pure_ (i := 1) (N := some 152) (v := ?_) (a' := ?_) #[true, true, false, false, false, false, false, false, false, false] rfl rfl (any_of HT_.out (by kernel_rfl)) (fun _ _ _ h => h) (Or.inl ⟨by rfl, ?_⟩) ?_ ?_
                                  rotate_left
                                  ·intro w'
                                   go_simp
                                   with_reducible rfl
                                  rotate_left
                                  ·simp only [Act.put, List.setIfInBounds_toArray, List.set_cons_zero, List.set_cons_succ, i64_w, i32_w]
                                   rfl
                                  refine pure_ (i := 4) (N := some 155) (v := ?_) (a' := ?_) #[true, true, false, false, true, false, false, false, false, false] rfl rfl (any_of HT_.out (by kernel_rfl)) (fun _ _ _ h => h) (Or.inl ⟨by rfl, ?_⟩) ?_ ?_
                                  rotate_left
                                  ·intro w'
                                   go_simp
                                   with_reducible rfl
                                  rotate_left
                                  ·simp only [Act.put, List.setIfInBounds_toArray, List.set_cons_zero, List.set_cons_succ, i64_w, i32_w]
                                   rfl
                                  refine pure_ (i := 5) (N := some 156) (v := ?_) (a' := ?_) #[true, true, false, false, true, true, false, false, false, false] rfl rfl (any_of HT_.out (by kernel_rfl)) (fun _ _ _ h => h) (Or.inl ⟨by rfl, ?_⟩) ?_ ?_
                                  rotate_left
                                  ·intro w'
                                   go_simp
                                   with_reducible rfl
                                  rotate_left
                                  ·simp only [Act.put, List.setIfInBounds_toArray, List.set_cons_zero, List.set_cons_succ, i64_w, i32_w]
                                   rfl
                                  refine pure_ (i := 6) (N := some 157) (v := ?_) (a' := ?_) #[true, true, false, false, true, true, true, false, false, false] rfl rfl (any_of HT_.out (by kernel_rfl)) (fun _ _ _ h => h) (Or.inl ⟨by rfl, ?_⟩) ?_ ?_
                                  rotate_left
                                  ·intro w'
                                   go_simp
                                   with_reducible rfl
                                  rotate_left
                                  ·simp only [Act.put, List.setIfInBounds_toArray, List.set_cons_zero, List.set_cons_succ, i64_w, i32_w]
                                   rfl
                                  refine pure_ (i := 7) (N := some 158) (v := ?_) (a' := ?_) #[true, true, false, false, true, true, true, true, false, false] rfl rfl (any_of HT_.out (by kernel_rfl)) (fun _ _ _ h => h) (Or.inl ⟨by rfl, ?_⟩) ?_ ?_
                                  rotate_left
                                  ·intro w'
                                   go_simp
                                   with_reducible rfl
                                  rotate_left
                                  ·simp only [Act.put, List.setIfInBounds_toArray, List.set_cons_zero, List.set_cons_succ, i64_w, i32_w]
                                   rfl
                                  refine one_ (i := 2) (N := some 153) #[true, true, true, false, true, true, true, true, false, false] rfl rfl (one_of HT_.out (by kernel_rfl)) (by decide) (fun K hK => ?_)
                                  refine value_ (w1 := ?_) (v := ?_) (by rfl) rfl ?_ ?_
                                  rotate_left 2
                                  ·go_simp
                                   constructor
                                   ·rfl
                                   ·rfl
                                  refine hK.out _ _ trivial (fun hHeld => ?_)
                                  clear hK K
                                  refine norm_ (a' := ?_) ?_ ?_
                                  rotate_left
                                  ·show Act.put _ (some 153) _ = _
                                   simp only [Act.put, List.setIfInBounds_toArray, List.set_cons_zero, List.set_cons_succ, i64_w, i32_w]
                                   rfl
                                  refine one_ (i := 3) (N := some 154) #[true, true, true, true, true, true, true, true, false, false] rfl rfl (one_of HT_.out (by kernel_rfl)) (by decide) (fun K hK => ?_)
                                  refine Kd.R_append_step (Kd.int .i64) (w0 := w) w.heap.size (by rfl) (.tmp 151) (.tmp 153) 22 3 (.int .i64 0) 8 rfl Try.underlying22 info3 rfl (by decide) (by omega) u2 x2_3 x118_3 [.int .i64 x118_3] (fun _ => True) (fun _ => False) rfl rfl ?aP (fun _ hk => hk.elim) ?aF ?aO ?aB ?aS ?aL ?_
                                  (case aP => exact rfl)
                                  (case aB => exact (by repeat (first | (with_reducible first | exact HB.out | apply below_alloc | apply pw_below_drewN | apply below_drew1) | exact HB.out)))
                                  (case aF => exact (fun _ _ => trivial))
                                  (case aO => exact (by (with_reducible repeat (first | apply Kd.R_alloc | apply Kd.R_drewN | apply Kd.R_drew)); exact HO_2.out))
                                  (case aS => exact (below_size (by repeat (first | (with_reducible first | exact HB.out | apply below_alloc | apply pw_below_drewN | apply below_drew1) | exact HB.out))))
                                  (case aL => have := LMc87.out; omega)
                                  intro v141 w92 ho hb hg hat
                                  rw [← Ny140.out] at ho
                                  have n0_ := Aside0.mk (Kd.S_after (ok := (fun _ => True)) (by (with_reducible repeat (first | apply Kd.S_alloc | apply Kd.S_drewN | apply Kd.S_drew)); exact Kd.S_mono HO_7.out (fun _ hk => ⟨trivial, hk⟩)) hg hat)
                                  have n1_ := Aside0.mk (Kd.R_after (ok := (fun k_ => some k_ ≠ (.slice (some ⟨go15, 0, none⟩) x7_1.length co15 : Value).ownBlock)) (by (with_reducible repeat (first | apply Kd.R_alloc | apply Kd.R_drewN | apply Kd.R_drew)); exact Kd.R_mono HL136_0.out (fun _ hk => ⟨hk.2, hk.1⟩)) hg hat)
                                  have n2_ := Aside0.mk (Kd.R_after (ok := (fun k_ => some k_ ≠ (.slice (some ⟨go15, 0, none⟩) x7_1.length co15 : Value).ownBlock)) (by (with_reducible repeat (first | apply Kd.R_alloc | apply Kd.R_drewN | apply Kd.R_drew)); exact Kd.R_mono HL138_0.out (fun _ hk => ⟨hk.2, hk.1⟩)) hg hat)
                                  have n3_ := Aside0.mk (hb)
                                  have n4_ := Aside0.mk (ho)
                                  clear HO_7
                                  clear HL136_0
                                  clear HL138_0
                                  clear HB
                                  clear HO_2
                                  have HO_7 := n0_
                                  have HL136_0 := n1_
                                  have HL138_0 := n2_
                                  have HB := n3_
                                  have HO142 := n4_
                                  clear n0_ n1_ n2_ n3_ n4_
                                  clear ho hb hg hat
                                  refine hK.out _ _ trivial (fun hHeld => ?_)
                                  clear hK K
                                  refine norm_ (a' := ?_) ?_ ?_
                                  rotate_left
                                  ·show Act.put _ (some 154) _ = _
                                   simp only [Act.put, List.setIfInBounds_toArray, List.set_cons_zero, List.set_cons_succ, i64_w, i32_w]
                                   rfl
                                  refine pure_ (i := 8) (N := some 2) (v := ?_) (a' := ?_) #[true, true, true, true, true, true, true, true, true, false] rfl rfl (any_of HT_.out (by kernel_rfl)) (fun _ _ _ h => h) (Or.inl ⟨by rfl, ?_⟩) ?_ ?_
                                  rotate_left
                                  ·intro w'
                                   go_simp
                                   with_reducible rfl
                                  rotate_left
                                  ·simp only [Act.put, List.setIfInBounds_toArray, List.set_cons_zero, List.set_cons_succ, i64_w, i32_w]
                                   rfl
                                  refine pure_ (i := 9) (N := some 12) (v := ?_) (a' := ?_) #[true, true, true, true, true, true, true, true, true, true] rfl rfl (any_of HT_.out (by kernel_rfl)) (fun _ _ _ h => h) (Or.inl ⟨by rfl, ?_⟩) ?_ ?_
                                  rotate_left
                                  ·intro w'
                                   go_simp
                                   with_reducible rfl
                                  rotate_left
                                  ·simp only [Act.put, List.setIfInBounds_toArray, List.set_cons_zero, List.set_cons_succ, i64_w, i32_w]
                                   rfl
                                  refine done_ (done_of HT_.out (by kernel_rfl)) ?_
                                  try go_wp2
                                  go_roundg k3
                                  case measure => have := HK1.out; have := HK2.out; have := HK3.out; omega
                                  case rel => exact ⟨(y140), (Go.bits .or .i64 x12_3 (ji79)), (ji75), (by first | rfl | (simp; done) | (simp only [← hji79] <;> (first | rfl | simp)) | (simp [*]; done)), (by first | rfl | (simp; done) | (simp only [← hji75] <;> (first | rfl | simp)) | (simp [*]; done)), H', ⟨by have := HK1.out; have := HK2.out; have := HK3.out; omega⟩, ⟨by (try simp only [hl7_1]); (with_reducible repeat (first | apply Kd.R_alloc | apply Kd.R_drewN | apply Kd.R_drew)); exact HO142.out⟩, ⟨by (try simp only [hl7_1]); (with_reducible repeat (first | apply Kd.S_alloc | apply Kd.S_drewN | apply Kd.S_drew)); exact Kd.S_mono HO_7.out (fun _ hk => hk.2)⟩, ⟨by repeat (first | (with_reducible first | exact HB.out | apply below_alloc | apply pw_below_drewN | apply below_drew1) | exact HB.out)⟩⟩
                                 ·rw [if_neg c87] at H
                                  exact absurd H (by simp)
                                ·rw [if_neg c86] at H
                                 have c86b0 : ((wrap64 ((rd (rd_L1 l0 x111_2) x118_3) + (rd (rd_L1 x7_1 (ji75)) (Go.bits .or .i64 x12_3 (ji79))))) == (rd (rd_L1 x7_1 x111_2) x12_3)) = false := beq_eq_false_iff_ne.mpr c86
                                 have c86b1 : ((wrap64 ((rd (rd_L1 l0 x111_2) x118_3) + (rd (rd_L1 x7_1 (ji75)) (Go.bits .or .i64 x12_3 (ji79))))) != (rd (rd_L1 x7_1 x111_2) x12_3)) = true := bne_iff_ne.mpr c86
                                 have H' := Aside0.mk H
                                 clear H
                                 have p135 : 0 ≤ (x118_3 : Int) := of_decide_eq_true (by first | (with_reducible assumption) | assumption)
                                 have q135 : x118_3 < ((rd_L1 l0 x111_2).length : Int) := of_decide_eq_true (by first | (with_reducible assumption) | assumption)
                                 obtain ⟨ad135, e135, hx135_0⟩ := Kd.at_int HR134_0.out x118_3 p135 q135
                                 cases e135
                                 replace hx135_0 := (HB.out.cell (World.block_lt_of_cell? w _ hx135_0)).trans hx135_0
                                 replace p135 := eq_true p135
                                 replace q135 := eq_true q135
                                 try go_wp2
                                 have n0_ := Aside0.mk (Kd.R_drew HO_2.out)
                                 have n1_ := Aside0.mk (Kd.S_drew HO_7.out)
                                 have n2_ := Aside0.mk (below_drew1 HB.out)
                                 clear HO_2
                                 clear HO_7
                                 clear HB
                                 have HO_2 := n0_
                                 have HO_7 := n1_
                                 have HB := n2_
                                 clear n0_ n1_ n2_
                                 have p136 : 0 ≤ ((ji75) : Int) := of_decide_eq_true (by first | (with_reducible assumption) | assumption)
                                 have q136 : (ji75) < (x7_1.length : Int) := of_decide_eq_true (by first | (with_reducible assumption) | assumption)
                                 obtain ⟨ad136, A136_0, c136_0, e136, hx136_0, hl136_0, hi136_0⟩ := at_L1 (Kd.S_reads' HO_7.out).2.2 (ji75) p136 q136
                                 obtain rfl : (⟨go15, 0, none⟩ : Addr) = ad136 := (by injection e136)
                                 obtain ⟨ce136, hce136, hMe136, hcc136⟩ := Kd.S_get HO_7.out [] (ji75) p136 (by first | exact q136 | exact of_decide_eq_true (by first | (with_reducible assumption) | assumption) | (have e_ := (Kd.S_reads' HO_7.out).1; omega))
                                 obtain ⟨ve136_0, rfl, ge136_0⟩ := hMe136
                                 have hv136_0 := hcc136 0 _ rfl
                                 rw [Nat.add_zero, show ((Kd.slice 3 (Kd.int .i64))).sz = 1 from rfl, Nat.mul_one] at hv136_0
                                 replace hv136_0 := Option.some.inj (hv136_0.symm.trans hx136_0)
                                 rw [hv136_0] at ge136_0
                                 have HL136_0 := Aside0.mk (show Kd.R (Kd.int .i64) 3 _ _ _ _ (rd_L1 x7_1 (ji75)) from ge136_0)
                                 clear hv136_0 ge136_0
                                 have HX136_0 := Aside0.mk hx136_0
                                 clear hcc136 hce136
                                 (first | simp only [add_plain] at hx136_0 | simp only [add_at] at hx136_0 | simp only [Addr.add, Nat.zero_add] at hx136_0 | skip)
                                 have HR136_0 := Aside0.mk hi136_0
                                 have HC136_0 := Aside0.mk hl136_0
                                 clear hi136_0 hl136_0
                                 replace p136 := eq_true p136
                                 replace q136 := eq_true q136
                                 have p137 : 0 ≤ ((Go.bits .or .i64 x12_3 (ji79)) : Int) := of_decide_eq_true (by first | (with_reducible assumption) | assumption)
                                 have q137 : (Go.bits .or .i64 x12_3 (ji79)) < ((rd_L1 x7_1 (ji75)).length : Int) := of_decide_eq_true (by first | (with_reducible assumption) | assumption)
                                 obtain ⟨ad137, e137, hx137_0⟩ := Kd.at_int (by repeat (first | (with_reducible exact HR136_0.out) | (with_reducible refine Kd.C_alloc ?_ _) | (with_reducible refine Kd.C_drewN ?_ _) | (with_reducible refine Kd.C_drew ?_) | exact HR136_0.out)) (Go.bits .or .i64 x12_3 (ji79)) p137 q137
                                 cases e137
                                 replace p137 := eq_true p137
                                 replace q137 := eq_true q137
                                 have p138 : 0 ≤ (x111_2 : Int) := of_decide_eq_true (by first | (with_reducible assumption) | assumption)
                                 have q138 : x111_2 < (x7_1.length : Int) := of_decide_eq_true (by first | (with_reducible assumption) | assumption)
                                 obtain ⟨ad138, A138_0, c138_0, e138, hx138_0, hl138_0, hi138_0⟩ := at_L1 (Kd.S_reads' HO_7.out).2.2 x111_2 p138 q138
                                 obtain rfl : (⟨go15, 0, none⟩ : Addr) = ad138 := (by injection e138)
                                 obtain ⟨ce138, hce138, hMe138, hcc138⟩ := Kd.S_get HO_7.out [] x111_2 p138 (by first | exact q138 | exact of_decide_eq_true (by first | (with_reducible assumption) | assumption) | (have e_ := (Kd.S_reads' HO_7.out).1; omega))
                                 obtain ⟨ve138_0, rfl, ge138_0⟩ := hMe138
                                 have hv138_0 := hcc138 0 _ rfl
                                 rw [Nat.add_zero, show ((Kd.slice 3 (Kd.int .i64))).sz = 1 from rfl, Nat.mul_one] at hv138_0
                                 replace hv138_0 := Option.some.inj (hv138_0.symm.trans hx138_0)
                                 rw [hv138_0] at ge138_0
                                 have HL138_0 := Aside0.mk (show Kd.R (Kd.int .i64) 3 _ _ _ _ (rd_L1 x7_1 x111_2) from ge138_0)
                                 clear hv138_0 ge138_0
                                 have HX138_0 := Aside0.mk hx138_0
                                 clear hcc138 hce138
                                 (first | simp only [add_plain] at hx138_0 | simp only [add_at] at hx138_0 | simp only [Addr.add, Nat.zero_add] at hx138_0 | skip)
                                 have HR138_0 := Aside0.mk hi138_0
                                 have HC138_0 := Aside0.mk hl138_0
                                 clear hi138_0 hl138_0
                                 replace p138 := eq_true p138
                                 replace q138 := eq_true q138
                                 have p139 : 0 ≤ (x12_3 : Int) := of_decide_eq_true (by first | (with_reducible assumption) | assumption)
                                 have q139 : x12_3 < ((rd_L1 x7_1 x111_2).length : Int) := of_decide_eq_true (by first | (with_reducible assumption) | assumption)
                                 obtain ⟨ad139, e139, hx139_0⟩ := Kd.at_int (by repeat (first | (with_reducible exact HR138_0.out) | (with_reducible refine Kd.C_alloc ?_ _) | (with_reducible refine Kd.C_drewN ?_ _) | (with_reducible refine Kd.C_drew ?_) | exact HR138_0.out)) x12_3 p139 q139
                                 cases e139
                                 replace p139 := eq_true p139
                                 replace q139 := eq_true q139
                                 refine start_ (n := 28) (S := fun w' => w'.cell? ⟨go15, ((ji75)).toNat, none⟩ = some (.slice (some ad137) (rd_L1 x7_1 (ji75)).length c136_0) ∧ w'.cell? (ad137.add ((Go.bits .or .i64 x12_3 (ji79))).toNat) = some (.int .i64 (rd (rd_L1 x7_1 (ji75)) (Go.bits .or .i64 x12_3 (ji79)))) ∧ w'.cell? ⟨go15, (x111_2).toNat, none⟩ = some (.slice (some ad139) (rd_L1 x7_1 x111_2).length c138_0) ∧ w'.cell? (ad139.add (x12_3).toNat) = some (.int .i64 (rd (rd_L1 x7_1 x111_2) x12_3))) (ds := []) #[false, false, false, false, false, false, false, false, false, false, false, false, false, false, false, false, false, false, false, false, false, false, false, false, false, false, false, false] (by kernel_rfl) rfl rfl ⟨hx136_0, hx137_0, hx138_0, hx139_0⟩ (fun hHeld => ?_); refine with_tabW match_Assign.tab32 match_Assign.bits32 (fun HT_ HW_ => ?_)
                                 generalize wr.drew = w93 at HO_2 HO_7 HB HL136_0 HL138_0 HR136_0 HR138_0 HX136_0 HX138_0 hx136_0 hx137_0 hx138_0 hx139_0 hHeld ⊢
                                 refine pure_ (i := 0) (N := some 123) (v := ?_) (a' := ?_) #[true, false, false, false, false, false, false, false, false, false, false, false, false, false, false, false, false, false, false, false, false, false, false, false, false, false, false, false] rfl rfl (any_of HT_.out (by kernel_rfl)) (fun _ _ _ h => h) (Or.inl ⟨by rfl, ?_⟩) ?_ ?_
                                 rotate_left
                                 ·intro w'
                                  go_simp
                                  with_reducible rfl
                                 rotate_left
                                 ·simp only [Act.put, List.setIfInBounds_toArray, List.set_cons_zero, List.set_cons_succ, i64_w, i32_w]
                                  rfl
                                 refine pure_ (i := 1) (N := some 124) (v := ?_) (a' := ?_) #[true, true, false, false, false, false, false, false, false, false, false, false, false, false, false, false, false, false, false, false, false, false, false, false, false, false, false, false] rfl rfl (any_of HT_.out (by kernel_rfl)) (fun _ _ _ h => h) (Or.inl ⟨by rfl, ?_⟩) ?_ ?_
                                 rotate_left
                                 ·intro w'
                                  go_simp
                                  with_reducible rfl
                                 rotate_left
                                 ·simp only [Act.put, List.setIfInBounds_toArray, List.set_cons_zero, List.set_cons_succ, i64_w, i32_w]
                                  rfl
                                 refine pure_ (i := 2) (N := some 125) (v := ?_) (a' := ?_) #[true, true, true, false, false, false, false, false, false, false, false, false, false, false, false, false, false, false, false, false, false, false, false, false, false, false, false, false] rfl rfl (any_of HT_.out (by kernel_rfl)) (fun _ _ _ h => h) (Or.inl ⟨by rfl, ?_⟩) ?_ ?_
                                 rotate_left
                                 ·intro w'
                                  go_simp
                                  with_reducible rfl
                                 rotate_left
                                 ·simp only [Act.put, List.setIfInBounds_toArray, List.set_cons_zero, List.set_cons_succ, i64_w, i32_w]
                                  rfl
                                 refine pure_ (i := 3) (N := some 126) (v := ?_) (a' := ?_) #[true, true, true, true, false, false, false, false, false, false, false, false, false, false, false, false, false, false, false, false, false, false, false, false, false, false, false, false] rfl rfl (any_of HT_.out (by kernel_rfl)) (fun _ _ _ h => h) (Or.inl ⟨by rfl, ?_⟩) ?_ ?_
                                 rotate_left
                                 ·intro w'
                                  go_simp
                                  with_reducible rfl
                                 rotate_left
                                 ·simp only [Act.put, List.setIfInBounds_toArray, List.set_cons_zero, List.set_cons_succ, i64_w, i32_w]
                                  rfl
                                 refine pure_ (i := 4) (N := some 127) (v := ?_) (a' := ?_) #[true, true, true, true, true, false, false, false, false, false, false, false, false, false, false, false, false, false, false, false, false, false, false, false, false, false, false, false] rfl rfl (any_of HT_.out (by kernel_rfl)) (fun _ _ _ h => h) (Or.inl ⟨by rfl, ?_⟩) ?_ ?_
                                 rotate_left
                                 ·intro w'
                                  go_simp
                                  with_reducible rfl
                                 rotate_left
                                 ·simp only [Act.put, List.setIfInBounds_toArray, List.set_cons_zero, List.set_cons_succ, i64_w, i32_w]
                                  rfl
                                 refine pure_ (i := 5) (N := some 128) (v := ?_) (a' := ?_) #[true, true, true, true, true, true, false, false, false, false, false, false, false, false, false, false, false, false, false, false, false, false, false, false, false, false, false, false] rfl rfl (any_of HT_.out (by kernel_rfl)) (fun _ _ _ h => h) (Or.inl ⟨by rfl, ?_⟩) ?_ ?_
                                 rotate_left
                                 ·intro w'
                                  go_simp
                                  with_reducible rfl
                                 rotate_left
                                 ·simp only [Act.put, List.setIfInBounds_toArray, List.set_cons_zero, List.set_cons_succ, i64_w, i32_w]
                                  rfl
                                 refine pure_ (i := 6) (N := some 129) (v := ?_) (a' := ?_) #[true, true, true, true, true, true, true, false, false, false, false, false, false, false, false, false, false, false, false, false, false, false, false, false, false, false, false, false] rfl rfl (any_of HT_.out (by kernel_rfl)) (fun _ _ _ h => h) (Or.inl ⟨by rfl, ?_⟩) ?_ ?_
                                 rotate_left
                                 ·intro w'
                                  go_simp
                                  with_reducible rfl
                                 rotate_left
                                 ·simp only [Act.put, List.setIfInBounds_toArray, List.set_cons_zero, List.set_cons_succ, i64_w, i32_w]
                                  rfl
                                 refine pure_ (i := 7) (N := some 130) (v := ?_) (a' := ?_) #[true, true, true, true, true, true, true, true, false, false, false, false, false, false, false, false, false, false, false, false, false, false, false, false, false, false, false, false] rfl rfl (any_of HT_.out (by kernel_rfl)) (fun _ _ _ h => h) (Or.inl ⟨by rfl, ?_⟩) ?_ ?_
                                 rotate_left
                                 ·intro w'
                                  go_simp
                                  with_reducible rfl
                                 rotate_left
                                 ·simp only [Act.put, List.setIfInBounds_toArray, List.set_cons_zero, List.set_cons_succ, i64_w, i32_w]
                                  rfl
                                 refine pure_ (i := 8) (N := some 131) (v := ?_) (a' := ?_) #[true, true, true, true, true, true, true, true, true, false, false, false, false, false, false, false, false, false, false, false, false, false, false, false, false, false, false, false] rfl rfl (any_of HT_.out (by kernel_rfl)) (fun _ _ _ h => h) (Or.inl ⟨by rfl, ?_⟩) ?_ ?_
                                 rotate_left
                                 ·intro w'
                                  go_simp
                                  with_reducible rfl
                                 rotate_left
                                 ·simp only [Act.put, List.setIfInBounds_toArray, List.set_cons_zero, List.set_cons_succ, i64_w, i32_w]
                                  rfl
                                 refine pure_ (i := 9) (N := some 132) (v := ?_) (a' := ?_) #[true, true, true, true, true, true, true, true, true, true, false, false, false, false, false, false, false, false, false, false, false, false, false, false, false, false, false, false] rfl rfl (any_of HT_.out (by kernel_rfl)) (fun _ _ _ h => h) (Or.inl ⟨by rfl, ?_⟩) ?_ ?_
                                 rotate_left
                                 ·intro w'
                                  go_simp
                                  with_reducible rfl
                                 rotate_left
                                 ·simp only [Act.put, List.setIfInBounds_toArray, List.set_cons_zero, List.set_cons_succ, i64_w, i32_w]
                                  rfl
                                 refine pure_ (i := 10) (N := some 133) (v := ?_) (a' := ?_) #[true, true, true, true, true, true, true, true, true, true, true, false, false, false, false, false, false, false, false, false, false, false, false, false, false, false, false, false] rfl rfl (any_of HT_.out (by kernel_rfl)) (fun _ _ _ h => h) (Or.inl ⟨by rfl, ?_⟩) ?_ ?_
                                 rotate_left
                                 ·intro w'
                                  go_simp
                                  with_reducible rfl
                                 rotate_left
                                 ·simp only [Act.put, List.setIfInBounds_toArray, List.set_cons_zero, List.set_cons_succ, i64_w, i32_w]
                                  rfl
                                 refine pure_ (i := 12) (N := some 135) (v := ?_) (a' := ?_) #[true, true, true, true, true, true, true, true, true, true, true, false, true, false, false, false, false, false, false, false, false, false, false, false, false, false, false, false] rfl rfl (any_of HT_.out (by kernel_rfl)) (fun _ _ _ h => h) (Or.inl ⟨by rfl, ?_⟩) ?_ ?_
                                 rotate_left
                                 ·intro w'
                                  go_simp
                                  with_reducible rfl
                                 rotate_left
                                 ·simp only [Act.put, List.setIfInBounds_toArray, List.set_cons_zero, List.set_cons_succ, i64_w, i32_w]
                                  rfl
                                 refine pure_ (i := 13) (N := some 136) (v := ?_) (a' := ?_) #[true, true, true, true, true, true, true, true, true, true, true, false, true, true, false, false, false, false, false, false, false, false, false, false, false, false, false, false] rfl rfl (any_of HT_.out (by kernel_rfl)) (fun _ _ _ h => h) (Or.inl ⟨by rfl, ?_⟩) ?_ ?_
                                 rotate_left
                                 ·intro w'
                                  go_simp
                                  with_reducible rfl
                                 rotate_left
                                 ·simp only [Act.put, List.setIfInBounds_toArray, List.set_cons_zero, List.set_cons_succ, i64_w, i32_w]
                                  rfl
                                 refine pure_ (i := 14) (N := some 137) (v := ?_) (a' := ?_) #[true, true, true, true, true, true, true, true, true, true, true, false, true, true, true, false, false, false, false, false, false, false, false, false, false, false, false, false] rfl rfl (any_of HT_.out (by kernel_rfl)) (fun _ _ _ h => h) (Or.inl ⟨by rfl, ?_⟩) ?_ ?_
                                 rotate_left
                                 ·intro w'
                                  go_simp
                                  with_reducible rfl
                                 rotate_left
                                 ·simp only [Act.put, List.setIfInBounds_toArray, List.set_cons_zero, List.set_cons_succ, i64_w, i32_w]
                                  rfl
                                 refine pure_ (i := 15) (N := some 138) (v := ?_) (a' := ?_) #[true, true, true, true, true, true, true, true, true, true, true, false, true, true, true, true, false, false, false, false, false, false, false, false, false, false, false, false] rfl rfl (any_of HT_.out (by kernel_rfl)) (fun _ _ _ h => h) (Or.inl ⟨by rfl, ?_⟩) ?_ ?_
                                 rotate_left
                                 ·intro w'
                                  go_simp
                                  with_reducible rfl
                                 rotate_left
                                 ·simp only [Act.put, List.setIfInBounds_toArray, List.set_cons_zero, List.set_cons_succ, i64_w, i32_w]
                                  rfl
                                 refine pure_ (i := 19) (N := some 142) (v := ?_) (a' := ?_) #[true, true, true, true, true, true, true, true, true, true, true, false, true, true, true, true, false, false, false, true, false, false, false, false, false, false, false, false] rfl rfl (any_of HT_.out (by kernel_rfl)) (fun _ _ _ h => h) (Or.inl ⟨by rfl, ?_⟩) ?_ ?_
                                 rotate_left
                                 ·intro w'
                                  go_simp
                                  with_reducible rfl
                                 rotate_left
                                 ·simp only [Act.put, List.setIfInBounds_toArray, List.set_cons_zero, List.set_cons_succ, i64_w, i32_w]
                                  rfl
                                 refine pure_ (i := 20) (N := some 143) (v := ?_) (a' := ?_) #[true, true, true, true, true, true, true, true, true, true, true, false, true, true, true, true, false, false, false, true, true, false, false, false, false, false, false, false] rfl rfl (any_of HT_.out (by kernel_rfl)) (fun _ _ _ h => h) (Or.inl ⟨by rfl, ?_⟩) ?_ ?_
                                 rotate_left
                                 ·intro w'
                                  go_simp
                                  with_reducible rfl
                                 rotate_left
                                 ·simp only [Act.put, List.setIfInBounds_toArray, List.set_cons_zero, List.set_cons_succ, i64_w, i32_w]
                                  rfl
                                 refine pure_ (i := 21) (N := some 144) (v := ?_) (a' := ?_) #[true, true, true, true, true, true, true, true, true, true, true, false, true, true, true, true, false, false, false, true, true, true, false, false, false, false, false, false] rfl rfl (any_of HT_.out (by kernel_rfl)) (fun _ _ _ h => h) (Or.inl ⟨by rfl, ?_⟩) ?_ ?_
                                 rotate_left
                                 ·intro w'
                                  go_simp
                                  with_reducible rfl
                                 rotate_left
                                 ·simp only [Act.put, List.setIfInBounds_toArray, List.set_cons_zero, List.set_cons_succ, i64_w, i32_w]
                                  rfl
                                 refine pure_ (i := 23) (N := some 146) (v := ?_) (a' := ?_) #[true, true, true, true, true, true, true, true, true, true, true, false, true, true, true, true, false, false, false, true, true, true, false, true, false, false, false, false] rfl rfl (any_of HT_.out (by kernel_rfl)) (fun _ _ _ h => h) (Or.inl ⟨by rfl, ?_⟩) ?_ ?_
                                 rotate_left
                                 ·intro w'
                                  go_simp
                                  with_reducible rfl
                                 rotate_left
                                 ·simp only [Act.put, List.setIfInBounds_toArray, List.set_cons_zero, List.set_cons_succ, i64_w, i32_w]
                                  rfl
                                 refine take_ (i := 11) (N := some 134) (v := ?_) (a' := ?_) #[true, true, true, true, true, true, true, true, true, true, true, true, true, true, true, true, false, false, false, true, true, true, false, true, false, false, false, false] rfl rfl (take_ofW HT_.out HW_.out (by kernel_rfl)) (fun _ _ _ h => h) (Or.inl ⟨by rfl, ?_⟩) hHeld ?_ ?_
                                 rotate_left
                                 ·rintro w' ⟨s0, s1, s2, s3⟩
                                  go_simp
                                  with_reducible rfl
                                 rotate_left
                                 ·simp only [Act.put, List.setIfInBounds_toArray, List.set_cons_zero, List.set_cons_succ, i64_w, i32_w]
                                  rfl
                                 refine pure_ (i := 16) (N := some 139) (v := ?_) (a' := ?_) #[true, true, true, true, true, true, true, true, true, true, true, true, true, true, true, true, true, false, false, true, true, true, false, true, false, false, false, false] rfl rfl (any_of HT_.out (by kernel_rfl)) (fun _ _ _ h => h) (Or.inl ⟨by rfl, ?_⟩) ?_ ?_
                                 rotate_left
                                 ·intro w'
                                  go_simp
                                  with_reducible rfl
                                 rotate_left
                                 ·simp only [Act.put, List.setIfInBounds_toArray, List.set_cons_zero, List.set_cons_succ, i64_w, i32_w]
                                  rfl
                                 refine take_ (i := 17) (N := some 140) (v := ?_) (a' := ?_) #[true, true, true, true, true, true, true, true, true, true, true, true, true, true, true, true, true, true, false, true, true, true, false, true, false, false, false, false] rfl rfl (take_ofW HT_.out HW_.out (by kernel_rfl)) (fun _ _ _ h => h) (Or.inl ⟨by rfl, ?_⟩) hHeld ?_ ?_
                                 rotate_left
                                 ·rintro w' ⟨s0, s1, s2, s3⟩
                                  go_simp
                                  with_reducible rfl
                                 rotate_left
                                 ·simp only [Act.put, List.setIfInBounds_toArray, List.set_cons_zero, List.set_cons_succ, i64_w, i32_w]
                                  rfl
                                 refine pure_ (i := 18) (N := some 141) (v := ?_) (a' := ?_) #[true, true, true, true, true, true, true, true, true, true, true, true, true, true, true, true, true, true, true, true, true, true, false, true, false, false, false, false] rfl rfl (any_of HT_.out (by kernel_rfl)) (fun _ _ _ h => h) (Or.inl ⟨by rfl, ?_⟩) ?_ ?_
                                 rotate_left
                                 ·intro w'
                                  go_simp
                                  with_reducible rfl
                                 rotate_left
                                 ·simp only [Act.put, List.setIfInBounds_toArray, List.set_cons_zero, List.set_cons_succ, i64_w, i32_w]
                                  rfl
                                 refine take_ (i := 22) (N := some 145) (v := ?_) (a' := ?_) #[true, true, true, true, true, true, true, true, true, true, true, true, true, true, true, true, true, true, true, true, true, true, true, true, false, false, false, false] rfl rfl (take_ofW HT_.out HW_.out (by kernel_rfl)) (fun _ _ _ h => h) (Or.inl ⟨by rfl, ?_⟩) hHeld ?_ ?_
                                 rotate_left
                                 ·rintro w' ⟨s0, s1, s2, s3⟩
                                  go_simp
                                  with_reducible rfl
                                 rotate_left
                                 ·simp only [Act.put, List.setIfInBounds_toArray, List.set_cons_zero, List.set_cons_succ, i64_w, i32_w]
                                  rfl
                                 refine pure_ (i := 24) (N := some 147) (v := ?_) (a' := ?_) #[true, true, true, true, true, true, true, true, true, true, true, true, true, true, true, true, true, true, true, true, true, true, true, true, true, false, false, false] rfl rfl (any_of HT_.out (by kernel_rfl)) (fun _ _ _ h => h) (Or.inl ⟨by rfl, ?_⟩) ?_ ?_
                                 rotate_left
                                 ·intro w'
                                  go_simp
                                  with_reducible rfl
                                 rotate_left
                                 ·simp only [Act.put, List.setIfInBounds_toArray, List.set_cons_zero, List.set_cons_succ, i64_w, i32_w]
                                  rfl
                                 refine take_ (i := 25) (N := some 148) (v := ?_) (a' := ?_) #[true, true, true, true, true, true, true, true, true, true, true, true, true, true, true, true, true, true, true, true, true, true, true, true, true, true, false, false] rfl rfl (take_ofW HT_.out HW_.out (by kernel_rfl)) (fun _ _ _ h => h) (Or.inl ⟨by rfl, ?_⟩) hHeld ?_ ?_
                                 rotate_left
                                 ·rintro w' ⟨s0, s1, s2, s3⟩
                                  go_simp
                                  with_reducible rfl
                                 rotate_left
                                 ·simp only [Act.put, List.setIfInBounds_toArray, List.set_cons_zero, List.set_cons_succ, i64_w, i32_w]
                                  rfl
                                 refine pure_ (i := 26) (N := some 149) (v := ?_) (a' := ?_) #[true, true, true, true, true, true, true, true, true, true, true, true, true, true, true, true, true, true, true, true, true, true, true, true, true, true, true, false] rfl rfl (any_of HT_.out (by kernel_rfl)) (fun _ _ _ h => h) (Or.inl ⟨by rfl, ?_⟩) ?_ ?_
                                 rotate_left
                                 ·intro w'
                                  go_simp
                                  with_reducible rfl
                                 rotate_left
                                 ·simp only [Act.put, List.setIfInBounds_toArray, List.set_cons_zero, List.set_cons_succ, i64_w, i32_w]
                                  rfl
                                 refine pure_ (i := 27) (N := some 150) (v := ?_) (a' := ?_) #[true, true, true, true, true, true, true, true, true, true, true, true, true, true, true, true, true, true, true, true, true, true, true, true, true, true, true, true] rfl rfl (any_of HT_.out (by kernel_rfl)) (fun _ _ _ h => h) (Or.inl ⟨by rfl, ?_⟩) ?_ ?_
                                 rotate_left
                                 ·intro w'
                                  go_simp
                                  with_reducible rfl
                                 rotate_left
                                 ·simp only [Act.put, List.setIfInBounds_toArray, List.set_cons_zero, List.set_cons_succ, i64_w, i32_w]
                                  rfl
                                 refine done_ (done_of HT_.out (by kernel_rfl)) ?_
                                 try go_wp2
                                 go_roundg k3
                                 case measure => have := HK1.out; have := HK2.out; have := HK3.out; omega
                                 case rel => exact ⟨(x2_3), (x12_3), (wrap64 (x118_3 + 1)), (by first | rfl | (simp; done) | (simp [*]; done)), (by first | rfl | (simp; done) | (simp [*]; done)), H', ⟨by have := HK1.out; have := HK2.out; have := HK3.out; omega⟩, ⟨by (try simp only [hl7_1]); (with_reducible repeat (first | apply Kd.R_alloc | apply Kd.R_drewN | apply Kd.R_drew)); exact HO_2.out⟩, ⟨by (try simp only [hl7_1]); (with_reducible repeat (first | apply Kd.S_alloc | apply Kd.S_drewN | apply Kd.S_drew)); exact HO_7.out⟩, ⟨by repeat (first | (with_reducible first | exact HB.out | apply below_alloc | apply pw_below_drewN | apply below_drew1) | exact HB.out)⟩⟩
                               ·rw [if_neg c85] at H
                                exact absurd H (by simp)
                              ·rw [if_neg c84] at H
                               exact absurd H (by simp)
                             ·rw [if_neg c83] at H
                              exact absurd H (by simp)
                            ·rw [if_neg c82] at H
                             exact absurd H (by simp)
                           ·rw [if_neg c81] at H
                            exact absurd H (by simp)
                          ·rw [if_neg c80] at H
                           exact absurd H (by simp)
                         ·rw [if_neg c77] at H
                          exact absurd H (by simp)
                        ·rw [if_neg c76] at H
                         exact absurd H (by simp)
                       ·rw [if_neg c74] at H
                        have c74b0 : ((Go.bits .and .i64 (ji73) 1) == 0) = false := beq_eq_false_iff_ne.mpr c74
                        have c74b1 : ((Go.bits .and .i64 (ji73) 1) != 0) = true := bne_iff_ne.mpr c74
                        have H' := Aside0.mk H
                        clear H
                        have p135 : 0 ≤ (x118_3 : Int) := of_decide_eq_true (by first | (with_reducible assumption) | assumption)
                        have q135 : x118_3 < ((rd_L1 l0 x111_2).length : Int) := of_decide_eq_true (by first | (with_reducible assumption) | assumption)
                        obtain ⟨ad135, e135, hx135_0⟩ := Kd.at_int HR134_0.out x118_3 p135 q135
                        cases e135
                        replace hx135_0 := (HB.out.cell (World.block_lt_of_cell? w _ hx135_0)).trans hx135_0
                        replace p135 := eq_true p135
                        replace q135 := eq_true q135
                        try go_wp2
                        have n0_ := Aside0.mk (Kd.R_drew HO_2.out)
                        have n1_ := Aside0.mk (Kd.S_drew HO_7.out)
                        have n2_ := Aside0.mk (below_drew1 HB.out)
                        clear HO_2
                        clear HO_7
                        clear HB
                        have HO_2 := n0_
                        have HO_7 := n1_
                        have HB := n2_
                        clear n0_ n1_ n2_
                        refine start_ (n := 28) (S := fun w' => True) (ds := []) #[false, false, false, false, false, false, false, false, false, false, false, false, false, false, false, false, false, false, false, false, false, false, false, false, false, false, false, false] (by kernel_rfl) rfl rfl trivial (fun hHeld => ?_); refine with_tabW match_Assign.tab32 match_Assign.bits32 (fun HT_ HW_ => ?_)
                        generalize wr.drew = w94 at HO_2 HO_7 HB hHeld ⊢
                        refine pure_ (i := 0) (N := some 123) (v := ?_) (a' := ?_) #[true, false, false, false, false, false, false, false, false, false, false, false, false, false, false, false, false, false, false, false, false, false, false, false, false, false, false, false] rfl rfl (any_of HT_.out (by kernel_rfl)) (fun _ _ _ h => h) (Or.inl ⟨by rfl, ?_⟩) ?_ ?_
                        rotate_left
                        ·intro w'
                         go_simp
                         with_reducible rfl
                        rotate_left
                        ·simp only [Act.put, List.setIfInBounds_toArray, List.set_cons_zero, List.set_cons_succ, i64_w, i32_w]
                         rfl
                        refine pure_ (i := 1) (N := some 124) (v := ?_) (a' := ?_) #[true, true, false, false, false, false, false, false, false, false, false, false, false, false, false, false, false, false, false, false, false, false, false, false, false, false, false, false] rfl rfl (any_of HT_.out (by kernel_rfl)) (fun _ _ _ h => h) (Or.inl ⟨by rfl, ?_⟩) ?_ ?_
                        rotate_left
                        ·intro w'
                         go_simp
                         with_reducible rfl
                        rotate_left
                        ·simp only [Act.put, List.setIfInBounds_toArray, List.set_cons_zero, List.set_cons_succ, i64_w, i32_w]
                         rfl
                        refine pure_ (i := 2) (N := some 125) (v := ?_) (a' := ?_) #[true, true, true, false, false, false, false, false, false, false, false, false, false, false, false, false, false, false, false, false, false, false, false, false, false, false, false, false] rfl rfl (any_of HT_.out (by kernel_rfl)) (fun _ _ _ h => h) (Or.inl ⟨by rfl, ?_⟩) ?_ ?_
                        rotate_left
                        ·intro w'
                         go_simp
                         with_reducible rfl
                        rotate_left
                        ·simp only [Act.put, List.setIfInBounds_toArray, List.set_cons_zero, List.set_cons_succ, i64_w, i32_w]
                         rfl
                        refine pure_ (i := 3) (N := some 126) (v := ?_) (a' := ?_) #[true, true, true, true, false, false, false, false, false, false, false, false, false, false, false, false, false, false, false, false, false, false, false, false, false, false, false, false] rfl rfl (any_of HT_.out (by kernel_rfl)) (fun _ _ _ h => h) (Or.inl ⟨by rfl, ?_⟩) ?_ ?_
                        rotate_left
                        ·intro w'
                         go_simp
                         with_reducible rfl
                        rotate_left
                        ·simp only [Act.put, List.setIfInBounds_toArray, List.set_cons_zero, List.set_cons_succ, i64_w, i32_w]
                         rfl
                        refine pure_ (i := 4) (N := some 127) (v := ?_) (a' := ?_) #[true, true, true, true, true, false, false, false, false, false, false, false, false, false, false, false, false, false, false, false, false, false, false, false, false, false, false, false] rfl rfl (any_of HT_.out (by kernel_rfl)) (fun _ _ _ h => h) (Or.inl ⟨by rfl, ?_⟩) ?_ ?_
                        rotate_left
                        ·intro w'
                         go_simp
                         with_reducible rfl
                        rotate_left
                        ·simp only [Act.put, List.setIfInBounds_toArray, List.set_cons_zero, List.set_cons_succ, i64_w, i32_w]
                         rfl
                        refine pure_ (i := 5) (N := some 128) (v := ?_) (a' := ?_) #[true, true, true, true, true, true, false, false, false, false, false, false, false, false, false, false, false, false, false, false, false, false, false, false, false, false, false, false] rfl rfl (any_of HT_.out (by kernel_rfl)) (fun _ _ _ h => h) (Or.inl ⟨by rfl, ?_⟩) ?_ ?_
                        rotate_left
                        ·intro w'
                         go_simp
                         with_reducible rfl
                        rotate_left
                        ·simp only [Act.put, List.setIfInBounds_toArray, List.set_cons_zero, List.set_cons_succ, i64_w, i32_w]
                         rfl
                        refine pure_ (i := 6) (N := some 129) (v := undef) (a' := ?_) #[true, true, true, true, true, true, true, false, false, false, false, false, false, false, false, false, false, false, false, false, false, false, false, false, false, false, false, false] rfl rfl (any_of HT_.out (by kernel_rfl)) (fun _ _ _ h => h) (Or.inr ⟨by rfl, rfl⟩) ?_ ?_
                        rotate_left
                        ·simp only [Act.put, List.setIfInBounds_toArray, List.set_cons_zero, List.set_cons_succ, i64_w, i32_w]
                         rfl
                        refine pure_ (i := 7) (N := some 130) (v := undef) (a' := ?_) #[true, true, true, true, true, true, true, true, false, false, false, false, false, false, false, false, false, false, false, false, false, false, false, false, false, false, false, false] rfl rfl (any_of HT_.out (by kernel_rfl)) (fun _ _ _ h => h) (Or.inr ⟨by rfl, rfl⟩) ?_ ?_
                        rotate_left
                        ·simp only [Act.put, List.setIfInBounds_toArray, List.set_cons_zero, List.set_cons_succ, i64_w, i32_w]
                         rfl
                        refine pure_ (i := 8) (N := some 131) (v := undef) (a' := ?_) #[true, true, true, true, true, true, true, true, true, false, false, false, false, false, false, false, false, false, false, false, false, false, false, false, false, false, false, false] rfl rfl (any_of HT_.out (by kernel_rfl)) (fun _ _ _ h => h) (Or.inr ⟨by rfl, rfl⟩) ?_ ?_
                        rotate_left
                        ·simp only [Act.put, List.setIfInBounds_toArray, List.set_cons_zero, List.set_cons_succ, i64_w, i32_w]
                         rfl
                        refine pure_ (i := 9) (N := some 132) (v := undef) (a' := ?_) #[true, true, true, true, true, true, true, true, true, true, false, false, false, false, false, false, false, false, false, false, false, false, false, false, false, false, false, false] rfl rfl (any_of HT_.out (by kernel_rfl)) (fun _ _ _ h => h) (Or.inr ⟨by rfl, rfl⟩) ?_ ?_
                        rotate_left
                        ·simp only [Act.put, List.setIfInBounds_toArray, List.set_cons_zero, List.set_cons_succ, i64_w, i32_w]
                         rfl
                        refine pure_ (i := 10) (N := some 133) (v := undef) (a' := ?_) #[true, true, true, true, true, true, true, true, true, true, true, false, false, false, false, false, false, false, false, false, false, false, false, false, false, false, false, false] rfl rfl (any_of HT_.out (by kernel_rfl)) (fun _ _ _ h => h) (Or.inr ⟨by rfl, rfl⟩) ?_ ?_
                        rotate_left
                        ·simp only [Act.put, List.setIfInBounds_toArray, List.set_cons_zero, List.set_cons_succ, i64_w, i32_w]
                         rfl
                        refine pure_ (i := 11) (N := some 134) (v := undef) (a' := ?_) #[true, true, true, true, true, true, true, true, true, true, true, true, false, false, false, false, false, false, false, false, false, false, false, false, false, false, false, false] rfl rfl (any_of HT_.out (by kernel_rfl)) (fun _ _ _ h => h) (Or.inr ⟨by rfl, rfl⟩) ?_ ?_
                        rotate_left
                        ·simp only [Act.put, List.setIfInBounds_toArray, List.set_cons_zero, List.set_cons_succ, i64_w, i32_w]
                         rfl
                        refine pure_ (i := 12) (N := some 135) (v := undef) (a' := ?_) #[true, true, true, true, true, true, true, true, true, true, true, true, true, false, false, false, false, false, false, false, false, false, false, false, false, false, false, false] rfl rfl (any_of HT_.out (by kernel_rfl)) (fun _ _ _ h => h) (Or.inr ⟨by rfl, rfl⟩) ?_ ?_
                        rotate_left
                        ·simp only [Act.put, List.setIfInBounds_toArray, List.set_cons_zero, List.set_cons_succ, i64_w, i32_w]
                         rfl
                        refine pure_ (i := 13) (N := some 136) (v := undef) (a' := ?_) #[true, true, true, true, true, true, true, true, true, true, true, true, true, true, false, false, false, false, false, false, false, false, false, false, false, false, false, false] rfl rfl (any_of HT_.out (by kernel_rfl)) (fun _ _ _ h => h) (Or.inr ⟨by rfl, rfl⟩) ?_ ?_
                        rotate_left
                        ·simp only [Act.put, List.setIfInBounds_toArray, List.set_cons_zero, List.set_cons_succ, i64_w, i32_w]
                         rfl
                        refine pure_ (i := 14) (N := some 137) (v := undef) (a' := ?_) #[true, true, true, true, true, true, true, true, true, true, true, true, true, true, true, false, false, false, false, false, false, false, false, false, false, false, false, false] rfl rfl (any_of HT_.out (by kernel_rfl)) (fun _ _ _ h => h) (Or.inr ⟨by rfl, rfl⟩) ?_ ?_
                        rotate_left
                        ·simp only [Act.put, List.setIfInBounds_toArray, List.set_cons_zero, List.set_cons_succ, i64_w, i32_w]
                         rfl
                        refine pure_ (i := 15) (N := some 138) (v := undef) (a' := ?_) #[true, true, true, true, true, true, true, true, true, true, true, true, true, true, true, true, false, false, false, false, false, false, false, false, false, false, false, false] rfl rfl (any_of HT_.out (by kernel_rfl)) (fun _ _ _ h => h) (Or.inr ⟨by rfl, rfl⟩) ?_ ?_
                        rotate_left
                        ·simp only [Act.put, List.setIfInBounds_toArray, List.set_cons_zero, List.set_cons_succ, i64_w, i32_w]
                         rfl
                        refine pure_ (i := 16) (N := some 139) (v := undef) (a' := ?_) #[true, true, true, true, true, true, true, true, true, true, true, true, true, true, true, true, true, false, false, false, false, false, false, false, false, false, false, false] rfl rfl (any_of HT_.out (by kernel_rfl)) (fun _ _ _ h => h) (Or.inr ⟨by rfl, rfl⟩) ?_ ?_
                        rotate_left
                        ·simp only [Act.put, List.setIfInBounds_toArray, List.set_cons_zero, List.set_cons_succ, i64_w, i32_w]
                         rfl
                        refine pure_ (i := 17) (N := some 140) (v := undef) (a' := ?_) #[true, true, true, true, true, true, true, true, true, true, true, true, true, true, true, true, true, true, false, false, false, false, false, false, false, false, false, false] rfl rfl (any_of HT_.out (by kernel_rfl)) (fun _ _ _ h => h) (Or.inr ⟨by rfl, rfl⟩) ?_ ?_
                        rotate_left
                        ·simp only [Act.put, List.setIfInBounds_toArray, List.set_cons_zero, List.set_cons_succ, i64_w, i32_w]
                         rfl
                        refine pure_ (i := 18) (N := some 141) (v := undef) (a' := ?_) #[true, true, true, true, true, true, true, true, true, true, true, true, true, true, true, true, true, true, true, false, false, false, false, false, false, false, false, false] rfl rfl (any_of HT_.out (by kernel_rfl)) (fun _ _ _ h => h) (Or.inr ⟨by rfl, rfl⟩) ?_ ?_
                        rotate_left
                        ·simp only [Act.put, List.setIfInBounds_toArray, List.set_cons_zero, List.set_cons_succ, i64_w, i32_w]
                         rfl
                        refine pure_ (i := 19) (N := some 142) (v := undef) (a' := ?_) #[true, true, true, true, true, true, true, true, true, true, true, true, true, true, true, true, true, true, true, true, false, false, false, false, false, false, false, false] rfl rfl (any_of HT_.out (by kernel_rfl)) (fun _ _ _ h => h) (Or.inr ⟨by rfl, rfl⟩) ?_ ?_
                        rotate_left
                        ·simp only [Act.put, List.setIfInBounds_toArray, List.set_cons_zero, List.set_cons_succ, i64_w, i32_w]
                         rfl
                        refine pure_ (i := 20) (N := some 143) (v := undef) (a' := ?_) #[true, true, true, true, true, true, true, true, true, true, true, true, true, true, true, true, true, true, true, true, true, false, false, false, false, false, false, false] rfl rfl (any_of HT_.out (by kernel_rfl)) (fun _ _ _ h => h) (Or.inr ⟨by rfl, rfl⟩) ?_ ?_
                        rotate_left
                        ·simp only [Act.put, List.setIfInBounds_toArray, List.set_cons_zero, List.set_cons_succ, i64_w, i32_w]
                         rfl
                        refine pure_ (i := 21) (N := some 144) (v := undef) (a' := ?_) #[true, true, true, true, true, true, true, true, true, true, true, true, true, true, true, true, true, true, true, true, true, true, false, false, false, false, false, false] rfl rfl (any_of HT_.out (by kernel_rfl)) (fun _ _ _ h => h) (Or.inr ⟨by rfl, rfl⟩) ?_ ?_
                        rotate_left
                        ·simp only [Act.put, List.setIfInBounds_toArray, List.set_cons_zero, List.set_cons_succ, i64_w, i32_w]
                         rfl
                        refine pure_ (i := 22) (N := some 145) (v := undef) (a' := ?_) #[true, true, true, true, true, true, true, true, true, true, true, true, true, true, true, true, true, true, true, true, true, true, true, false, false, false, false, false] rfl rfl (any_of HT_.out (by kernel_rfl)) (fun _ _ _ h => h) (Or.inr ⟨by rfl, rfl⟩) ?_ ?_
                        rotate_left
                        ·simp only [Act.put, List.setIfInBounds_toArray, List.set_cons_zero, List.set_cons_succ, i64_w, i32_w]
                         rfl
                        refine pure_ (i := 23) (N := some 146) (v := undef) (a' := ?_) #[true, true, true, true, true, true, true, true, true, true, true, true, true, true, true, true, true, true, true, true, true, true, true, true, false, false, false, false] rfl rfl (any_of HT_.out (by kernel_rfl)) (fun _ _ _ h => h) (Or.inr ⟨by rfl, rfl⟩) ?_ ?_
                        rotate_left
                        ·simp only [Act.put, List.setIfInBounds_toArray, List.set_cons_zero, List.set_cons_succ, i64_w, i32_w]
                         rfl
                        refine pure_ (i := 24) (N := some 147) (v := undef) (a' := ?_) #[true, true, true, true, true, true, true, true, true, true, true, true, true, true, true, true, true, true, true, true, true, true, true, true, true, false, false, false] rfl rfl (any_of HT_.out (by kernel_rfl)) (fun _ _ _ h => h) (Or.inr ⟨by rfl, rfl⟩) ?_ ?_
                        rotate_left
                        ·simp only [Act.put, List.setIfInBounds_toArray, List.set_cons_zero, List.set_cons_succ, i64_w, i32_w]
                         rfl
                        refine pure_ (i := 25) (N := some 148) (v := undef) (a' := ?_) #[true, true, true, true, true, true, true, true, true, true, true, true, true, true, true, true, true, true, true, true, true, true, true, true, true, true, false, false] rfl rfl (any_of HT_.out (by kernel_rfl)) (fun _ _ _ h => h) (Or.inr ⟨by rfl, rfl⟩) ?_ ?_
                        rotate_left
                        ·simp only [Act.put, List.setIfInBounds_toArray, List.set_cons_zero, List.set_cons_succ, i64_w, i32_w]
                         rfl
                        refine pure_ (i := 26) (N := some 149) (v := undef) (a' := ?_) #[true, true, true, true, true, true, true, true, true, true, true, true, true, true, true, true, true, true, true, true, true, true, true, true, true, true, true, false] rfl rfl (any_of HT_.out (by kernel_rfl)) (fun _ _ _ h => h) (Or.inr ⟨by rfl, rfl⟩) ?_ ?_
                        rotate_left
                        ·simp only [Act.put, List.setIfInBounds_toArray, List.set_cons_zero, List.set_cons_succ, i64_w, i32_w]
                         rfl
                        refine pure_ (i := 27) (N := some 150) (v := ?_) (a' := ?_) #[true, true, true, true, true, true, true, true, true, true, true, true, true, true, true, true, true, true, true, true, true, true, true, true, true, true, true, true] rfl rfl (any_of HT_.out (by kernel_rfl)) (fun _ _ _ h => h) (Or.inl ⟨by rfl, ?_⟩) ?_ ?_
                        rotate_left
                        ·intro w'
                         go_simp
                         with_reducible rfl
                        rotate_left
                        ·simp only [Act.put, List.setIfInBounds_toArray, List.set_cons_zero, List.set_cons_succ, i64_w, i32_w]
                         rfl
                        refine done_ (done_of HT_.out (by kernel_rfl)) ?_
                        try go_wp2
                        go_roundg k3
                        case measure => have := HK1.out; have := HK2.out; have := HK3.out; omega
                        case rel => exact ⟨(x2_3), (x12_3), (wrap64 (x118_3 + 1)), (by first | rfl | (simp; done) | (simp [*]; done)), (by first | rfl | (simp; done) | (simp [*]; done)), H', ⟨by have := HK1.out; have := HK2.out; have := HK3.out; omega⟩, ⟨by (try simp only [hl7_1]); (with_reducible repeat (first | apply Kd.R_alloc | apply Kd.R_drewN | apply Kd.R_drew)); exact HO_2.out⟩, ⟨by (try simp only [hl7_1]); (with_reducible repeat (first | apply Kd.S_alloc | apply Kd.S_drewN | apply Kd.S_drew)); exact HO_7.out⟩, ⟨by repeat (first | (with_reducible first | exact HB.out | apply below_alloc | apply pw_below_drewN | apply below_drew1) | exact HB.out)⟩⟩
                      ·rw [if_neg c71] at H
                       exact absurd H (by simp)
                     ·rw [if_neg c70] at H
                      exact absurd H (by simp)
                    ·rw [if_neg c69] at H
                     have c69b0 : decide (x118_3 < ((rd_L1 l0 x111_2).length : Int)) = false := decide_eq_false c69
                     clear c69
                     have H' := Aside0.mk H
                     clear H
                     go_wp2
                     go_roundg k3
                     case measure => have := HK1.out; have := HK2.out; have := HK3.out; omega
                     case rel => exact ⟨(x2_3), (x12_3), (wrap64 (x111_2 + 1)), (by first | rfl | (simp; done) | (simp [*]; done)), (by first | rfl | (simp; done) | (simp [*]; done)), H', ⟨by have := HK1.out; have := HK2.out; have := HK3.out; omega⟩, ⟨by (try simp only [hl7_1]); (with_reducible repeat (first | apply Kd.R_alloc | apply Kd.R_drewN | apply Kd.R_drew)); exact HO_2.out⟩, ⟨by (try simp only [hl7_1]); (with_reducible repeat (first | apply Kd.S_alloc | apply Kd.S_drewN | apply Kd.S_drew)); exact HO_7.out⟩, ⟨by repeat (first | (with_reducible first | exact HB.out | apply below_alloc | apply pw_below_drewN | apply below_drew1) | exact HB.out)⟩⟩
                 ·rw [if_neg c68] at H
                  exact absurd H (by simp)
                ·rw [if_neg c67] at H
                 exact absurd H (by simp)
               ·rw [if_neg c66] at H
                have c66b0 : decide (x111_2 < (l0.length : Int)) = false := decide_eq_false c66
                clear c66
                by_cases c95 : 0 < (x7_1.length : Int)
                ·rw [if_pos c95] at H
                 have c95b0 : decide (0 < (x7_1.length : Int)) = true := decide_eq_true c95
                 have c95b1 : decide (0 < x7_1.length) = true := decide_eq_true (by omega)
                 clear c95
                 by_cases c96 : 0 < ((rd_L1 x7_1 0).length : Int)
                 ·rw [if_pos c96] at H
                  have c96b0 : decide (0 < ((rd_L1 x7_1 0).length : Int)) = true := decide_eq_true c96
                  have c96b1 : decide (0 < (rd_L1 x7_1 0).length) = true := decide_eq_true (by omega)
                  clear c96
                  simp only [Option.some.injEq, Prod.mk.injEq] at H
                  obtain ⟨rfl, rfl, rfl⟩ := H
                  try go_wp2
                  have n0_ := Aside0.mk (Kd.R_drew HO_2.out)
                  have n1_ := Aside0.mk (Kd.S_drew HO_7.out)
                  have n2_ := Aside0.mk (below_drew1 HB.out)
                  clear HO_2
                  clear HO_7
                  clear HB
                  have HO_2 := n0_
                  have HO_7 := n1_
                  have HB := n2_
                  clear n0_ n1_ n2_
                  have p132 : 0 ≤ (0 : Int) := (by omega)
                  have q132 : 0 < (x7_1.length : Int) := of_decide_eq_true (by first | (with_reducible assumption) | assumption)
                  obtain ⟨ad132, A132_0, c132_0, e132, hx132_0, hl132_0, hi132_0⟩ := at_L1 (Kd.S_reads' HO_7.out).2.2 0 p132 q132
                  obtain rfl : (⟨go15, 0, none⟩ : Addr) = ad132 := (by injection e132)
                  obtain ⟨ce132, hce132, hMe132, hcc132⟩ := Kd.S_get HO_7.out [] 0 p132 (by first | exact q132 | exact of_decide_eq_true (by first | (with_reducible assumption) | assumption) | (have e_ := (Kd.S_reads' HO_7.out).1; omega))
                  obtain ⟨ve132_0, rfl, ge132_0⟩ := hMe132
                  have hv132_0 := hcc132 0 _ rfl
                  rw [Nat.add_zero, show ((Kd.slice 3 (Kd.int .i64))).sz = 1 from rfl, Nat.mul_one] at hv132_0
                  replace hv132_0 := Option.some.inj (hv132_0.symm.trans hx132_0)
                  rw [hv132_0] at ge132_0
                  have HL132_0 := Aside0.mk (show Kd.R (Kd.int .i64) 3 _ _ _ _ (rd_L1 x7_1 0) from ge132_0)
                  clear hv132_0 ge132_0
                  have HX132_0 := Aside0.mk hx132_0
                  clear hcc132 hce132
                  (first | simp only [add_plain] at hx132_0 | simp only [add_at] at hx132_0 | simp only [Addr.add, Nat.zero_add] at hx132_0 | skip)
                  have qi132 : (0 < x7_1.length) = True := eq_true (by omega)
                  (try rw [show ((0 : Int)).toNat = 0 from rfl] at hx132_0)
                  (try rw [Addr.add_zero'] at hx132_0)
                  have HR132_0 := Aside0.mk hi132_0
                  have HC132_0 := Aside0.mk hl132_0
                  clear hi132_0 hl132_0
                  replace p132 := eq_true p132
                  replace q132 := eq_true q132
                  have p133 : 0 ≤ (0 : Int) := (by omega)
                  have q133 : 0 < ((rd_L1 x7_1 0).length : Int) := of_decide_eq_true (by first | (with_reducible assumption) | assumption)
                  obtain ⟨ad133, e133, hx133_0⟩ := Kd.at_int (by repeat (first | (with_reducible exact HR132_0.out) | (with_reducible refine Kd.C_alloc ?_ _) | (with_reducible refine Kd.C_drewN ?_ _) | (with_reducible refine Kd.C_drew ?_) | exact HR132_0.out)) 0 p133 q133
                  cases e133
                  have qi133 : (0 < (rd_L1 x7_1 0).length) = True := eq_true (by omega)
                  (try rw [show ((0 : Int)).toNat = 0 from rfl] at hx133_0)
                  (try rw [Addr.add_zero'] at hx133_0)
                  replace p133 := eq_true p133
                  replace q133 := eq_true q133
                  refine start_ (n := 9) (S := fun w' => w'.cell? ⟨go15, 0, none⟩ = some (.slice (some ad133) (rd_L1 x7_1 0).length c132_0) ∧ w'.cell? ad133 = some (.int .i64 (rd (rd_L1 x7_1 0) 0))) (ds := []) #[false, false, false, false, false, false, false, false, false] (by kernel_rfl) rfl rfl ⟨hx132_0, hx133_0⟩ (fun hHeld => ?_); refine with_tabW match_Assign.tab36 match_Assign.bits36 (fun HT_ HW_ => ?_)
                  generalize wr.drew = w97 at HO_2 HO_7 HB HL132_0 HR132_0 HX132_0 hx132_0 hx133_0 hHeld ⊢
                  refine pure_ (i := 0) (N := some 161) (v := ?_) (a' := ?_) #[true, false, false, false, false, false, false, false, false] rfl rfl (any_of HT_.out (by kernel_rfl)) (fun _ _ _ h => h) (Or.inl ⟨by rfl, ?_⟩) ?_ ?_
                  rotate_left
                  ·intro w'
                   go_simp
                   with_reducible rfl
                  rotate_left
                  ·simp only [Act.put, List.setIfInBounds_toArray, List.set_cons_zero, List.set_cons_succ, i64_w, i32_w]
                   rfl
                  refine pure_ (i := 1) (N := some 162) (v := ?_) (a' := ?_) #[true, true, false, false, false, false, false, false, false] rfl rfl (any_of HT_.out (by kernel_rfl)) (fun _ _ _ h => h) (Or.inl ⟨by rfl, ?_⟩) ?_ ?_
                  rotate_left
                  ·intro w'
                   go_simp
                   with_reducible rfl
                  rotate_left
                  ·simp only [Act.put, List.setIfInBounds_toArray, List.set_cons_zero, List.set_cons_succ, i64_w, i32_w]
                   rfl
                  refine pure_ (i := 2) (N := some 163) (v := ?_) (a' := ?_) #[true, true, true, false, false, false, false, false, false] rfl rfl (any_of HT_.out (by kernel_rfl)) (fun _ _ _ h => h) (Or.inl ⟨by rfl, ?_⟩) ?_ ?_
                  rotate_left
                  ·intro w'
                   go_simp
                   with_reducible rfl
                  rotate_left
                  ·simp only [Act.put, List.setIfInBounds_toArray, List.set_cons_zero, List.set_cons_succ, i64_w, i32_w]
                   rfl
                  refine pure_ (i := 6) (N := some 2) (v := ?_) (a' := ?_) #[true, true, true, false, false, false, true, false, false] rfl rfl (any_of HT_.out (by kernel_rfl)) (fun _ _ _ h => h) (Or.inl ⟨by rfl, ?_⟩) ?_ ?_
                  rotate_left
                  ·intro w'
                   go_simp
                   with_reducible rfl
                  rotate_left
                  ·simp only [Act.put, List.setIfInBounds_toArray, List.set_cons_zero, List.set_cons_succ, i64_w, i32_w]
                   rfl
                  refine take_ (i := 3) (N := some 164) (v := ?_) (a' := ?_) #[true, true, true, true, false, false, true, false, false] rfl rfl (take_ofW HT_.out HW_.out (by kernel_rfl)) (fun _ _ _ h => h) (Or.inl ⟨by rfl, ?_⟩) hHeld ?_ ?_
                  rotate_left
                  ·rintro w' ⟨s0, s1⟩
                   go_simp
                   with_reducible rfl
                  rotate_left
                  ·simp only [Act.put, List.setIfInBounds_toArray, List.set_cons_zero, List.set_cons_succ, i64_w, i32_w]
                   rfl
                  refine pure_ (i := 4) (N := some 165) (v := ?_) (a' := ?_) #[true, true, true, true, true, false, true, false, false] rfl rfl (any_of HT_.out (by kernel_rfl)) (fun _ _ _ h => h) (Or.inl ⟨by rfl, ?_⟩) ?_ ?_
                  rotate_left
                  ·intro w'
                   go_simp
                   with_reducible rfl
                  rotate_left
                  ·simp only [Act.put, List.setIfInBounds_toArray, List.set_cons_zero, List.set_cons_succ, i64_w, i32_w]
                   rfl
                  refine take_ (i := 5) (N := some 166) (v := ?_) (a' := ?_) #[true, true, true, true, true, true, true, false, false] rfl rfl (take_ofW HT_.out HW_.out (by kernel_rfl)) (fun _ _ _ h => h) (Or.inl ⟨by rfl, ?_⟩) hHeld ?_ ?_
                  rotate_left
                  ·rintro w' ⟨s0, s1⟩
                   go_simp
                   with_reducible rfl
                  rotate_left
                  ·simp only [Act.put, List.setIfInBounds_toArray, List.set_cons_zero, List.set_cons_succ, i64_w, i32_w]
                   rfl
                  refine pure_ (i := 7) (N := some 3) (v := ?_) (a' := ?_) #[true, true, true, true, true, true, true, true, false] rfl rfl (any_of HT_.out (by kernel_rfl)) (fun _ _ _ h => h) (Or.inl ⟨by rfl, ?_⟩) ?_ ?_
                  rotate_left
                  ·intro w'
                   go_simp
                   with_reducible rfl
                  rotate_left
                  ·simp only [Act.put, List.setIfInBounds_toArray, List.set_cons_zero, List.set_cons_succ, i64_w, i32_w]
                   rfl
                  refine pure_ (i := 8) (N := some 4) (v := ?_) (a' := ?_) #[true, true, true, true, true, true, true, true, true] rfl rfl (any_of HT_.out (by kernel_rfl)) (fun _ _ _ h => h) (Or.inl ⟨by rfl, ?_⟩) ?_ ?_
                  rotate_left
                  ·intro w'
                   go_simp
                   with_reducible rfl
                  rotate_left
                  ·simp only [Act.put, List.setIfInBounds_toArray, List.set_cons_zero, List.set_cons_succ, i64_w, i32_w]
                   rfl
                  refine done_ (done_of HT_.out (by kernel_rfl)) ?_
                  try go_wp2
                  (try rw [Exit.noGoto_ret])
                  go_ret3
                  exact ⟨_, by first | rfl | (simp [errW_none, errW_some] <;> rfl) | (simp only [← hji7, ← hji10]; first | rfl | (simp [errW_none, errW_some] <;> rfl)) | (simp [*, errW_none, errW_some] <;> rfl), by (with_reducible repeat (first | apply Kd.R_alloc | apply Kd.R_drewN | apply Kd.R_drew)); exact HO_2.out, by repeat (first | (with_reducible first | exact HB.out | apply below_alloc | apply pw_below_drewN | apply below_drew1) | exact HB.out)⟩
                 ·rw [if_neg c96] at H
                  exact absurd H (by simp)
                ·rw [if_neg c95] at H
                 exact absurd H (by simp)
         ·rw [if_neg c14] at H
          exact absurd H (by simp)
        ·rw [if_neg c13] at H
         exact absurd H (by simp)
       ·rw [if_neg c12] at H
        exact absurd H (by simp)
      ·rw [if_neg c11] at H
       exact absurd H (by simp)
     ·rw [if_neg c9] at H
      exact absurd H (by simp)
    ·rw [if_neg c8] at H
     exact absurd H (by simp)
   ·rw [if_neg c6] at H
    exact absurd H (by simp)
 ·replace c3 := Bool.eq_false_iff.mpr c3
  subst c3
  have H1 : (some (([] : List Int), 0, false)) = some (r1, r2, r3) := by rw [if_neg (show ¬ (false = true) by decide)] at H; exact H
  clear H
  have H := H1
  clear H1
  simp only [Option.some.injEq, Prod.mk.injEq] at H
  obtain ⟨rfl, rfl, rfl⟩ := H
  go_enter Try.func15, Try.ntmps15
  go_wp2
  go_step3
  go_wp2_with (first | ((with_reducible refine gate_callee (f := 20) rfl ?_); refine goesL_ (some 18) rfl rfl Try.func20 (by kernel_rfl) rfl #[.slice A0 l0.length c0] rfl (by (try simp only [List.map_toArray, List.map_cons, List.map_nil]); first | done | rfl | (simp only [List.length_drop, List.length_take]; rfl)) ?_; (with_reducible refine (match_right.calls _ _ l0 false _ ?side1 ?side2 A2.out).mono ?_); (case side1 => repeat (first | exact HR0.out | (with_reducible refine Kd.C_alloc ?_ _) | (with_reducible refine Kd.C_drewN ?_ _) | (with_reducible refine Kd.C_drew ?_))); (case side2 => exact HC0.out); rintro e w98 ⟨rfl, hb⟩; refine ⟨_, rfl, ?_⟩; have n0_ := Aside0.mk (below_step (by repeat (first | (with_reducible first | exact HB.out | apply below_alloc | apply pw_below_drewN | apply below_drew1) | exact HB.out)) hb); clear HB; have HB := n0_; clear n0_; (try clear hb); (try clear hb2); (try clear hk); (try clear hi)))
  (try rw [Exit.noGoto_ret])
  go_ret3
  exact ⟨_, by first | rfl | (simp [errW_none, errW_some] <;> rfl) | (simp [*, errW_none, errW_some] <;> rfl), by first | exact Kd.R_nil _ _ _ _ _ | exact Kd.N_nil _ _ _ _ _ | exact Kd.V_nil _ _ _ _ _ | exact Kd.Q_nil _ _ _ _ _ | exact Kd.S_nil _ _ _ _ _, by repeat (first | (with_reducible first | exact HB.out | apply below_alloc | apply pw_below_drewN | apply below_drew1) | exact HB.out)⟩

end Go.Proofs.Ytgnkpahnhhmceaa.Core
