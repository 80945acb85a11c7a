-- Cut by pack.py, a program of this session; not trusted: Lean checks it.
import Derived.Test.YtlplaidcdocbmaaZKn1
/- LatticeKnown: the steps of its great region, each by its kind (laid by mkknown.py, a program of this session, out of a table). -/
namespace Go.Proofs.Ytlplaidcdocbmaa.Kn
open Go.RowKit Go.Proofs.YtlplaidcdocbmaaW.PrintWords Go.Proofs.YtlplaidcdocbmaaW.PrintLast Go.Proofs.YtlplaidcdocbmaaW.PrintMore Go.Proofs.Ytlplaidcdocbmaa.PLatticeKnown
set_option linter.unusedVariables false
set_option linter.unusedSimpArgs false
section
variable {ops : Array Oper} {Q : Exit → Act → World → Prop} {o : Oper} {a : Act} {w : World} {K : Act → World → Prop} {N : Nat}
theorem wanted_none (h : o.guard.isNone = true) : Region.wanted o (yielded ops a.tmps) = true := by
  cases hg : o.guard with
  | none => simp [Region.wanted, hg]
  | some g => rw [hg] at h; cases h
theorem wanted_some {j d : Nat} (h : o.guard = some (j, true)) (hd : (ops[j]?).bind (·.dst) = some d) (hv : a.tmps[d]? = some (.bool true)) : Region.wanted o (yielded ops a.tmps) = true := by
  simp [Region.wanted, h, yielded, hd, hv]
theorem run_len {t : Nat} {v : Value} {l : List Int} (ho : o.op = .call { callee := .builtin .len, args := #[.tmp t], argTypes := #[24] }) (hv : a.tmps[t]? = some v) (hr : isRow l v w) : (execOp a.eval o).run Try.prog w = .ok (.value (.int .i64 (l.length : Int))) w := by
  obtain ⟨A, c, rfl, _, _⟩ := hr
  have he := eval_of hv
  unfold execOp
  rw [ho]
  simp only [List.map_toArray, List.map_cons, List.map_nil, he]
  go_simp
theorem run_eql {t : Nat} {v : Value} {n : Int} (ho : o.op = .binOp .eql 3 (.tmp t) (.const (.int .i64 n)) 3) (hv : a.tmps[t]? = some v) (hr : v = .int .i64 n) : (execOp a.eval o).run Try.prog w = .ok (.value (.bool true)) w := by
  subst hr
  have he := eval_of hv
  unfold execOp
  rw [ho]
  simp only [he, Act.eval]
  go_simp
theorem run_move {t : Nat} {v : Value} (ho : o.op = .move (.tmp t)) (hv : a.tmps[t]? = some v) : (execOp a.eval o).run Try.prog w = .ok (.value v) w := by
  have he := eval_of hv
  unfold execOp
  rw [ho]
  simp only [he]
  go_simp
theorem run_assign {t : Nat} {v : Value} (ho : o.op = .assign (.tmp t)) (hv : a.tmps[t]? = some v) : (execOp a.eval o).run Try.prog w = .ok (.value v) w := by
  have he := eval_of hv
  unfold execOp
  rw [ho]
  simp only [he]
  go_simp
theorem run_pick {t u : Nat} (ho : o.op = .pick (.tmp t) (.tmp u) (.const (.bool false))) (hv : a.tmps[t]? = some (.bool true)) (hu : a.tmps[u]? = some (.bool true)) : (execOp a.eval o).run Try.prog w = .ok (.value (.bool true)) w := by
  have he := eval_of hv
  have he2 := eval_of hu
  unfold execOp
  rw [ho]
  simp only [he, he2]
  go_simp
theorem run_load {gb : Nat} {A : Option Addr} {c : Nat} (ho : o.op = .load 33 (.tmp 3)) (hv : a.tmps[3]? = some (.pointer (some ⟨gb, 0, none⟩))) (h0 : w.cell? ⟨gb, 0, none⟩ = some (.slice A 4 c)) (h1 : w.cell? ⟨gb, 1, none⟩ = some (.int .i64 0)) :
    (execOp a.eval o).run Try.prog w = .ok (.value (.agg #[.slice A 4 c, .int .i64 0])) w := by
  have he := eval_of hv
  unfold execOp
  rw [ho]
  simp only [he]
  go_simp
end

def D (i : Nat) : Nat := if i < 49 then i + 9 else 4
def VL : List (Value → World → Prop) := [isRow [3, 1, 2, 0], isRow [3, 1, 2, 0], isV (.bool true), isRow [7, 3, 5, 6, 1, 2, 4, 0], isRow [7, 3, 5, 6, 1, 2, 4, 0], isV (.bool true), isRow [1, 2, 4], isRow [1, 2, 4], isV (.bool true), isRow [7, 13], isRow [7, 13], isV (.bool true), isRow [], isV (.int .i64 0), isV (.bool true), isSch, isV (.int .i64 6), isV (.bool true), isSch, isV (.int .i64 300), isV (.bool true), isSch, isV (.int .i64 4), isV (.bool true), isSch, isV (.int .i64 1), isV (.bool true), isV (.bool true), isSch, isV (.int .i64 0), isV (.bool true), isV (.bool true), isSch, isV (.int .i64 24), isV (.bool true), isV (.bool true), isSch, isV (.int .i64 3000), isV (.bool true), isV (.bool true), isV (.bool true), isSch, isV (.int .i64 0), isV (.bool true), isV (.bool true), isSch, isV (.int .i64 48), isV (.bool true), isBs, isBs]
def V (i : Nat) : Value → World → Prop := VL.getD i (fun _ _ => True)
theorem kept_list : ∀ F ∈ VL, Kept F := by
  intro F hF
  unfold VL at hF
  repeat first
    | (rcases List.mem_cons.1 hF with rfl | hF; · first | exact kRow _ | exact kV _ | exact kSch | exact kBs)
    | (cases hF; done)
theorem kept_V (i : Nat) : Kept (V i) := by
  unfold V
  by_cases h : i < VL.length
  · rw [List.getD_eq_getElem?_getD, List.getElem?_eq_getElem h]
    exact kept_list _ (List.getElem_mem h)
  · rw [List.getD_eq_getElem?_getD, List.getElem?_eq_none (by omega)]
    exact fun _ _ _ _ _ => trivial
noncomputable def opsK : Array Oper := opsOf Try.f15 4
noncomputable def op (i : Nat) : Oper := opsK.getD i ⟨none, .move (.tmp 0), 0, "", #[], none⟩
noncomputable def dep (i j : Nat) : Bool := (op i).after.any fun e => e.on == j && Region.binds .any e
/-- The schema's box, as the region finds it. -/
structure Bx (gb : Nat) (A : Option Addr) (c : Nat) (a : Act) (w : World) : Prop where
  ptr : a.tmps[3]? = some (.pointer (some ⟨gb, 0, none⟩))
  c0 : w.cell? ⟨gb, 0, none⟩ = some (.slice A 4 c)
  c1 : w.cell? ⟨gb, 1, none⟩ = some (.int .i64 0)
  cap : 4 ≤ c
  row : Kd.C (Kd.int .i64) w A 4 cs4
def StepP (gb : Nat) (A : Option Addr) (c i : Nat) : Prop := ∀ (Q : Exit → Act → World → Prop) (a : Act) (w : World) (K : Act → World → Prop), (∀ j, dep i j = true → ∃ v, a.tmps[D j]? = some v ∧ V j v w) → Bx gb A c a w →
  (∀ v w', V i v w' → Below w.heap.size w w' → K (a.put (op i).dst v) w') → if Region.wanted (op i) (yielded opsK a.tmps) = true then Oper.wp Try.prog (op i) a w K Q else K (a.put (op i).dst undef) w
set_option maxRecDepth 100000
section
variable {gb : Nat} {A : Option Addr} {c : Nat}
theorem s_0 : StepP gb A c 0 := fun Q a w K hv hb hK => by
  exact go_sets (N := 9) (by kernel_rfl) (wanted_none (by kernel_rfl)) 2 (by decide) (by decide) _ (by decide +kernel) (by kernel_rfl) hK
theorem s_1 : StepP gb A c 1 := fun Q a w K hv hb hK => by
  have ho : (op 1).op = .buildSlice 24 4 #[(0, .const (.int .i64 3)), (1, .const (.int .i64 1)), (2, .const (.int .i64 2)), (3, .const (.int .i64 0))] := by kernel_rfl
  exact go_lit (N := 10) (by kernel_rfl) (wanted_none (by kernel_rfl)) [3, 1, 2, 0] (by decide) (by unfold execOp; rw [ho]; go_simp; first | done | rfl) hK
theorem s_2 : StepP gb A c 2 := fun Q a w K hv hb hK => by
  obtain ⟨v0, h0, r0⟩ := hv 0 (by kernel_rfl)
  obtain ⟨v1, h1, r1⟩ := hv 1 (by kernel_rfl)
  exact go_ints (N := 11) (by kernel_rfl) (wanted_none (by kernel_rfl)) 9 10 v0 v1 [3, 1, 2, 0] 20 (by decide +kernel) (by kernel_rfl) h0 h1 r0 r1 hK
theorem s_3 : StepP gb A c 3 := fun Q a w K hv hb hK => by
  exact go_sets (N := 12) (by kernel_rfl) (wanted_none (by kernel_rfl)) 3 (by decide) (by decide) _ (by decide +kernel) (by kernel_rfl) hK
theorem s_4 : StepP gb A c 4 := fun Q a w K hv hb hK => by
  have ho : (op 4).op = .buildSlice 24 8 #[(0, .const (.int .i64 7)), (1, .const (.int .i64 3)), (2, .const (.int .i64 5)), (3, .const (.int .i64 6)), (4, .const (.int .i64 1)), (5, .const (.int .i64 2)), (6, .const (.int .i64 4)), (7, .const (.int .i64 0))] := by kernel_rfl
  exact go_lit (N := 13) (by kernel_rfl) (wanted_none (by kernel_rfl)) [7, 3, 5, 6, 1, 2, 4, 0] (by decide) (by unfold execOp; rw [ho]; go_simp; first | done | rfl) hK
theorem s_5 : StepP gb A c 5 := fun Q a w K hv hb hK => by
  obtain ⟨v3, h3, r3⟩ := hv 3 (by kernel_rfl)
  obtain ⟨v4, h4, r4⟩ := hv 4 (by kernel_rfl)
  exact go_ints (N := 14) (by kernel_rfl) (wanted_none (by kernel_rfl)) 12 13 v3 v4 [7, 3, 5, 6, 1, 2, 4, 0] 20 (by decide +kernel) (by kernel_rfl) h3 h4 r3 r4 hK
theorem s_6 : StepP gb A c 6 := fun Q a w K hv hb hK => by
  exact go_pars (N := 15) (by kernel_rfl) (wanted_none (by kernel_rfl)) 0 3 (by decide) (by decide) (by decide) (by decide) _ (by decide +kernel) (by kernel_rfl) hK
theorem s_7 : StepP gb A c 7 := fun Q a w K hv hb hK => by
  have ho : (op 7).op = .buildSlice 24 3 #[(0, .const (.int .i64 1)), (1, .const (.int .i64 2)), (2, .const (.int .i64 4))] := by kernel_rfl
  exact go_lit (N := 16) (by kernel_rfl) (wanted_none (by kernel_rfl)) [1, 2, 4] (by decide) (by unfold execOp; rw [ho]; go_simp; first | done | rfl) hK
theorem s_8 : StepP gb A c 8 := fun Q a w K hv hb hK => by
  obtain ⟨v6, h6, r6⟩ := hv 6 (by kernel_rfl)
  obtain ⟨v7, h7, r7⟩ := hv 7 (by kernel_rfl)
  exact go_ints (N := 17) (by kernel_rfl) (wanted_none (by kernel_rfl)) 15 16 v6 v7 [1, 2, 4] 20 (by decide +kernel) (by kernel_rfl) h6 h7 r6 r7 hK
theorem s_9 : StepP gb A c 9 := fun Q a w K hv hb hK => by
  exact go_pars (N := 18) (by kernel_rfl) (wanted_none (by kernel_rfl)) 5 4 (by decide) (by decide) (by decide) (by decide) _ (by decide +kernel) (by kernel_rfl) hK
theorem s_10 : StepP gb A c 10 := fun Q a w K hv hb hK => by
  have ho : (op 10).op = .buildSlice 24 2 #[(0, .const (.int .i64 7)), (1, .const (.int .i64 13))] := by kernel_rfl
  exact go_lit (N := 19) (by kernel_rfl) (wanted_none (by kernel_rfl)) [7, 13] (by decide) (by unfold execOp; rw [ho]; go_simp; first | done | rfl) hK
theorem s_11 : StepP gb A c 11 := fun Q a w K hv hb hK => by
  obtain ⟨v9, h9, r9⟩ := hv 9 (by kernel_rfl)
  obtain ⟨v10, h10, r10⟩ := hv 10 (by kernel_rfl)
  exact go_ints (N := 20) (by kernel_rfl) (wanted_none (by kernel_rfl)) 18 19 v9 v10 [7, 13] 20 (by decide +kernel) (by kernel_rfl) h9 h10 r9 r10 hK
theorem s_12 : StepP gb A c 12 := fun Q a w K hv hb hK => by
  exact go_pars (N := 21) (by kernel_rfl) (wanted_none (by kernel_rfl)) 15 4 (by decide) (by decide) (by decide) (by decide) _ (by decide +kernel) (by kernel_rfl) hK
theorem s_13 : StepP gb A c 13 := fun Q a w K hv hb hK => by
  obtain ⟨v12, h12, r12⟩ := hv 12 (by kernel_rfl)
  exact go_val (N := 22) (by kernel_rfl) (wanted_none (by kernel_rfl)) (.int .i64 0) (run_len (t := 21) (l := []) (by kernel_rfl) h12 r12) (V 13) rfl hK
theorem s_14 : StepP gb A c 14 := fun Q a w K hv hb hK => by
  obtain ⟨v13, h13, r13⟩ := hv 13 (by kernel_rfl)
  exact go_val (N := 23) (by kernel_rfl) (wanted_none (by kernel_rfl)) (.bool true) (run_eql (t := 22) (n := 0) (by kernel_rfl) h13 r13) (V 14) rfl hK
theorem s_15 : StepP gb A c 15 := fun Q a w K hv hb hK => by
  exact go_val (N := 24) (by kernel_rfl) (wanted_none (by kernel_rfl)) _ (run_load (gb := gb) (A := A) (c := c) (by kernel_rfl) hb.ptr hb.c0 hb.c1) (V 15) ⟨A, c, rfl, hb.cap, hb.row⟩ hK
theorem s_16 : StepP gb A c 16 := fun Q a w K hv hb hK => by
  obtain ⟨v15, h15, r15⟩ := hv 15 (by kernel_rfl)
  exact go_size (N := 25) (by kernel_rfl) (wanted_none (by kernel_rfl)) 24 v15 300 3 6 (by decide +kernel) (by kernel_rfl) h15 r15 hK
theorem s_17 : StepP gb A c 17 := fun Q a w K hv hb hK => by
  obtain ⟨v16, h16, r16⟩ := hv 16 (by kernel_rfl)
  exact go_val (N := 26) (by kernel_rfl) (wanted_none (by kernel_rfl)) (.bool true) (run_eql (t := 25) (n := 6) (by kernel_rfl) h16 r16) (V 17) rfl hK
theorem s_18 : StepP gb A c 18 := fun Q a w K hv hb hK => by
  exact go_val (N := 27) (by kernel_rfl) (wanted_none (by kernel_rfl)) _ (run_load (gb := gb) (A := A) (c := c) (by kernel_rfl) hb.ptr hb.c0 hb.c1) (V 18) ⟨A, c, rfl, hb.cap, hb.row⟩ hK
theorem s_19 : StepP gb A c 19 := fun Q a w K hv hb hK => by
  obtain ⟨v18, h18, r18⟩ := hv 18 (by kernel_rfl)
  exact go_size (N := 28) (by kernel_rfl) (wanted_none (by kernel_rfl)) 27 v18 300 15 300 (by decide +kernel) (by kernel_rfl) h18 r18 hK
theorem s_20 : StepP gb A c 20 := fun Q a w K hv hb hK => by
  obtain ⟨v19, h19, r19⟩ := hv 19 (by kernel_rfl)
  exact go_val (N := 29) (by kernel_rfl) (wanted_none (by kernel_rfl)) (.bool true) (run_eql (t := 28) (n := 300) (by kernel_rfl) h19 r19) (V 20) rfl hK
theorem s_21 : StepP gb A c 21 := fun Q a w K hv hb hK => by
  exact go_val (N := 30) (by kernel_rfl) (wanted_none (by kernel_rfl)) _ (run_load (gb := gb) (A := A) (c := c) (by kernel_rfl) hb.ptr hb.c0 hb.c1) (V 21) ⟨A, c, rfl, hb.cap, hb.row⟩ hK
theorem s_22 : StepP gb A c 22 := fun Q a w K hv hb hK => by
  obtain ⟨v21, h21, r21⟩ := hv 21 (by kernel_rfl)
  exact go_size (N := 31) (by kernel_rfl) (wanted_none (by kernel_rfl)) 30 v21 4 3 4 (by decide +kernel) (by kernel_rfl) h21 r21 hK
theorem s_23 : StepP gb A c 23 := fun Q a w K hv hb hK => by
  obtain ⟨v22, h22, r22⟩ := hv 22 (by kernel_rfl)
  exact go_val (N := 32) (by kernel_rfl) (wanted_none (by kernel_rfl)) (.bool true) (run_eql (t := 31) (n := 4) (by kernel_rfl) h22 r22) (V 23) rfl hK
theorem s_24 : StepP gb A c 24 := fun Q a w K hv hb hK => by
  exact go_val (N := 33) (by kernel_rfl) (wanted_none (by kernel_rfl)) _ (run_load (gb := gb) (A := A) (c := c) (by kernel_rfl) hb.ptr hb.c0 hb.c1) (V 24) ⟨A, c, rfl, hb.cap, hb.row⟩ hK
theorem s_25 : StepP gb A c 25 := fun Q a w K hv hb hK => by
  obtain ⟨v24, h24, r24⟩ := hv 24 (by kernel_rfl)
  exact go_size (N := 34) (by kernel_rfl) (wanted_none (by kernel_rfl)) 33 v24 9 0 1 (by decide +kernel) (by kernel_rfl) h24 r24 hK
theorem s_26 : StepP gb A c 26 := fun Q a w K hv hb hK => by
  obtain ⟨v25, h25, r25⟩ := hv 25 (by kernel_rfl)
  exact go_val (N := 35) (by kernel_rfl) (wanted_none (by kernel_rfl)) (.bool true) (run_eql (t := 34) (n := 1) (by kernel_rfl) h25 r25) (V 26) rfl hK
theorem s_27 : StepP gb A c 27 := fun Q a w K hv hb hK => by
  obtain ⟨v26, h26, r26⟩ := hv 26 (by kernel_rfl)
  exact go_val (N := 36) (by kernel_rfl) (wanted_none (by kernel_rfl)) v26 (run_move (t := 35) (by kernel_rfl) h26) (V 27) r26 hK
theorem s_28 : StepP gb A c 28 := fun Q a w K hv hb hK => by
  obtain ⟨v27, h27, r27⟩ := hv 27 (by kernel_rfl)
  have e27 : v27 = .bool true := r27
  rw [e27] at h27
  exact go_val (N := 37) (by kernel_rfl) (wanted_some (j := 27) (d := 36) (by kernel_rfl) (by kernel_rfl) h27) _ (run_load (gb := gb) (A := A) (c := c) (by kernel_rfl) hb.ptr hb.c0 hb.c1) (V 28) ⟨A, c, rfl, hb.cap, hb.row⟩ hK
theorem s_29 : StepP gb A c 29 := fun Q a w K hv hb hK => by
  obtain ⟨v27, h27, r27⟩ := hv 27 (by kernel_rfl)
  have e27 : v27 = .bool true := r27
  rw [e27] at h27
  obtain ⟨v28, h28, r28⟩ := hv 28 (by kernel_rfl)
  exact go_size (N := 38) (by kernel_rfl) (wanted_some (j := 27) (d := 36) (by kernel_rfl) (by kernel_rfl) h27) 37 v28 0 0 0 (by decide +kernel) (by kernel_rfl) h28 r28 hK
theorem s_30 : StepP gb A c 30 := fun Q a w K hv hb hK => by
  obtain ⟨v27, h27, r27⟩ := hv 27 (by kernel_rfl)
  have e27 : v27 = .bool true := r27
  rw [e27] at h27
  obtain ⟨v29, h29, r29⟩ := hv 29 (by kernel_rfl)
  exact go_val (N := 39) (by kernel_rfl) (wanted_some (j := 27) (d := 36) (by kernel_rfl) (by kernel_rfl) h27) (.bool true) (run_eql (t := 38) (n := 0) (by kernel_rfl) h29 r29) (V 30) rfl hK
theorem s_31 : StepP gb A c 31 := fun Q a w K hv hb hK => by
  obtain ⟨v27, h27, r27⟩ := hv 27 (by kernel_rfl)
  have e27 : v27 = .bool true := r27
  rw [e27] at h27
  obtain ⟨v30, h30, r30⟩ := hv 30 (by kernel_rfl)
  have e30 : v30 = .bool true := r30
  rw [e30] at h30
  exact go_val (N := 40) (by kernel_rfl) (wanted_none (by kernel_rfl)) (.bool true) (run_pick (t := 36) (u := 39) (by kernel_rfl) h27 h30) (V 31) rfl hK
theorem s_32 : StepP gb A c 32 := fun Q a w K hv hb hK => by
  exact go_val (N := 41) (by kernel_rfl) (wanted_none (by kernel_rfl)) _ (run_load (gb := gb) (A := A) (c := c) (by kernel_rfl) hb.ptr hb.c0 hb.c1) (V 32) ⟨A, c, rfl, hb.cap, hb.row⟩ hK
theorem s_33 : StepP gb A c 33 := fun Q a w K hv hb hK => by
  obtain ⟨v32, h32, r32⟩ := hv 32 (by kernel_rfl)
  exact go_sort (N := 42) (by kernel_rfl) (wanted_none (by kernel_rfl)) 41 v32 300 3 24 20 (by decide +kernel) (by kernel_rfl) h32 r32 hK
theorem s_34 : StepP gb A c 34 := fun Q a w K hv hb hK => by
  obtain ⟨v33, h33, r33⟩ := hv 33 (by kernel_rfl)
  exact go_val (N := 43) (by kernel_rfl) (wanted_none (by kernel_rfl)) (.bool true) (run_eql (t := 42) (n := 24) (by kernel_rfl) h33 r33) (V 34) rfl hK
theorem s_35 : StepP gb A c 35 := fun Q a w K hv hb hK => by
  obtain ⟨v34, h34, r34⟩ := hv 34 (by kernel_rfl)
  exact go_val (N := 44) (by kernel_rfl) (wanted_none (by kernel_rfl)) v34 (run_move (t := 43) (by kernel_rfl) h34) (V 35) r34 hK
theorem s_36 : StepP gb A c 36 := fun Q a w K hv hb hK => by
  obtain ⟨v35, h35, r35⟩ := hv 35 (by kernel_rfl)
  have e35 : v35 = .bool true := r35
  rw [e35] at h35
  exact go_val (N := 45) (by kernel_rfl) (wanted_some (j := 35) (d := 44) (by kernel_rfl) (by kernel_rfl) h35) _ (run_load (gb := gb) (A := A) (c := c) (by kernel_rfl) hb.ptr hb.c0 hb.c1) (V 36) ⟨A, c, rfl, hb.cap, hb.row⟩ hK
theorem s_37 : StepP gb A c 37 := fun Q a w K hv hb hK => by
  obtain ⟨v35, h35, r35⟩ := hv 35 (by kernel_rfl)
  have e35 : v35 = .bool true := r35
  rw [e35] at h35
  obtain ⟨v36, h36, r36⟩ := hv 36 (by kernel_rfl)
  exact go_sort (N := 46) (by kernel_rfl) (wanted_some (j := 35) (d := 44) (by kernel_rfl) (by kernel_rfl) h35) 45 v36 300 15 3000 20 (by decide +kernel) (by kernel_rfl) h36 r36 hK
theorem s_38 : StepP gb A c 38 := fun Q a w K hv hb hK => by
  obtain ⟨v35, h35, r35⟩ := hv 35 (by kernel_rfl)
  have e35 : v35 = .bool true := r35
  rw [e35] at h35
  obtain ⟨v37, h37, r37⟩ := hv 37 (by kernel_rfl)
  exact go_val (N := 47) (by kernel_rfl) (wanted_some (j := 35) (d := 44) (by kernel_rfl) (by kernel_rfl) h35) (.bool true) (run_eql (t := 46) (n := 3000) (by kernel_rfl) h37 r37) (V 38) rfl hK
theorem s_39 : StepP gb A c 39 := fun Q a w K hv hb hK => by
  obtain ⟨v35, h35, r35⟩ := hv 35 (by kernel_rfl)
  have e35 : v35 = .bool true := r35
  rw [e35] at h35
  obtain ⟨v38, h38, r38⟩ := hv 38 (by kernel_rfl)
  have e38 : v38 = .bool true := r38
  rw [e38] at h38
  exact go_val (N := 48) (by kernel_rfl) (wanted_none (by kernel_rfl)) (.bool true) (run_pick (t := 44) (u := 47) (by kernel_rfl) h35 h38) (V 39) rfl hK
theorem s_40 : StepP gb A c 40 := fun Q a w K hv hb hK => by
  obtain ⟨v39, h39, r39⟩ := hv 39 (by kernel_rfl)
  exact go_val (N := 49) (by kernel_rfl) (wanted_none (by kernel_rfl)) v39 (run_move (t := 48) (by kernel_rfl) h39) (V 40) r39 hK
theorem s_41 : StepP gb A c 41 := fun Q a w K hv hb hK => by
  obtain ⟨v40, h40, r40⟩ := hv 40 (by kernel_rfl)
  have e40 : v40 = .bool true := r40
  rw [e40] at h40
  exact go_val (N := 50) (by kernel_rfl) (wanted_some (j := 40) (d := 49) (by kernel_rfl) (by kernel_rfl) h40) _ (run_load (gb := gb) (A := A) (c := c) (by kernel_rfl) hb.ptr hb.c0 hb.c1) (V 41) ⟨A, c, rfl, hb.cap, hb.row⟩ hK
theorem s_42 : StepP gb A c 42 := fun Q a w K hv hb hK => by
  obtain ⟨v40, h40, r40⟩ := hv 40 (by kernel_rfl)
  have e40 : v40 = .bool true := r40
  rw [e40] at h40
  obtain ⟨v41, h41, r41⟩ := hv 41 (by kernel_rfl)
  exact go_sort (N := 51) (by kernel_rfl) (wanted_some (j := 40) (d := 49) (by kernel_rfl) (by kernel_rfl) h40) 50 v41 0 3 0 20 (by decide +kernel) (by kernel_rfl) h41 r41 hK
theorem s_43 : StepP gb A c 43 := fun Q a w K hv hb hK => by
  obtain ⟨v40, h40, r40⟩ := hv 40 (by kernel_rfl)
  have e40 : v40 = .bool true := r40
  rw [e40] at h40
  obtain ⟨v42, h42, r42⟩ := hv 42 (by kernel_rfl)
  exact go_val (N := 52) (by kernel_rfl) (wanted_some (j := 40) (d := 49) (by kernel_rfl) (by kernel_rfl) h40) (.bool true) (run_eql (t := 51) (n := 0) (by kernel_rfl) h42 r42) (V 43) rfl hK
theorem s_44 : StepP gb A c 44 := fun Q a w K hv hb hK => by
  obtain ⟨v40, h40, r40⟩ := hv 40 (by kernel_rfl)
  have e40 : v40 = .bool true := r40
  rw [e40] at h40
  obtain ⟨v43, h43, r43⟩ := hv 43 (by kernel_rfl)
  have e43 : v43 = .bool true := r43
  rw [e43] at h43
  exact go_val (N := 53) (by kernel_rfl) (wanted_none (by kernel_rfl)) (.bool true) (run_pick (t := 49) (u := 52) (by kernel_rfl) h40 h43) (V 44) rfl hK
theorem s_45 : StepP gb A c 45 := fun Q a w K hv hb hK => by
  exact go_val (N := 54) (by kernel_rfl) (wanted_none (by kernel_rfl)) _ (run_load (gb := gb) (A := A) (c := c) (by kernel_rfl) hb.ptr hb.c0 hb.c1) (V 45) ⟨A, c, rfl, hb.cap, hb.row⟩ hK
theorem s_46 : StepP gb A c 46 := fun Q a w K hv hb hK => by
  obtain ⟨v45, h45, r45⟩ := hv 45 (by kernel_rfl)
  exact go_scan (N := 55) (by kernel_rfl) (wanted_none (by kernel_rfl)) 54 v45 300 6 48 (by decide +kernel) (by kernel_rfl) h45 r45 hK
theorem s_47 : StepP gb A c 47 := fun Q a w K hv hb hK => by
  obtain ⟨v46, h46, r46⟩ := hv 46 (by kernel_rfl)
  exact go_val (N := 56) (by kernel_rfl) (wanted_none (by kernel_rfl)) (.bool true) (run_eql (t := 55) (n := 48) (by kernel_rfl) h46 r46) (V 47) rfl hK
theorem s_48 : StepP gb A c 48 := fun Q a w K hv hb hK => by
  obtain ⟨v2, h2, r2⟩ := hv 2 (by kernel_rfl)
  have e2 : v2 = .bool true := r2
  rw [e2] at h2
  have q2 := eval_of h2
  obtain ⟨v5, h5, r5⟩ := hv 5 (by kernel_rfl)
  have e5 : v5 = .bool true := r5
  rw [e5] at h5
  have q5 := eval_of h5
  obtain ⟨v8, h8, r8⟩ := hv 8 (by kernel_rfl)
  have e8 : v8 = .bool true := r8
  rw [e8] at h8
  have q8 := eval_of h8
  obtain ⟨v11, h11, r11⟩ := hv 11 (by kernel_rfl)
  have e11 : v11 = .bool true := r11
  rw [e11] at h11
  have q11 := eval_of h11
  obtain ⟨v14, h14, r14⟩ := hv 14 (by kernel_rfl)
  have e14 : v14 = .bool true := r14
  rw [e14] at h14
  have q14 := eval_of h14
  obtain ⟨v17, h17, r17⟩ := hv 17 (by kernel_rfl)
  have e17 : v17 = .bool true := r17
  rw [e17] at h17
  have q17 := eval_of h17
  obtain ⟨v20, h20, r20⟩ := hv 20 (by kernel_rfl)
  have e20 : v20 = .bool true := r20
  rw [e20] at h20
  have q20 := eval_of h20
  obtain ⟨v23, h23, r23⟩ := hv 23 (by kernel_rfl)
  have e23 : v23 = .bool true := r23
  rw [e23] at h23
  have q23 := eval_of h23
  obtain ⟨v31, h31, r31⟩ := hv 31 (by kernel_rfl)
  have e31 : v31 = .bool true := r31
  rw [e31] at h31
  have q31 := eval_of h31
  obtain ⟨v44, h44, r44⟩ := hv 44 (by kernel_rfl)
  have e44 : v44 = .bool true := r44
  rw [e44] at h44
  have q44 := eval_of h44
  obtain ⟨v47, h47, r47⟩ := hv 47 (by kernel_rfl)
  have e47 : v47 = .bool true := r47
  rw [e47] at h47
  have q47 := eval_of h47
  have ho : (op 48).op = .buildSlice 27 11 #[(0, .tmp 11), (1, .tmp 14), (2, .tmp 17), (3, .tmp 20), (4, .tmp 23), (5, .tmp 26), (6, .tmp 29), (7, .tmp 32), (8, .tmp 40), (9, .tmp 53), (10, .tmp 56)] := by kernel_rfl
  exact go_litB (N := 57) (by kernel_rfl) (wanted_none (by kernel_rfl)) (by unfold execOp; rw [ho]; simp only [D, Nat.reduceLT, if_true, Nat.reduceAdd] at *; go_simp; first | done | rfl) hK
theorem s_49 : StepP gb A c 49 := fun Q a w K hv hb hK => by
  obtain ⟨v48, h48, r48⟩ := hv 48 (by kernel_rfl)
  exact go_val (N := 4) (by kernel_rfl) (wanted_none (by kernel_rfl)) v48 (run_assign (t := 57) (by kernel_rfl) h48) (V 49) r48 hK
theorem steps : ∀ i, i < 50 → StepP gb A c i
  | 0, _ => s_0
  | 1, _ => s_1
  | 2, _ => s_2
  | 3, _ => s_3
  | 4, _ => s_4
  | 5, _ => s_5
  | 6, _ => s_6
  | 7, _ => s_7
  | 8, _ => s_8
  | 9, _ => s_9
  | 10, _ => s_10
  | 11, _ => s_11
  | 12, _ => s_12
  | 13, _ => s_13
  | 14, _ => s_14
  | 15, _ => s_15
  | 16, _ => s_16
  | 17, _ => s_17
  | 18, _ => s_18
  | 19, _ => s_19
  | 20, _ => s_20
  | 21, _ => s_21
  | 22, _ => s_22
  | 23, _ => s_23
  | 24, _ => s_24
  | 25, _ => s_25
  | 26, _ => s_26
  | 27, _ => s_27
  | 28, _ => s_28
  | 29, _ => s_29
  | 30, _ => s_30
  | 31, _ => s_31
  | 32, _ => s_32
  | 33, _ => s_33
  | 34, _ => s_34
  | 35, _ => s_35
  | 36, _ => s_36
  | 37, _ => s_37
  | 38, _ => s_38
  | 39, _ => s_39
  | 40, _ => s_40
  | 41, _ => s_41
  | 42, _ => s_42
  | 43, _ => s_43
  | 44, _ => s_44
  | 45, _ => s_45
  | 46, _ => s_46
  | 47, _ => s_47
  | 48, _ => s_48
  | 49, _ => s_49
  | n + 50, h => absurd h (by omega)
end
end Go.Proofs.Ytlplaidcdocbmaa.Kn
