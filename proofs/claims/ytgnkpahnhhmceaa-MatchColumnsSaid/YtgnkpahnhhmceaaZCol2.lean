-- Cut by pack.py, a program of this session; not trusted: Lean checks it.
import Derived.Test.YtgnkpahnhhmceaaZCol1
/- MatchColumns: three rows of rows are made, in any order. -/
namespace Go.Proofs.Ytgnkpahnhhmceaa.Core
open Go Go.RowKit Go.Proofs.YtgnkpahnhhmceaaW.PrintWords Go.Proofs.YtgnkpahnhhmceaaW.PrintLast Go.Proofs.YtgnkpahnhhmceaaW.PrintMore
set_option linter.unusedVariables false
set_option linter.unusedSimpArgs false
theorem eval_of {a : Act} {t : Nat} {v : Value} (h : a.tmps[t]? = some v) : a.eval (.tmp t) = v := by
  simp [Act.eval, Array.getD_eq_getD_getElem?, h]
theorem put_same (a : Act) (d : Nat) (v : Value) (h : d < a.tmps.size) : (a.put (some d) v).tmps[d]? = some v := by simp [Act.put, h]
theorem put_ne (a : Act) (d t : Nat) (v : Value) (h : t ≠ d) : (a.put (some d) v).tmps[t]? = a.tmps[t]? := by
  have : d ≠ t := fun e => h e.symm
  simp [Act.put, Array.getElem?_setIfInBounds, this]
theorem put_size (a : Act) (d : Nat) (v : Value) : (a.put (some d) v).tmps.size = a.tmps.size := by simp [Act.put]
section
variable {ops : Array Oper} {Q : Exit → Act → World → Prop} {o : Oper} {a : Act} {w : World} {K : Act → World → Prop} {N : Nat}
theorem wanted_none (h : o.guard.isNone = true) : Region.wanted o (yielded ops a.tmps) = true := by
  cases hg : o.guard with
  | none => simp [Region.wanted, hg]
  | some g => rw [hg] at h; cases h
theorem run_move {t : Nat} {v : Value} (ho : o.op = .move (.tmp t)) (hv : a.tmps[t]? = some v) : (execOp a.eval o).run Try.prog w = .ok (.value v) w := by
  have he := eval_of hv
  unfold execOp
  rw [ho]
  simp only [he]
  go_simp
theorem run_assign {t : Nat} {v : Value} (ho : o.op = .assign (.tmp t)) (hv : a.tmps[t]? = some v) : (execOp a.eval o).run Try.prog w = .ok (.value v) w := by
  have he := eval_of hv
  unfold execOp
  rw [ho]
  simp only [he]
  go_simp
end
theorem L_or {L : Nat → Bool} {i j : Nat} (h : (j == i || L j) = true) (hne : j ≠ i) : L j = true := by
  rw [Bool.or_eq_true, beq_iff_eq] at h
  exact h.resolve_left hne
noncomputable def ops14 : Array Oper := opsOf Try.f11 14
noncomputable def op14 (i : Nat) : Oper := ops14.getD i ⟨none, .move (.tmp 0), 0, "", #[], none⟩
theorem op14_eq {i : Nat} {o : Oper} (ho : ops14[i]? = some o) : op14 i = o := by
  unfold op14
  rw [Array.getD_eq_getD_getElem?, ho]; rfl
theorem ops14_size : ops14.size = 9 := by kernel_rfl
theorem op14_lt {i : Nat} {o : Oper} (ho : ops14[i]? = some o) : i < 9 := by
  rw [← ops14_size]
  rcases Nat.lt_or_ge i ops14.size with h | h
  · exact h
  · rw [Array.getElem?_eq_none h] at ho; cases ho
theorem op14_chk : ((List.range 9).all fun i => (op14 i).guard.isNone && (op14 i).after.all (fun e => !Region.binds .any e || decide (e.on < i))) = true := by kernel_rfl
theorem op14_guard {i : Nat} (hi : i < 9) : (op14 i).guard.isNone = true := by
  have h := List.all_eq_true.1 op14_chk i (List.mem_range.2 hi)
  rw [Bool.and_eq_true] at h
  exact h.1
theorem op14_back {i : Nat} (hi : i < 9) : ∀ e ∈ (op14 i).after, Region.binds .any e = true → e.on < i := by
  have h := List.all_eq_true.1 op14_chk i (List.mem_range.2 hi)
  rw [Bool.and_eq_true] at h
  intro e he hb
  have h2 := (Array.all_eq_true_iff_forall_mem.1 h.2) e he
  rw [hb] at h2
  simpa using h2
theorem op14_mv : ∀ x : Nat, x < 3 → (op14 (2 * x)).op = .move (.tmp 7) ∧ (op14 (2 * x)).dst = some (79 + 2 * x)
  | 0, _ => ⟨by kernel_rfl, by kernel_rfl⟩
  | 1, _ => ⟨by kernel_rfl, by kernel_rfl⟩
  | 2, _ => ⟨by kernel_rfl, by kernel_rfl⟩
theorem op14_mk : ∀ x : Nat, x < 3 → (op14 (2 * x + 1)).op = .makeSlice 24 (.tmp (79 + 2 * x)) (.tmp (79 + 2 * x)) ∧ (op14 (2 * x + 1)).dst = some (80 + 2 * x) ∧ (op14 (2 * x + 1)).after.any (fun e => e.on == 2 * x && Region.binds .any e) = true
  | 0, _ => ⟨by kernel_rfl, by kernel_rfl, by kernel_rfl⟩
  | 1, _ => ⟨by kernel_rfl, by kernel_rfl, by kernel_rfl⟩
  | 2, _ => ⟨by kernel_rfl, by kernel_rfl, by kernel_rfl⟩
theorem op14_as : ∀ x : Nat, x < 3 → (op14 (6 + x)).op = .assign (.tmp (80 + 2 * x)) ∧ (op14 (6 + x)).dst = some (13 + x) ∧ (op14 (6 + x)).after.any (fun e => e.on == 2 * x + 1 && Region.binds .any e) = true
  | 0, _ => ⟨by kernel_rfl, by kernel_rfl, by kernel_rfl⟩
  | 1, _ => ⟨by kernel_rfl, by kernel_rfl, by kernel_rfl⟩
  | 2, _ => ⟨by kernel_rfl, by kernel_rfl, by kernel_rfl⟩
theorem dep_up {o : Oper} {L : Nat → Bool} (hL : ∀ e ∈ o.after, Region.binds .any e = true → L e.on = true) {j : Nat} (h : o.after.any (fun e => e.on == j && Region.binds .any e) = true) : L j = true := by
  obtain ⟨k, hk, h2⟩ := Array.any_eq_true.1 h
  rw [Bool.and_eq_true, beq_iff_eq] at h2
  have := hL _ (Array.getElem_mem hk) h2.2
  rw [h2.1] at this
  exact this
/-- How region 14 stands. -/
structure I14 (k : Nat) (a0 : Act) (w0 : World) (L : Nat → Bool) (a : Act) (w : World) : Prop where
  tsz : a.tmps.size = a0.tmps.size
  dfr : a.defers = a0.defers
  oth : ∀ t, ¬ (79 ≤ t ∧ t ≤ 84) → ¬ (13 ≤ t ∧ t ≤ 15) → a.tmps[t]? = a0.tmps[t]?
  bel : Below w0.heap.size w0 w
  mv : ∀ x, x < 3 → L (2 * x) = true → a.tmps[79 + 2 * x]? = some (.int .i64 (k : Int))
  made : ∃ ok : Nat → Nat → Prop, (∀ x y q, x < 3 → y < 3 → x ≠ y → ok x q → ok y q → False) ∧ (∀ x q, x < 3 → ok x q → q < w.heap.size) ∧
    ∀ x, x < 3 → L (2 * x + 1) = true → ∃ g c, a.tmps[80 + 2 * x]? = some (.slice (some ⟨g, 0, none⟩) k c) ∧ Kd.S Gd 22 w w0.heap.size (ok x) (.slice (some ⟨g, 0, none⟩) k c) (List.replicate k [])
  asg : ∀ x, x < 3 → L (6 + x) = true → L (2 * x + 1) = true ∧ a.tmps[13 + x]? = a.tmps[80 + 2 * x]?
theorem info22' : (Try.prog.info? 22).map (fun i => (i.zero, i.size, i.bytes)) = some (some (.slice none 0 0), 1, 24) := by kernel_rfl
theorem split9 (i : Nat) (h : i < 9) : (∃ x, x < 3 ∧ i = 2 * x) ∨ (∃ x, x < 3 ∧ i = 2 * x + 1) ∨ ∃ x, x < 3 ∧ i = 6 + x := by
  by_cases h6 : 6 ≤ i
  · exact .inr (.inr ⟨i - 6, by omega, by omega⟩)
  · by_cases he : i % 2 = 0
    · exact .inl ⟨i / 2, by omega, by omega⟩
    · exact .inr (.inl ⟨i / 2, by omega, by omega⟩)
theorem step14 {k : Nat} (hk0 : 0 < k) (hk : k ≤ 100) {a0 : Act} {w0 : World} (h7 : a0.tmps[7]? = some (.int .i64 (k : Int))) (hsz : 84 < a0.tmps.size) (i : Nat) (hi : i < 9) (L : Nat → Bool) (a : Act) (w : World) (hI : I14 k a0 w0 L a w) (hLi : L i = false)
    (hL : ∀ e ∈ (op14 i).after, Region.binds .any e = true → L e.on = true) (Q : Exit → Act → World → Prop) (K : Act → World → Prop) (hK : ∀ a' w', I14 k a0 w0 (fun j => j == i || L j) a' w' → K a' w') :
    if Region.wanted (op14 i) (yielded ops14 a.tmps) = true then Oper.wp Try.prog (op14 i) a w K Q else K (a.put (op14 i).dst undef) w := by
  have hw : Region.wanted (op14 i) (yielded ops14 a.tmps) = true := wanted_none (op14_guard hi)
  obtain ⟨ok, hdis, hbd, hmk⟩ := hI.made
  rcases split9 i hi with ⟨x, hx, rfl⟩ | ⟨x, hx, rfl⟩ | ⟨x, hx, rfl⟩
  · obtain ⟨ho, hd⟩ := op14_mv x hx
    have e7 : a.tmps[7]? = some (.int .i64 (k : Int)) := by rw [hI.oth 7 (by omega) (by omega)]; exact h7
    refine event_step hw (run_move ho e7) ?_
    rw [hd]
    refine hK _ _ ⟨by rw [put_size]; exact hI.tsz, hI.dfr, fun t h1 h2 => ?_, hI.bel, fun y hy hLy => ?_, ⟨ok, hdis, hbd, fun y hy hLy => ?_⟩, fun y hy hLy => ?_⟩
    · rw [put_ne _ _ _ _ (by omega)]; exact hI.oth t h1 h2
    · by_cases e : y = x
      · subst e; exact put_same _ _ _ (by rw [hI.tsz]; omega)
      · rw [put_ne _ _ _ _ (by omega)]; exact hI.mv y hy (L_or hLy (by omega))
    · rw [put_ne _ _ _ _ (by omega)]; exact hmk y hy (L_or hLy (by omega))
    · have h := hI.asg y hy (L_or hLy (by omega))
      refine ⟨by simp [h.1], ?_⟩
      rw [put_ne _ _ _ _ (by omega), put_ne _ _ _ _ (by omega)]; exact h.2
  · obtain ⟨ho, hd, hdp⟩ := op14_mk x hx
    have em := hI.mv x hx (dep_up hL hdp)
    refine Kd.S_make_step Gd (w0 := w0) w0.heap.size 22 hw hd 24 (.tmp (79 + 2 * x)) (.tmp (79 + 2 * x)) ho (k : Int) (eval_of em) (eval_of em) Try.underlying24 (.slice none 0 0) 24 info22' rfl (by decide) (by omega) ([] : List Int) (ok := fun q => w.heap.size ≤ q) (okp := fun _ => False) (Kd.M_row (Kd.R_nil _ _ _ _ _)) (fun _ h => h.elim) (Nat.le_refl _) (by omega) (by simp; omega) hI.bel hI.bel.size ?_
    intro v1 w1 hS hb hg _
    rw [Int.toNat_natCast] at hS
    obtain ⟨g, c, rfl, hgb, hgl, _⟩ := Kd.S_form hS (by simp; exact hk0)
    rw [List.length_replicate] at hS
    have hbw : Below w.heap.size w w1 := ⟨hg.os, hg.tape, hg.output, hg.size, fun q hq => hg.block q hq (by simp)⟩
    rw [hd]
    refine hK _ _ ⟨by rw [put_size]; exact hI.tsz, hI.dfr, fun t h1 h2 => ?_, hb, fun y hy hLy => ?_, ⟨fun y q => if y = x then (w.heap.size ≤ q ∧ q < w1.heap.size) else ok y q, ?_, ?_, fun y hy hLy => ?_⟩, fun y hy hLy => ?_⟩
    · rw [put_ne _ _ _ _ (by omega)]; exact hI.oth t h1 h2
    · rw [put_ne _ _ _ _ (by omega)]; exact hI.mv y hy (L_or hLy (by omega))
    · intro y z q hy hz hyz h1 h2
      by_cases ey : y = x
      · rw [if_pos ey] at h1; rw [if_neg (by omega)] at h2
        have := hbd z q hz h2
        omega
      · rw [if_neg ey] at h1
        have := hbd y q hy h1
        by_cases ez : z = x
        · rw [if_pos ez] at h2; omega
        · rw [if_neg ez] at h2; exact hdis y z q hy hz hyz h1 h2
    · intro y q hy h
      by_cases ey : y = x
      · rw [if_pos ey] at h; exact h.2
      · rw [if_neg ey] at h; exact Nat.lt_of_lt_of_le (hbd y q hy h) hbw.size
    · by_cases e : y = x
      · subst e
        refine ⟨g, c, by rw [put_same _ _ _ (by rw [hI.tsz]; omega), List.length_replicate], ?_⟩
        exact Kd.S_mono (Kd.S_bound hS) (fun q hq => by dsimp only; rw [if_pos rfl]; exact ⟨hq.1, hq.2.2.1⟩)
      · obtain ⟨g', c', h1, h2⟩ := hmk y hy (L_or hLy (by omega))
        refine ⟨g', c', by rw [put_ne _ _ _ _ (by omega)]; exact h1, ?_⟩
        exact Kd.S_mono (Kd.S_below h2 hbw) (fun q hq => by dsimp only; rw [if_neg e]; exact hq)
    · have h := hI.asg y hy (L_or hLy (by omega))
      have hne : y ≠ x := fun e => by subst e; rw [h.1] at hLi; cases hLi
      refine ⟨by simp [h.1], ?_⟩
      rw [put_ne _ _ _ _ (by omega), put_ne _ _ _ _ (by omega)]; exact h.2
  · obtain ⟨ho, hd, hdp⟩ := op14_as x hx
    have hLx := dep_up hL hdp
    obtain ⟨g, c, hv, hS⟩ := hmk x hx hLx
    refine event_step hw (run_assign ho hv) ?_
    rw [hd]
    refine hK _ _ ⟨by rw [put_size]; exact hI.tsz, hI.dfr, fun t h1 h2 => ?_, hI.bel, fun y hy hLy => ?_, ⟨ok, hdis, hbd, fun y hy hLy => ?_⟩, fun y hy hLy => ?_⟩
    · rw [put_ne _ _ _ _ (by omega)]; exact hI.oth t h1 h2
    · rw [put_ne _ _ _ _ (by omega)]; exact hI.mv y hy (L_or hLy (by omega))
    · rw [put_ne _ _ _ _ (by omega)]; exact hmk y hy (L_or hLy (by omega))
    · by_cases e : y = x
      · subst e
        refine ⟨by simp [hLx], ?_⟩
        rw [put_same _ _ _ (by rw [hI.tsz]; omega), put_ne _ _ _ _ (by omega)]; exact hv.symm
      · have h := hI.asg y hy (L_or hLy (by omega))
        refine ⟨by simp [h.1], ?_⟩
        rw [put_ne _ _ _ _ (by omega), put_ne _ _ _ _ (by omega)]; exact h.2
/-- Region 14 is walked. -/
theorem region14 {k : Nat} (hk0 : 0 < k) (hk : k ≤ 100) {Q : Exit → Act → World → Prop} {a0 : Act} {w0 : World} (h7 : a0.tmps[7]? = some (.int .i64 (k : Int))) (hsz : 84 < a0.tmps.size)
    (hend : ∀ (a : Act) (w : World) (gs cs : Nat → Nat) (ok : Nat → Nat → Prop), a.tmps.size = a0.tmps.size → a.defers = a0.defers → (∀ t, ¬ (79 ≤ t ∧ t ≤ 84) → ¬ (13 ≤ t ∧ t ≤ 15) → a.tmps[t]? = a0.tmps[t]?) → Below w0.heap.size w0 w →
      (∀ x y q, x < 3 → y < 3 → x ≠ y → ok x q → ok y q → False) → (∀ x q, x < 3 → ok x q → q < w.heap.size) →
      (∀ x, x < 3 → a.tmps[13 + x]? = some (.slice (some ⟨gs x, 0, none⟩) k (cs x)) ∧ Kd.S Gd 22 w w0.heap.size (ok x) (.slice (some ⟨gs x, 0, none⟩) k (cs x)) (List.replicate k [])) → Q .normal a w) :
    (Code.region 14 ops14 true).wp Try.prog Q a0 w0 := by
  refine inv_region (n := 9) (Inv := I14 k a0 w0) (by kernel_rfl) ops14_size (fun i o ho => by rw [← op14_eq ho]; exact op14_back (op14_lt ho)) ?_ (fun i o ho L a w hI hLi hL K hK => ?_) (fun L a w hI hall => ?_)
  · exact ⟨rfl, rfl, fun _ _ _ => rfl, Below.drew (Below.refl _ _), fun x hx h => (by cases h), ⟨fun _ _ => False, fun _ _ _ _ _ _ h _ => h, fun _ _ _ h => h.elim, fun x hx h => (by cases h)⟩, fun x hx h => (by cases h)⟩
  · have hi := op14_lt ho
    have e := op14_eq ho
    subst e
    exact step14 hk0 hk h7 hsz i hi L a w hI hLi hL Q K hK
  · obtain ⟨ok, hdis, hbd, hmk⟩ := hI.made
    have hx : ∀ x, x < 3 → ∃ p : Nat × Nat, a.tmps[80 + 2 * x]? = some (.slice (some ⟨p.1, 0, none⟩) k p.2) ∧ Kd.S Gd 22 w w0.heap.size (ok x) (.slice (some ⟨p.1, 0, none⟩) k p.2) (List.replicate k []) := fun x hx => by
      obtain ⟨g, c, h1, h2⟩ := hmk x hx (hall _ (by omega))
      exact ⟨(g, c), h1, h2⟩
    obtain ⟨p0, h01, h02⟩ := hx 0 (by omega)
    obtain ⟨p1, h11, h12⟩ := hx 1 (by omega)
    obtain ⟨p2, h21, h22⟩ := hx 2 (by omega)
    refine hend a w (fun x => if x = 0 then p0.1 else if x = 1 then p1.1 else p2.1) (fun x => if x = 0 then p0.2 else if x = 1 then p1.2 else p2.2) ok hI.tsz hI.dfr hI.oth hI.bel hdis hbd (fun x hx => ?_)
    have ha := (hI.asg x hx (hall _ (by omega))).2
    match x, hx with
    | 0, _ => exact ⟨ha.trans h01, h02⟩
    | 1, _ => exact ⟨ha.trans h11, h12⟩
    | 2, _ => exact ⟨ha.trans h21, h22⟩
end Go.Proofs.Ytgnkpahnhhmceaa.Core
