-- Cut by pack.py, a program of this session; not trusted: Lean checks it.
import Derived.Test.YtgnkpahnhhmceaaZCol2
/- MatchColumns: three rows are made and put into the three grids, in any order. -/
namespace Go.Proofs.Ytgnkpahnhhmceaa.Core
open Go Go.RowKit Go.Proofs.YtgnkpahnhhmceaaW.PrintWords Go.Proofs.YtgnkpahnhhmceaaW.PrintLast Go.Proofs.YtgnkpahnhhmceaaW.PrintMore
set_option linter.unusedVariables false
set_option linter.unusedSimpArgs false
theorem Lp_ne {L : Nat → Bool} {i j : Nat} (hne : j ≠ i) : (j == i || L j) = L j := by
  rw [beq_eq_false_iff_ne.2 hne, Bool.false_or]
noncomputable def ops18 : Array Oper := opsOf Try.f11 18
noncomputable def op18 (i : Nat) : Oper := ops18.getD i ⟨none, .move (.tmp 0), 0, "", #[], none⟩
theorem op18_eq {i : Nat} {o : Oper} (ho : ops18[i]? = some o) : op18 i = o := by
  unfold op18
  rw [Array.getD_eq_getD_getElem?, ho]; rfl
theorem ops18_size : ops18.size = 18 := by kernel_rfl
theorem op18_lt {i : Nat} {o : Oper} (ho : ops18[i]? = some o) : i < 18 := by
  rw [← ops18_size]
  rcases Nat.lt_or_ge i ops18.size with h | h
  · exact h
  · rw [Array.getElem?_eq_none h] at ho; cases ho
theorem op18_chk : ((List.range 18).all fun i => (op18 i).guard.isNone && (op18 i).after.all (fun e => !Region.binds .any e || decide (e.on < i))) = true := by kernel_rfl
theorem op18_guard {i : Nat} (hi : i < 18) : (op18 i).guard.isNone = true := by
  have h := List.all_eq_true.1 op18_chk i (List.mem_range.2 hi)
  rw [Bool.and_eq_true] at h
  exact h.1
theorem op18_back {i : Nat} (hi : i < 18) : ∀ e ∈ (op18 i).after, Region.binds .any e = true → e.on < i := by
  have h := List.all_eq_true.1 op18_chk i (List.mem_range.2 hi)
  rw [Bool.and_eq_true] at h
  intro e he hb
  have h2 := (Array.all_eq_true_iff_forall_mem.1 h.2) e he
  rw [hb] at h2
  simpa using h2
theorem op18_mg : ∀ x : Nat, x < 3 → (op18 (2 * x)).op = .move (.tmp (13 + x)) ∧ (op18 (2 * x)).dst = some (90 + 2 * x)
  | 0, _ => ⟨by kernel_rfl, by kernel_rfl⟩
  | 1, _ => ⟨by kernel_rfl, by kernel_rfl⟩
  | 2, _ => ⟨by kernel_rfl, by kernel_rfl⟩
theorem op18_mi : ∀ x : Nat, x < 3 → (op18 (2 * x + 1)).op = .move (.tmp 16) ∧ (op18 (2 * x + 1)).dst = some (91 + 2 * x)
  | 0, _ => ⟨by kernel_rfl, by kernel_rfl⟩
  | 1, _ => ⟨by kernel_rfl, by kernel_rfl⟩
  | 2, _ => ⟨by kernel_rfl, by kernel_rfl⟩
theorem op18_mk : ∀ x : Nat, x < 3 → (op18 (6 + 2 * x)).op = .move (.tmp 7) ∧ (op18 (6 + 2 * x)).dst = some (96 + 2 * x)
  | 0, _ => ⟨by kernel_rfl, by kernel_rfl⟩
  | 1, _ => ⟨by kernel_rfl, by kernel_rfl⟩
  | 2, _ => ⟨by kernel_rfl, by kernel_rfl⟩
theorem op18_ma : ∀ x : Nat, x < 3 → (op18 (7 + 2 * x)).op = .makeSlice 22 (.tmp (96 + 2 * x)) (.tmp (96 + 2 * x)) ∧ (op18 (7 + 2 * x)).dst = some (97 + 2 * x) ∧ (op18 (7 + 2 * x)).after.any (fun e => e.on == 6 + 2 * x && Region.binds .any e) = true
  | 0, _ => ⟨by kernel_rfl, by kernel_rfl, by kernel_rfl⟩
  | 1, _ => ⟨by kernel_rfl, by kernel_rfl, by kernel_rfl⟩
  | 2, _ => ⟨by kernel_rfl, by kernel_rfl, by kernel_rfl⟩
theorem op18_ix : ∀ x : Nat, x < 3 → (op18 (12 + 2 * x)).op = .indexAddr 24 (.tmp (90 + 2 * x)) (.tmp (91 + 2 * x)) ∧ (op18 (12 + 2 * x)).dst = some (102 + x) ∧ (op18 (12 + 2 * x)).after.any (fun e => e.on == 2 * x && Region.binds .any e) = true ∧ (op18 (12 + 2 * x)).after.any (fun e => e.on == 2 * x + 1 && Region.binds .any e) = true
  | 0, _ => ⟨by kernel_rfl, by kernel_rfl, by kernel_rfl, by kernel_rfl⟩
  | 1, _ => ⟨by kernel_rfl, by kernel_rfl, by kernel_rfl, by kernel_rfl⟩
  | 2, _ => ⟨by kernel_rfl, by kernel_rfl, by kernel_rfl, by kernel_rfl⟩
theorem op18_st : ∀ x : Nat, x < 3 → (op18 (13 + 2 * x)).op = .store 22 (.tmp (102 + x)) (.tmp (97 + 2 * x)) ∧ (op18 (13 + 2 * x)).dst = none ∧ (op18 (13 + 2 * x)).after.any (fun e => e.on == 12 + 2 * x && Region.binds .any e) = true ∧ (op18 (13 + 2 * x)).after.any (fun e => e.on == 7 + 2 * x && Region.binds .any e) = true
  | 0, _ => ⟨by kernel_rfl, by kernel_rfl, by kernel_rfl, by kernel_rfl⟩
  | 1, _ => ⟨by kernel_rfl, by kernel_rfl, by kernel_rfl, by kernel_rfl⟩
  | 2, _ => ⟨by kernel_rfl, by kernel_rfl, by kernel_rfl, by kernel_rfl⟩
theorem split18 (i : Nat) (h : i < 18) : ∃ x, x < 3 ∧ (i = 2 * x ∨ i = 2 * x + 1 ∨ i = 6 + 2 * x ∨ i = 7 + 2 * x ∨ i = 12 + 2 * x ∨ i = 13 + 2 * x) := by
  by_cases h1 : i < 6
  · exact ⟨i / 2, by omega, by omega⟩
  · by_cases h2 : i < 12
    · exact ⟨(i - 6) / 2, by omega, by omega⟩
    · exact ⟨(i - 12) / 2, by omega, by omega⟩
theorem info3' : (Try.prog.info? 3).map (fun i => (i.zero, i.size, i.bytes)) = some (some (.int .i64 0), 1, 8) := by kernel_rfl
theorem run_index {o : Oper} {a : Act} {w : World} {t u : Nat} {g n c i : Nat} (ho : o.op = .indexAddr 24 (.tmp t) (.tmp u)) (hv : a.tmps[t]? = some (.slice (some ⟨g, 0, none⟩) n c)) (hu : a.tmps[u]? = some (.int .i64 (i : Int))) (hi : i < n) :
    (execOp a.eval o).run Try.prog w = .ok (.value (.pointer (some ⟨g, i, none⟩))) w := by
  have he := eval_of hv
  have he2 := eval_of hu
  have q1 : ((i : Int) < (n : Int)) = True := eq_true (by omega)
  have q2 : (i < n) = True := eq_true hi
  unfold execOp
  rw [ho]
  simp only [he, he2]
  go_simp
/-- How region 18 stands. -/
structure I18 (s k i : Nat) (g c : Nat → Nat) (C : Nat → List (List Int)) (a0 : Act) (w0 : World) (L : Nat → Bool) (a : Act) (w : World) : Prop where
  tsz : a.tmps.size = a0.tmps.size
  dfr : a.defers = a0.defers
  oth : ∀ t, ¬ (90 ≤ t ∧ t ≤ 104) → a.tmps[t]? = a0.tmps[t]?
  bel : Below s w0 w
  bsz : s ≤ w.heap.size
  mg : ∀ x, x < 3 → L (2 * x) = true → a.tmps[90 + 2 * x]? = some (.slice (some ⟨g x, 0, none⟩) k (c x))
  mi : ∀ x, x < 3 → L (2 * x + 1) = true → a.tmps[91 + 2 * x]? = some (.int .i64 (i : Int))
  mk' : ∀ x, x < 3 → L (6 + 2 * x) = true → a.tmps[96 + 2 * x]? = some (.int .i64 (k : Int))
  ix : ∀ x, x < 3 → L (12 + 2 * x) = true → a.tmps[102 + x]? = some (.pointer (some ⟨g x, i, none⟩))
  heap : ∃ ok okr : Nat → Nat → Prop, (∀ x y q, x < 3 → y < 3 → x ≠ y → ok x q → ok y q → False) ∧ (∀ x y q, x < 3 → y < 3 → ok x q → okr y q → False) ∧ (∀ x y q, x < 3 → y < 3 → x ≠ y → okr x q → okr y q → False) ∧
    (∀ x q, x < 3 → ok x q → q < w.heap.size) ∧ (∀ x q, x < 3 → okr x q → q < w.heap.size) ∧
    (∀ x, x < 3 → Kd.S Gd 22 w s (ok x) (.slice (some ⟨g x, 0, none⟩) k (c x)) (if L (13 + 2 * x) = true then (C x).set i (List.replicate k 0) else C x)) ∧
    (∀ x, x < 3 → L (7 + 2 * x) = true → L (13 + 2 * x) = false → ∃ v, a.tmps[97 + 2 * x]? = some v ∧ Kd.R (Kd.int .i64) 3 w s (okr x) v (List.replicate k 0))
section
variable {s k i : Nat} {g c : Nat → Nat} {C : Nat → List (List Int)} {a0 : Act} {w0 : World} {L : Nat → Bool} {a : Act} {w : World}
/-- An operation that writes a temporary alone, which no fact reads but the one that is told. -/
theorem I18.put (hI : I18 s k i g c C a0 w0 L a w) (hsz : 104 < a0.tmps.size) (j d : Nat) (v : Value) (hd : 90 ≤ d ∧ d ≤ 104) (hLj : L j = false)
    (h1 : ∀ x, x < 3 → (j = 2 * x ↔ d = 90 + 2 * x ∧ d < 96) ∧ (j = 2 * x → v = .slice (some ⟨g x, 0, none⟩) k (c x)))
    (h2 : ∀ x, x < 3 → (j = 2 * x + 1 ↔ d = 91 + 2 * x ∧ d < 96) ∧ (j = 2 * x + 1 → v = .int .i64 (i : Int)))
    (h3 : ∀ x, x < 3 → (j = 6 + 2 * x ↔ d = 96 + 2 * x ∧ d < 102) ∧ (j = 6 + 2 * x → v = .int .i64 (k : Int)))
    (h4 : ∀ x, x < 3 → (j = 12 + 2 * x ↔ d = 102 + x) ∧ (j = 12 + 2 * x → v = .pointer (some ⟨g x, i, none⟩)))
    (h5 : ∀ x, x < 3 → d ≠ 97 + 2 * x ∧ j ≠ 7 + 2 * x ∧ j ≠ 13 + 2 * x) :
    I18 s k i g c C a0 w0 (fun q => q == j || L q) (a.put (some d) v) w := by
  have key : ∀ (t q : Nat) (u : Value), (q = j ↔ t = d) → (q = j → v = u) → t ≤ 104 → (L q = true → a.tmps[t]? = some u) → (q == j || L q) = true → (a.put (some d) v).tmps[t]? = some u := by
    intro t q u hq hv ht ho hL
    by_cases e : q = j
    · have e2 := hq.1 e
      subst e2
      rw [put_same _ _ _ (by rw [hI.tsz]; omega), hv e]
    · rw [put_ne _ _ _ _ (fun h => e (hq.2 h))]
      exact ho (L_or hL e)
  obtain ⟨ok, okr, d1, d2, d3, b1, b2, hS, hR⟩ := hI.heap
  refine ⟨by rw [put_size]; exact hI.tsz, hI.dfr, fun t ht => ?_, hI.bel, hI.bsz, fun x hx hl => ?_, fun x hx hl => ?_, fun x hx hl => ?_, fun x hx hl => ?_, ⟨ok, okr, d1, d2, d3, b1, b2, fun x hx => ?_, fun x hx hl hl2 => ?_⟩⟩
  · rw [put_ne _ _ _ _ (by omega)]; exact hI.oth t ht
  · have h := h1 x hx
    refine key _ (2 * x) _ ⟨fun e => ?_, fun e => ?_⟩ (fun e => h.2 e.symm) (by omega) (hI.mg x hx) hl
    · have := (h.1.1 e.symm).1; omega
    · exact (h.1.2 ⟨by omega, by omega⟩).symm
  · have h := h2 x hx
    refine key _ (2 * x + 1) _ ⟨fun e => ?_, fun e => ?_⟩ (fun e => h.2 e.symm) (by omega) (hI.mi x hx) hl
    · have := (h.1.1 e.symm).1; omega
    · exact (h.1.2 ⟨by omega, by omega⟩).symm
  · have h := h3 x hx
    refine key _ (6 + 2 * x) _ ⟨fun e => ?_, fun e => ?_⟩ (fun e => h.2 e.symm) (by omega) (hI.mk' x hx) hl
    · have := (h.1.1 e.symm).1; omega
    · exact (h.1.2 ⟨by omega, by omega⟩).symm
  · have h := h4 x hx
    refine key _ (12 + 2 * x) _ ⟨fun e => ?_, fun e => ?_⟩ (fun e => h.2 e.symm) (by omega) (hI.ix x hx) hl
    · have := h.1.1 e.symm; omega
    · exact (h.1.2 (by omega)).symm
  · have h := h5 x hx
    rw [Lp_ne (fun e => h.2.2 e.symm)]
    exact hS x hx
  · have h := h5 x hx
    rw [Lp_ne (fun e => h.2.1 e.symm)] at hl
    rw [Lp_ne (fun e => h.2.2 e.symm)] at hl2
    obtain ⟨v', e1, e2⟩ := hR x hx hl hl2
    exact ⟨v', by rw [put_ne _ _ _ _ (fun e => h.1 e.symm)]; exact e1, e2⟩
theorem step18 (hk : k ≤ 100) (hik : i < k) (hCl : ∀ x, x < 3 → (C x).length = k) (hg : ∀ x, x < 3 → a0.tmps[13 + x]? = some (.slice (some ⟨g x, 0, none⟩) k (c x))) (h16 : a0.tmps[16]? = some (.int .i64 (i : Int))) (h7 : a0.tmps[7]? = some (.int .i64 (k : Int)))
    (hsz : 104 < a0.tmps.size) (j : Nat) (hj : j < 18) (hI : I18 s k i g c C a0 w0 L a w) (hLj : L j = false)
    (hL : ∀ e ∈ (op18 j).after, Region.binds .any e = true → L e.on = true) (Q : Exit → Act → World → Prop) (K : Act → World → Prop) (hK : ∀ a' w', I18 s k i g c C a0 w0 (fun q => q == j || L q) a' w' → K a' w') :
    if Region.wanted (op18 j) (yielded ops18 a.tmps) = true then Oper.wp Try.prog (op18 j) a w K Q else K (a.put (op18 j).dst undef) w := by
  have hw : Region.wanted (op18 j) (yielded ops18 a.tmps) = true := wanted_none (op18_guard hj)
  obtain ⟨x, hx, hc⟩ := split18 j hj
  rcases hc with rfl | rfl | rfl | rfl | rfl | rfl
  · obtain ⟨ho, hd⟩ := op18_mg x hx
    have e := (hI.oth (13 + x) (by omega)).trans (hg x hx)
    refine event_step hw (run_move ho e) ?_
    rw [hd]
    refine hK _ _ (hI.put hsz _ _ _ (by omega) hLj (fun y hy => ⟨by omega, fun e => ?_⟩) (fun y hy => ⟨by omega, fun e => by omega⟩) (fun y hy => ⟨by omega, fun e => by omega⟩) (fun y hy => ⟨by omega, fun e => by omega⟩) (fun y hy => by omega))
    obtain rfl : y = x := by omega
    rfl
  · obtain ⟨ho, hd⟩ := op18_mi x hx
    have e := (hI.oth 16 (by omega)).trans h16
    refine event_step hw (run_move ho e) ?_
    rw [hd]
    exact hK _ _ (hI.put hsz _ _ _ (by omega) hLj (fun y hy => ⟨by omega, fun e => by omega⟩) (fun y hy => ⟨by omega, fun e => rfl⟩) (fun y hy => ⟨by omega, fun e => by omega⟩) (fun y hy => ⟨by omega, fun e => by omega⟩) (fun y hy => by omega))
  · obtain ⟨ho, hd⟩ := op18_mk x hx
    have e := (hI.oth 7 (by omega)).trans h7
    refine event_step hw (run_move ho e) ?_
    rw [hd]
    exact hK _ _ (hI.put hsz _ _ _ (by omega) hLj (fun y hy => ⟨by omega, fun e => by omega⟩) (fun y hy => ⟨by omega, fun e => by omega⟩) (fun y hy => ⟨by omega, fun e => rfl⟩) (fun y hy => ⟨by omega, fun e => by omega⟩) (fun y hy => by omega))
  · obtain ⟨ho, hd, hdp⟩ := op18_ma x hx
    have em := hI.mk' x hx (dep_up hL hdp)
    obtain ⟨ok, okr, d1, d2, d3, b1, b2, hS, hR⟩ := hI.heap
    have hl13 : L (13 + 2 * x) = true ∨ L (13 + 2 * x) = false := by cases L (13 + 2 * x) <;> simp
    refine Kd.R_make_step (Kd.int .i64) (w0 := w0) s 3 hw hd 22 (.tmp (96 + 2 * x)) (.tmp (96 + 2 * x)) ho (k : Int) (eval_of em) (eval_of em) Try.underlying22 (.int .i64 0) 8 info3' rfl (by decide) (by omega) (0 : Int) (ok := fun q => w.heap.size ≤ q) (okp := fun _ => False) rfl (fun _ h => h.elim) (Nat.le_refl _) (by omega) (by simp; omega) hI.bel hI.bsz ?_
    intro v1 w1 hr hb hgw _
    rw [Int.toNat_natCast] at hr
    have hbw : Below w.heap.size w w1 := ⟨hgw.os, hgw.tape, hgw.output, hgw.size, fun q hq => hgw.block q hq (by simp)⟩
    rw [hd]
    refine hK _ _ ⟨by rw [put_size]; exact hI.tsz, hI.dfr, fun t ht => ?_, hb, Nat.le_trans hI.bsz hbw.size, fun y hy hl => ?_, fun y hy hl => ?_, fun y hy hl => ?_, fun y hy hl => ?_,
      ⟨ok, fun y q => if y = x then (w.heap.size ≤ q ∧ q < w1.heap.size) else okr y q, d1, ?_, ?_, fun y q hy h => Nat.lt_of_lt_of_le (b1 y q hy h) hbw.size, ?_, fun y hy => ?_, fun y hy hl hl2 => ?_⟩⟩
    · rw [put_ne _ _ _ _ (by omega)]; exact hI.oth t ht
    · rw [put_ne _ _ _ _ (by omega)]; exact hI.mg y hy (L_or hl (by omega))
    · rw [put_ne _ _ _ _ (by omega)]; exact hI.mi y hy (L_or hl (by omega))
    · rw [put_ne _ _ _ _ (by omega)]; exact hI.mk' y hy (L_or hl (by omega))
    · rw [put_ne _ _ _ _ (by omega)]; exact hI.ix y hy (L_or hl (by omega))
    · intro y z q hy hz h1 h2
      by_cases ez : z = x
      · rw [if_pos ez] at h2
        have := b1 y q hy h1
        omega
      · rw [if_neg ez] at h2; exact d2 y z q hy hz h1 h2
    · intro y z q hy hz hyz h1 h2
      by_cases ey : y = x
      · rw [if_pos ey] at h1; rw [if_neg (by omega)] at h2
        have := b2 z q hz h2
        omega
      · rw [if_neg ey] at h1
        by_cases ez : z = x
        · rw [if_pos ez] at h2
          have := b2 y q hy h1
          omega
        · rw [if_neg ez] at h2; exact d3 y z q hy hz hyz h1 h2
    · intro y q hy h
      by_cases ey : y = x
      · rw [if_pos ey] at h; exact h.2
      · rw [if_neg ey] at h; exact Nat.lt_of_lt_of_le (b2 y q hy h) hbw.size
    · rw [Lp_ne (by omega)]
      exact Kd.S_below (hS y hy) hbw
    · rw [Lp_ne (by omega)] at hl2
      by_cases e : y = x
      · subst e
        refine ⟨v1, put_same _ _ _ (by rw [hI.tsz]; omega), ?_⟩
        exact Kd.R_mono (Kd.R_bound hr) (fun q hq => by dsimp only; rw [if_pos rfl]; exact ⟨hq.1, hq.2.2.1⟩)
      · obtain ⟨v', e1, e2⟩ := hR y hy (L_or hl (by omega)) hl2
        refine ⟨v', by rw [put_ne _ _ _ _ (by omega)]; exact e1, ?_⟩
        exact Kd.R_mono (Kd.R_below e2 hbw) (fun q hq => by dsimp only; rw [if_neg e]; exact hq)
  · obtain ⟨ho, hd, hdp, hdp2⟩ := op18_ix x hx
    refine event_step hw (run_index ho (hI.mg x hx (dep_up hL hdp)) (hI.mi x hx (dep_up hL hdp2)) hik) ?_
    rw [hd]
    refine hK _ _ (hI.put hsz _ _ _ (by omega) hLj (fun y hy => ⟨by omega, fun e => by omega⟩) (fun y hy => ⟨by omega, fun e => by omega⟩) (fun y hy => ⟨by omega, fun e => by omega⟩) (fun y hy => ⟨by omega, fun e => ?_⟩) (fun y hy => by omega))
    obtain rfl : y = x := by omega
    rfl
  · obtain ⟨ho, hd, hdp, hdp2⟩ := op18_st x hx
    obtain ⟨ok, okr, d1, d2, d3, b1, b2, hS, hR⟩ := hI.heap
    obtain ⟨v, ev, hr⟩ := hR x hx (dep_up hL hdp2) hLj
    have hSx := hS x hx
    rw [hLj, if_neg (by decide)] at hSx
    obtain ⟨⟨u, hu⟩, hf, hput⟩ := S_in hSx hr (fun q h1 h2 => d2 x x q hx hx h1 h2) i hik
    have hgx : ok x (g x) := (Kd.S_R hSx).1 _ rfl
    obtain ⟨Av, cv, rfl⟩ := Kd.R_slice hr
    have hsg : s ≤ g x := by
      rcases Kd.S_base2 hSx with h | ⟨q, h1, h2⟩
      · simp [Value.ownBlock] at h
      · have : g x = q := by simpa [Value.ownBlock] using h1
        omega
    rw [hd]
    refine skip_ hw hd (run_store_letter ho (eval_of (hI.ix x hx (dep_up hL hdp))) (eval_of ev) info22' rfl rfl hu hf) ?_
    have hsame : ∀ q, q ≠ g x → (w.setCell ⟨g x, i, none⟩ (.slice Av (List.replicate k (0 : Int)).length cv)).heap[q]? = w.heap[q]? := fun q hq => Below.heap_setCell w _ _ q hq
    have hszc : (w.setCell ⟨g x, i, none⟩ (.slice Av (List.replicate k (0 : Int)).length cv)).heap.size = w.heap.size := by simp [World.setCell]
    refine hK _ _ ⟨hI.tsz, hI.dfr, hI.oth, below_set3 hI.bel hsg, by rw [hszc]; exact hI.bsz, fun y hy hl => hI.mg y hy (L_or hl (by omega)), fun y hy hl => hI.mi y hy (L_or hl (by omega)), fun y hy hl => hI.mk' y hy (L_or hl (by omega)), fun y hy hl => hI.ix y hy (L_or hl (by omega)),
      ⟨fun y q => if y = x then (ok x q ∨ okr x q) else ok y q, fun y q => if y = x then False else okr y q, ?_, ?_, ?_, ?_, ?_, fun y hy => ?_, fun y hy hl hl2 => ?_⟩⟩
    · intro y z q hy hz hyz h1 h2
      by_cases ey : y = x
      · rw [if_pos ey] at h1; rw [if_neg (by omega)] at h2
        rcases h1 with h1 | h1
        · exact d1 x z q hx hz (by omega) h1 h2
        · exact d2 z x q hz hx h2 h1
      · rw [if_neg ey] at h1
        by_cases ez : z = x
        · rw [if_pos ez] at h2
          rcases h2 with h2 | h2
          · exact d1 y x q hy hx ey h1 h2
          · exact d2 y x q hy hx h1 h2
        · rw [if_neg ez] at h2; exact d1 y z q hy hz hyz h1 h2
    · intro y z q hy hz h1 h2
      by_cases ez : z = x
      · rw [if_pos ez] at h2; exact h2
      · rw [if_neg ez] at h2
        by_cases ey : y = x
        · rw [if_pos ey] at h1
          rcases h1 with h1 | h1
          · exact d2 x z q hx hz h1 h2
          · exact d3 x z q hx hz (fun e => ez e.symm) h1 h2
        · rw [if_neg ey] at h1; exact d2 y z q hy hz h1 h2
    · intro y z q hy hz hyz h1 h2
      by_cases ey : y = x
      · rw [if_pos ey] at h1; exact h1
      · rw [if_neg ey] at h1
        by_cases ez : z = x
        · rw [if_pos ez] at h2; exact h2
        · rw [if_neg ez] at h2; exact d3 y z q hy hz hyz h1 h2
    · intro y q hy h
      rw [hszc]
      by_cases ey : y = x
      · rw [if_pos ey] at h
        rcases h with h | h
        · exact b1 x q hx h
        · exact b2 x q hx h
      · rw [if_neg ey] at h; exact b1 y q hy h
    · intro y q hy h
      rw [hszc]
      by_cases ey : y = x
      · rw [if_pos ey] at h; exact h.elim
      · rw [if_neg ey] at h; exact b2 y q hy h
    · by_cases e : y = x
      · subst e
        rw [if_pos (by simp)]
        exact Kd.S_mono hput (fun q hq => by dsimp only; rw [if_pos rfl]; exact hq)
      · rw [Lp_ne (by omega)]
        exact Kd.S_mono (Kd.S_move (hS y hy) (fun q hq => hsame q (fun e2 => d1 y x q hy hx e hq (by rw [e2]; exact hgx)))) (fun q hq => by dsimp only; rw [if_neg e]; exact hq)
    · have e : y ≠ x := fun e => by subst e; simp at hl2
      rw [Lp_ne (by omega)] at hl2
      obtain ⟨v', e1, e2⟩ := hR y hy (L_or hl (by omega)) hl2
      refine ⟨v', e1, ?_⟩
      exact Kd.R_mono (Kd.R_move e2 (fun q hq => hsame q (fun e3 => d2 x y q hx hy (by rw [e3]; exact hgx) hq))) (fun q hq => by dsimp only; rw [if_neg e]; exact hq)
end
/-- Region 18 is walked. -/
theorem region18 {s k i : Nat} {g c : Nat → Nat} {C : Nat → List (List Int)} {a0 : Act} {w0 : World} (hk : k ≤ 100) (hik : i < k) (hCl : ∀ x, x < 3 → (C x).length = k) (hg : ∀ x, x < 3 → a0.tmps[13 + x]? = some (.slice (some ⟨g x, 0, none⟩) k (c x))) (h16 : a0.tmps[16]? = some (.int .i64 (i : Int))) (h7 : a0.tmps[7]? = some (.int .i64 (k : Int)))
    (hsz : 104 < a0.tmps.size) (hs : s ≤ w0.heap.size) (ok : Nat → Nat → Prop) (d1 : ∀ x y q, x < 3 → y < 3 → x ≠ y → ok x q → ok y q → False) (b1 : ∀ x q, x < 3 → ok x q → q < w0.heap.size) (hS : ∀ x, x < 3 → Kd.S Gd 22 w0 s (ok x) (.slice (some ⟨g x, 0, none⟩) k (c x)) (C x))
    {Q : Exit → Act → World → Prop}
    (hend : ∀ (a : Act) (w : World) (ok' : Nat → Nat → Prop), a.tmps.size = a0.tmps.size → a.defers = a0.defers → (∀ t, ¬ (90 ≤ t ∧ t ≤ 104) → a.tmps[t]? = a0.tmps[t]?) → Below s w0 w → (∀ x y q, x < 3 → y < 3 → x ≠ y → ok' x q → ok' y q → False) → (∀ x q, x < 3 → ok' x q → q < w.heap.size) →
      (∀ x, x < 3 → Kd.S Gd 22 w s (ok' x) (.slice (some ⟨g x, 0, none⟩) k (c x)) ((C x).set i (List.replicate k 0))) → Q .normal a w) :
    (Code.region 18 ops18 true).wp Try.prog Q a0 w0 := by
  refine inv_region (n := 18) (Inv := I18 s k i g c C a0 w0) (by kernel_rfl) ops18_size (fun j o ho => by rw [← op18_eq ho]; exact op18_back (op18_lt ho)) ?_ (fun j o ho L a w hI hLj hL K hK => ?_) (fun L a w hI hall => ?_)
  · exact ⟨rfl, rfl, fun _ _ => rfl, Below.drew (Below.refl _ _), hs, fun x hx h => (by cases h), fun x hx h => (by cases h), fun x hx h => (by cases h), fun x hx h => (by cases h),
      ⟨ok, fun _ _ => False, d1, fun _ _ _ _ _ _ h => h, fun _ _ _ _ _ _ h _ => h, b1, fun _ _ _ h => h.elim, fun x hx => (by rw [if_neg (by decide)]; exact Kd.S_drew (hS x hx)), fun x hx h => (by cases h)⟩⟩
  · have hj := op18_lt ho
    have e := op18_eq ho
    subst e
    exact step18 hk hik hCl hg h16 h7 hsz j hj hI hLj hL Q K hK
  · obtain ⟨ok', okr, d1', d2, d3, b1', b2, hS', hR⟩ := hI.heap
    refine hend a w ok' hI.tsz hI.dfr hI.oth hI.bel d1' b1' (fun x hx => ?_)
    have h := hS' x hx
    rw [if_pos (hall _ (by omega))] at h
    exact h
end Go.Proofs.Ytgnkpahnhhmceaa.Core
