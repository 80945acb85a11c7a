-- Cut by pack.py, a program of this session; not trusted: Lean checks it.
import Derived.Test.YtlplaidcdocbmaaZMono
import Derived.Test.YtlplaidcdocbmaaZPLatticeKnownx2
/- LatticeKnown: the operations of its great region, kind by kind. -/
namespace Go.Proofs.Ytlplaidcdocbmaa.Kn
open Go.RowKit Go.Proofs.YtlplaidcdocbmaaW.PrintWords Go.Proofs.YtlplaidcdocbmaaW.PrintLast Go.Proofs.YtlplaidcdocbmaaW.PrintMore Go.Proofs.Ytlplaidcdocbmaa.PLatticeKnown
set_option linter.unusedVariables false
set_option linter.unusedSimpArgs false
def cs4 : List Int := [2, 3, 16, 5]
def isRow (l : List Int) (v : Value) (w : World) : Prop := ∃ A c, v = .slice A l.length c ∧ l.length ≤ c ∧ Kd.C (Kd.int .i64) w A l.length l
def isV (u : Value) (v : Value) (w : World) : Prop := v = u
def isSch (v : Value) (w : World) : Prop := ∃ A c, v = .agg #[.slice A 4 c, .int .i64 0] ∧ 4 ≤ c ∧ Kd.C (Kd.int .i64) w A 4 cs4
def isBs (v : Value) (w : World) : Prop := ∃ A c, v = .slice A 11 c ∧ 11 ≤ c ∧ Kd.C Kd.bool w A 11 (List.replicate 11 true)
def Kept (F : Value → World → Prop) : Prop := ∀ v w w', Below w.heap.size w w' → F v w → F v w'
theorem kRow (l : List Int) : Kept (isRow l) := fun v w w' hb ⟨A, c, h1, h2, h3⟩ => ⟨A, c, h1, h2, Kd.C_below h3 hb⟩
theorem kV (u : Value) : Kept (isV u) := fun v w w' hb h => h
theorem kSch : Kept isSch := fun v w w' hb ⟨A, c, h1, h2, h3⟩ => ⟨A, c, h1, h2, Kd.C_below h3 hb⟩
theorem kBs : Kept isBs := fun v w w' hb ⟨A, c, h1, h2, h3⟩ => ⟨A, c, h1, h2, Kd.C_below h3 hb⟩
theorem row_of {w : World} {base : Nat} {ok : Nat → Prop} {v : Value} {l : List Int} (h : Kd.R (Kd.int .i64) 3 w base ok v l) : isRow l v w := by
  obtain ⟨A, c, rfl⟩ := Kd.R_slice h
  have h2 := Kd.R_reads' h
  exact ⟨A, c, rfl, h2.2.1, h2.2.2⟩
theorem eval_of {a : Act} {t : Nat} {v : Value} (h : a.tmps[t]? = some v) : a.eval (.tmp t) = v := by
  simp [Act.eval, Array.getD_eq_getD_getElem?, h]
section
variable {ops : Array Oper} {Q : Exit → Act → World → Prop} {o : Oper} {a : Act} {w : World} {K : Act → World → Prop} {N : Nat}
theorem go_sets (hN : o.dst = some N) (hw : Region.wanted o (yielded ops a.tmps) = true) (d : Int) (h0 : 0 ≤ d) (h4 : d ≤ 4) (l : List Int) (hl : Core.setsI d = l)
    (hop : o.op = .call { callee := .value (.func 29), args := #[.const (.int .i64 d)], argTypes := #[3] }) (hK : ∀ v w', isRow l v w' → Below w.heap.size w w' → K (a.put o.dst v) w') :
    if Region.wanted o (yielded ops a.tmps) = true then Oper.wp Try.prog o a w K Q else K (a.put o.dst undef) w := by
  rw [hN] at hK ⊢
  refine goes_ Try.func29 (by kernel_rfl) rfl #[.int .i64 d] hw hN hop (by simp [Act.eval]) ?_
  refine (Core.sets_R d h0 h4 w).mono ?_
  rintro e w' ⟨v, rfl, hr, hb⟩
  rw [hl] at hr
  exact ⟨v, rfl, hK v w' (row_of hr) hb⟩
theorem go_pars (hN : o.dst = some N) (hw : Region.wanted o (yielded ops a.tmps) = true) (s d : Int) (h0 : 0 ≤ s) (h16 : s < 16) (h1 : 0 ≤ d) (h4 : d ≤ 4) (l : List Int) (hl : Core.parI s d = l)
    (hop : o.op = .call { callee := .value (.func 30), args := #[.const (.int .i64 s), .const (.int .i64 d)], argTypes := #[3, 3] }) (hK : ∀ v w', isRow l v w' → Below w.heap.size w w' → K (a.put o.dst v) w') :
    if Region.wanted o (yielded ops a.tmps) = true then Oper.wp Try.prog o a w K Q else K (a.put o.dst undef) w := by
  rw [hN] at hK ⊢
  refine goes_ Try.func30 (by kernel_rfl) rfl #[.int .i64 s, .int .i64 d] hw hN hop (by simp [Act.eval]) ?_
  refine (Core.parents_R s d h0 h16 h1 h4 w).mono ?_
  rintro e w' ⟨v, rfl, hr, hb⟩
  rw [hl] at hr
  exact ⟨v, rfl, hK v w' (row_of hr) hb⟩
theorem go_ints (hN : o.dst = some N) (hw : Region.wanted o (yielded ops a.tmps) = true) (t1 t2 : Nat) (v1 v2 : Value) (l : List Int) (k : Nat) (hl : hypercuberef1_Ints.f k l l = some true)
    (hop : o.op = .call { callee := .value (.func 33), args := #[.tmp t1, .tmp t2], argTypes := #[24, 24] }) (e1 : a.tmps[t1]? = some v1) (e2 : a.tmps[t2]? = some v2) (r1 : isRow l v1 w) (r2 : isRow l v2 w)
    (hK : ∀ v w', isV (.bool true) v w' → Below w.heap.size w w' → K (a.put o.dst v) w') :
    if Region.wanted o (yielded ops a.tmps) = true then Oper.wp Try.prog o a w K Q else K (a.put o.dst undef) w := by
  rw [hN] at hK ⊢
  obtain ⟨A1, c1, rfl, g1, h1⟩ := r1
  obtain ⟨A2, c2, rfl, g2, h2⟩ := r2
  refine goes_ Try.func33 (by kernel_rfl) rfl #[.slice A1 l.length c1, .slice A2 l.length c2] hw hN hop (by simp [eval_of e1, eval_of e2]) ?_
  refine (hypercuberef1_Ints.calls k A1 c1 l A2 c2 l true w h1 g1 h2 g2 hl).mono ?_
  rintro e w' ⟨rfl, hb⟩
  exact ⟨_, rfl, hK _ w' rfl (by first | exact hb | exact hb.below)⟩
theorem go_size (hN : o.dst = some N) (hw : Region.wanted o (yielded ops a.tmps) = true) (t1 : Nat) (v1 : Value) (n s r : Int) (hl : lattice_Size.f cs4 0 n s = some r)
    (hop : o.op = .call { callee := .value (.func 34), args := #[.tmp t1, .const (.int .i64 n), .const (.int .i64 s)], argTypes := #[33, 3, 3] }) (e1 : a.tmps[t1]? = some v1) (r1 : isSch v1 w)
    (hK : ∀ v w', isV (.int .i64 r) v w' → Below w.heap.size w w' → K (a.put o.dst v) w') :
    if Region.wanted o (yielded ops a.tmps) = true then Oper.wp Try.prog o a w K Q else K (a.put o.dst undef) w := by
  rw [hN] at hK ⊢
  obtain ⟨A1, c1, rfl, g1, h1⟩ := r1
  refine goes_ Try.func34 (by kernel_rfl) rfl #[.agg #[.slice A1 cs4.length c1, .int .i64 0], .int .i64 n, .int .i64 s] hw hN hop (by simp [eval_of e1]; exact ⟨rfl, rfl, rfl⟩) ?_
  refine (lattice_Size.calls A1 c1 cs4 0 n s r w h1 g1 hl).mono ?_
  rintro e w' ⟨rfl, hb⟩
  exact ⟨_, rfl, hK _ w' rfl hb⟩
theorem go_scan (hN : o.dst = some N) (hw : Region.wanted o (yielded ops a.tmps) = true) (t1 : Nat) (v1 : Value) (n s r : Int) (hl : lattice_Scan.f cs4 0 n s = some r)
    (hop : o.op = .call { callee := .value (.func 47), args := #[.tmp t1, .const (.int .i64 n), .const (.int .i64 s)], argTypes := #[33, 3, 3] }) (e1 : a.tmps[t1]? = some v1) (r1 : isSch v1 w)
    (hK : ∀ v w', isV (.int .i64 r) v w' → Below w.heap.size w w' → K (a.put o.dst v) w') :
    if Region.wanted o (yielded ops a.tmps) = true then Oper.wp Try.prog o a w K Q else K (a.put o.dst undef) w := by
  rw [hN] at hK ⊢
  obtain ⟨A1, c1, rfl, g1, h1⟩ := r1
  refine goes_ Try.func47 (by kernel_rfl) rfl #[.agg #[.slice A1 cs4.length c1, .int .i64 0], .int .i64 n, .int .i64 s] hw hN hop (by simp [eval_of e1]; exact ⟨rfl, rfl, rfl⟩) ?_
  refine (lattice_Scan.calls A1 c1 cs4 0 n s r w h1 g1 hl).mono ?_
  rintro e w' ⟨rfl, hb⟩
  exact ⟨_, rfl, hK _ w' rfl hb⟩
theorem go_sort (hN : o.dst = some N) (hw : Region.wanted o (yielded ops a.tmps) = true) (t1 : Nat) (v1 : Value) (n s r : Int) (k : Nat) (hl : lattice_Sort.f k cs4 0 n s = some r)
    (hop : o.op = .call { callee := .value (.func 49), args := #[.tmp t1, .const (.int .i64 n), .const (.int .i64 s)], argTypes := #[33, 3, 3] }) (e1 : a.tmps[t1]? = some v1) (r1 : isSch v1 w)
    (hK : ∀ v w', isV (.int .i64 r) v w' → Below w.heap.size w w' → K (a.put o.dst v) w') :
    if Region.wanted o (yielded ops a.tmps) = true then Oper.wp Try.prog o a w K Q else K (a.put o.dst undef) w := by
  rw [hN] at hK ⊢
  obtain ⟨A1, c1, rfl, g1, h1⟩ := r1
  refine goes_ Try.func49 (by kernel_rfl) rfl #[.agg #[.slice A1 cs4.length c1, .int .i64 0], .int .i64 n, .int .i64 s] hw hN hop (by simp [eval_of e1]; exact ⟨rfl, rfl, rfl⟩) ?_
  refine (lattice_Sort.calls k A1 c1 cs4 0 n s r w h1 g1 hl).mono ?_
  rintro e w' ⟨rfl, hb⟩
  exact ⟨_, rfl, hK _ w' rfl hb⟩
theorem go_val (hN : o.dst = some N) (hw : Region.wanted o (yielded ops a.tmps) = true) (u : Value) (hrun : (execOp a.eval o).run Try.prog w = .ok (.value u) w) (F : Value → World → Prop) (hF : F u w)
    (hK : ∀ v w', F v w' → Below w.heap.size w w' → K (a.put o.dst v) w') :
    if Region.wanted o (yielded ops a.tmps) = true then Oper.wp Try.prog o a w K Q else K (a.put o.dst undef) w :=
  event_step hw hrun (hK u w hF (Below.refl _ _))
theorem go_lit (hN : o.dst = some N) (hw : Region.wanted o (yielded ops a.tmps) = true) (l : List Int) (hm : l.length ≤ 100)
    (hrun : (execOp a.eval o).run Try.prog w = .ok (.value (.slice (some ⟨w.heap.size, 0, none⟩) l.length l.length)) (w.alloc (.cells (l.map (Value.int .i64)).toArray 3)))
    (hK : ∀ v w', isRow l v w' → Below w.heap.size w w' → K (a.put o.dst v) w') :
    if Region.wanted o (yielded ops a.tmps) = true then Oper.wp Try.prog o a w K Q else K (a.put o.dst undef) w := by
  refine event_step hw hrun (hK _ _ ⟨some ⟨w.heap.size, 0, none⟩, l.length, rfl, Nat.le_refl _, ?_⟩ ((Below.refl _ w).alloc (Nat.le_refl _) _))
  refine Kd.C_of_reads (d := (0 : Int)) (h1 := fun _ => rfl) ⟨rfl, by omega, fun hp => ⟨_, rfl, fun j hj => ?_⟩⟩
  have h1 : (w.alloc (.cells (l.map (Value.int .i64)).toArray 3)).heap[w.heap.size]? = some (.cells (l.map (Value.int .i64)).toArray 3 (0, 0)) := World.alloc_heap_new w _
  rw [add_plain]
  unfold World.cell?
  dsimp only
  rw [h1]
  simp [hj]
theorem go_litB (hN : o.dst = some N) (hw : Region.wanted o (yielded ops a.tmps) = true)
    (hrun : (execOp a.eval o).run Try.prog w = .ok (.value (.slice (some ⟨w.heap.size, 0, none⟩) 11 11)) (w.alloc (.cells (Array.replicate 11 (.bool true)) 4)))
    (hK : ∀ v w', isBs v w' → Below w.heap.size w w' → K (a.put o.dst v) w') :
    if Region.wanted o (yielded ops a.tmps) = true then Oper.wp Try.prog o a w K Q else K (a.put o.dst undef) w := by
  refine event_step hw hrun (hK _ _ ⟨some ⟨w.heap.size, 0, none⟩, 11, rfl, Nat.le_refl _, ?_⟩ ((Below.refl _ w).alloc (Nat.le_refl _) _))
  refine Kd.C_of_reads (d := true) (h1 := fun _ => rfl) ⟨rfl, by omega, fun hp => ⟨_, rfl, fun j hj => ?_⟩⟩
  have h1 : (w.alloc (.cells (Array.replicate 11 (.bool true)) 4)).heap[w.heap.size]? = some (.cells (Array.replicate 11 (.bool true)) 4 (0, 0)) := World.alloc_heap_new w _
  rw [add_plain]
  unfold World.cell?
  dsimp only
  rw [h1]
  simp only [List.size_toArray, Array.size_replicate, List.length_replicate] at *
  rw [Array.getElem?_replicate, if_pos hj, List.getD_eq_getElem?_getD, List.getElem?_replicate, if_pos hj]
  rfl
end
end Go.Proofs.Ytlplaidcdocbmaa.Kn
