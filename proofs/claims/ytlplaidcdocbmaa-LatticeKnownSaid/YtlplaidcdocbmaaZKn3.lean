-- Cut by pack.py, a program of this session; not trusted: Lean checks it.
import Derived.Deep.Draws
import Derived.Tactics
import Derived.Tactics2
import Derived.OwnWalk
import Derived.Outline
import Derived.Lib.Walk
import Derived.Test.YtlplaidcdocbmaaZKn2
/- LatticeKnown's walk. -/
namespace Go.Proofs.Ytlplaidcdocbmaa.Kn
open Go.RowKit Go.Proofs.YtlplaidcdocbmaaW.PrintWords Go.Proofs.YtlplaidcdocbmaaW.PrintLast Go.Proofs.YtlplaidcdocbmaaW.PrintMore Go.Proofs.Ytlplaidcdocbmaa.PLatticeKnown
set_option linter.unusedVariables false
set_option linter.unusedSimpArgs false
theorem within_f (a n : Int) (hn : 0 < n) (h2 : n ≤ 4611686018427387904) : ∃ z : Nat, hypercubelaw8_within.f a n = some (z : Int) ∧ (z : Int) < n := by
  have h1 := Int.tmod_lt_of_pos a hn
  have h3 := Int.tmod_lt_of_pos (-a) hn
  rw [Int.neg_tmod] at h3
  have key : ∃ z : Int, hypercubelaw8_within.f a n = some z ∧ 0 ≤ z ∧ z < n := by
    unfold hypercubelaw8_within.f
    rw [if_neg (by omega)]
    by_cases h : Int.tmod a n < 0
    · refine ⟨Int.tmod a n + n, ?_, by omega, by omega⟩
      rw [if_pos h]
      congr 1
      unfold wrap64
      omega
    · refine ⟨Int.tmod a n, ?_, by omega, by omega⟩
      rw [if_neg h]
  obtain ⟨z, h, h0, hz⟩ := key
  obtain ⟨m, rfl⟩ := Int.eq_ofNat_of_zero_le h0
  exact ⟨m, h, hz⟩

theorem C_lit (w : World) (l : List Int) (hl : l.length ≤ 100) : Kd.C (Kd.int .i64) (w.alloc (.cells (l.map (Value.int .i64)).toArray 3)) (some ⟨w.heap.size, 0, none⟩) l.length l := by
  refine Kd.C_of_reads (d := (0 : Int)) (h1 := fun _ => rfl) ⟨rfl, by omega, fun hp => ⟨_, rfl, fun j hj => ?_⟩⟩
  have h1 : (w.alloc (.cells (l.map (Value.int .i64)).toArray 3)).heap[w.heap.size]? = some (.cells (l.map (Value.int .i64)).toArray 3 (0, 0)) := World.alloc_heap_new w _
  rw [add_plain]
  unfold World.cell?
  dsimp only
  rw [h1]
  simp [hj]
theorem box_at (w : World) (X : Obj) (cs : Array Value) (j : Nat) : ((w.alloc X).alloc (.cells cs 33 (0, 0))).cell? ⟨w.heap.size + 1, j, none⟩ = cs[j]? := by
  have h1 : ((w.alloc X).alloc (.cells cs 33 (0, 0))).heap[w.heap.size + 1]? = some (.cells cs 33 (0, 0)) := by
    have h := World.alloc_heap_new (w.alloc X) (.cells cs 33 (0, 0))
    have e : (w.alloc X).heap.size = w.heap.size + 1 := by simp
    rwa [e] at h
  unfold World.cell?
  dsimp only
  rw [h1]
  simp
theorem known_true : hypercubelaw8_known.f = some true := by decide +kernel
set_option maxRecDepth 100000 in
theorem list65 (l : List Value) (h : l.length = 65) : ∃ x0 x1 x2 x3 x4 x5 x6 x7 x8 x9 x10 x11 x12 x13 x14 x15 x16 x17 x18 x19 x20 x21 x22 x23 x24 x25 x26 x27 x28 x29 x30 x31 x32 x33 x34 x35 x36 x37 x38 x39 x40 x41 x42 x43 x44 x45 x46 x47 x48 x49 x50 x51 x52 x53 x54 x55 x56 x57 x58 x59 x60 x61 x62 x63 x64 : Value, l = [x0, x1, x2, x3, x4, x5, x6, x7, x8, x9, x10, x11, x12, x13, x14, x15, x16, x17, x18, x19, x20, x21, x22, x23, x24, x25, x26, x27, x28, x29, x30, x31, x32, x33, x34, x35, x36, x37, x38, x39, x40, x41, x42, x43, x44, x45, x46, x47, x48, x49, x50, x51, x52, x53, x54, x55, x56, x57, x58, x59, x60, x61, x62, x63, x64] := by
  rcases l with _ | ⟨x0, l⟩
  · simp at h
  rcases l with _ | ⟨x1, l⟩
  · simp at h
  rcases l with _ | ⟨x2, l⟩
  · simp at h
  rcases l with _ | ⟨x3, l⟩
  · simp at h
  rcases l with _ | ⟨x4, l⟩
  · simp at h
  rcases l with _ | ⟨x5, l⟩
  · simp at h
  rcases l with _ | ⟨x6, l⟩
  · simp at h
  rcases l with _ | ⟨x7, l⟩
  · simp at h
  rcases l with _ | ⟨x8, l⟩
  · simp at h
  rcases l with _ | ⟨x9, l⟩
  · simp at h
  rcases l with _ | ⟨x10, l⟩
  · simp at h
  rcases l with _ | ⟨x11, l⟩
  · simp at h
  rcases l with _ | ⟨x12, l⟩
  · simp at h
  rcases l with _ | ⟨x13, l⟩
  · simp at h
  rcases l with _ | ⟨x14, l⟩
  · simp at h
  rcases l with _ | ⟨x15, l⟩
  · simp at h
  rcases l with _ | ⟨x16, l⟩
  · simp at h
  rcases l with _ | ⟨x17, l⟩
  · simp at h
  rcases l with _ | ⟨x18, l⟩
  · simp at h
  rcases l with _ | ⟨x19, l⟩
  · simp at h
  rcases l with _ | ⟨x20, l⟩
  · simp at h
  rcases l with _ | ⟨x21, l⟩
  · simp at h
  rcases l with _ | ⟨x22, l⟩
  · simp at h
  rcases l with _ | ⟨x23, l⟩
  · simp at h
  rcases l with _ | ⟨x24, l⟩
  · simp at h
  rcases l with _ | ⟨x25, l⟩
  · simp at h
  rcases l with _ | ⟨x26, l⟩
  · simp at h
  rcases l with _ | ⟨x27, l⟩
  · simp at h
  rcases l with _ | ⟨x28, l⟩
  · simp at h
  rcases l with _ | ⟨x29, l⟩
  · simp at h
  rcases l with _ | ⟨x30, l⟩
  · simp at h
  rcases l with _ | ⟨x31, l⟩
  · simp at h
  rcases l with _ | ⟨x32, l⟩
  · simp at h
  rcases l with _ | ⟨x33, l⟩
  · simp at h
  rcases l with _ | ⟨x34, l⟩
  · simp at h
  rcases l with _ | ⟨x35, l⟩
  · simp at h
  rcases l with _ | ⟨x36, l⟩
  · simp at h
  rcases l with _ | ⟨x37, l⟩
  · simp at h
  rcases l with _ | ⟨x38, l⟩
  · simp at h
  rcases l with _ | ⟨x39, l⟩
  · simp at h
  rcases l with _ | ⟨x40, l⟩
  · simp at h
  rcases l with _ | ⟨x41, l⟩
  · simp at h
  rcases l with _ | ⟨x42, l⟩
  · simp at h
  rcases l with _ | ⟨x43, l⟩
  · simp at h
  rcases l with _ | ⟨x44, l⟩
  · simp at h
  rcases l with _ | ⟨x45, l⟩
  · simp at h
  rcases l with _ | ⟨x46, l⟩
  · simp at h
  rcases l with _ | ⟨x47, l⟩
  · simp at h
  rcases l with _ | ⟨x48, l⟩
  · simp at h
  rcases l with _ | ⟨x49, l⟩
  · simp at h
  rcases l with _ | ⟨x50, l⟩
  · simp at h
  rcases l with _ | ⟨x51, l⟩
  · simp at h
  rcases l with _ | ⟨x52, l⟩
  · simp at h
  rcases l with _ | ⟨x53, l⟩
  · simp at h
  rcases l with _ | ⟨x54, l⟩
  · simp at h
  rcases l with _ | ⟨x55, l⟩
  · simp at h
  rcases l with _ | ⟨x56, l⟩
  · simp at h
  rcases l with _ | ⟨x57, l⟩
  · simp at h
  rcases l with _ | ⟨x58, l⟩
  · simp at h
  rcases l with _ | ⟨x59, l⟩
  · simp at h
  rcases l with _ | ⟨x60, l⟩
  · simp at h
  rcases l with _ | ⟨x61, l⟩
  · simp at h
  rcases l with _ | ⟨x62, l⟩
  · simp at h
  rcases l with _ | ⟨x63, l⟩
  · simp at h
  rcases l with _ | ⟨x64, l⟩
  · simp at h
  rcases l with _ | ⟨y, l⟩
  · exact ⟨x0, x1, x2, x3, x4, x5, x6, x7, x8, x9, x10, x11, x12, x13, x14, x15, x16, x17, x18, x19, x20, x21, x22, x23, x24, x25, x26, x27, x28, x29, x30, x31, x32, x33, x34, x35, x36, x37, x38, x39, x40, x41, x42, x43, x44, x45, x46, x47, x48, x49, x50, x51, x52, x53, x54, x55, x56, x57, x58, x59, x60, x61, x62, x63, x64, rfl⟩
  · simp at h
theorem op_eq {i : Nat} {o : Oper} (ho : opsK[i]? = some o) : op i = o := by
  unfold op
  rw [Array.getD_eq_getD_getElem?, ho]; rfl
theorem opsK_size : opsK.size = 50 := by kernel_rfl
theorem op_lt {i : Nat} {o : Oper} (ho : opsK[i]? = some o) : i < 50 := by
  rw [← opsK_size]
  rcases Nat.lt_or_ge i opsK.size with h | h
  · exact h
  · rw [Array.getElem?_eq_none h] at ho; cases ho
theorem op_chk : ((List.range 50).all fun i => (op i).dst == some (D i) && (op i).after.all (fun e => !Region.binds .any e || decide (e.on < i))) = true := by kernel_rfl
theorem op_dst {i : Nat} (hi : i < 50) : (op i).dst = some (D i) := by
  have h := List.all_eq_true.1 op_chk i (List.mem_range.2 hi)
  rw [Bool.and_eq_true] at h
  exact beq_iff_eq.1 h.1
theorem op_back {i : Nat} (hi : i < 50) : ∀ e ∈ (op i).after, Region.binds .any e = true → e.on < i := by
  have h := List.all_eq_true.1 op_chk i (List.mem_range.2 hi)
  rw [Bool.and_eq_true] at h
  intro e he hb
  have h2 := (Array.all_eq_true_iff_forall_mem.1 h.2) e he
  rw [hb] at h2
  simpa using h2
theorem D_ne (j : Nat) (hj : j < 50) : D j ≠ 3 ∧ D j ≠ 0 ∧ D j ≠ 2 ∧ D j < 65 := by
  unfold D
  split <;> omega
set_option maxRecDepth 100000 in
theorem region4 {Q : Exit → Act → World → Prop} {a0 : Act} {w0 : World} {gb : Nat} {A : Option Addr} {c : Nat} (hb : Bx gb A c a0 w0) (hsz : a0.tmps.size = 65)
    (hend : ∀ a w, Below w0.heap.size w0 w → a.defers = a0.defers → a.tmps.size = 65 → (∀ t, (∀ j, j < 50 → D j ≠ t) → a.tmps[t]? = a0.tmps[t]?) → (∃ v, a.tmps[4]? = some v ∧ isBs v w) → Q .normal a w) :
    (Code.region 4 opsK true).wp Try.prog Q a0 w0 := by
  refine Mono.mono_region (n := 50) (D := D) (R := fun x y => Below x.heap.size x y) (V := V) (by kernel_rfl) opsK_size (Below.drew (Below.refl _ _)) (fun x y z h1 h2 => h1.trans (h2.mono h1.size)) (fun i v w w' h => kept_V i v w w' h)
    (fun i o ho => by rw [← op_eq ho]; exact op_dst (op_lt ho)) (fun i j hi hj h => by unfold D at h; split at h <;> split at h <;> omega) (fun i hi => by rw [hsz]; exact (D_ne i hi).2.2.2)
    (fun i o ho => by rw [← op_eq ho]; exact op_back (op_lt ho)) ?_ ?_
  · intro i o ho a w hr hoth hval K hK
    have hi := op_lt ho
    have e := op_eq ho
    subst e
    refine steps i hi Q a w K (fun j hj => ?_) ⟨?_, pw_cell_below hr hb.c0, pw_cell_below hr hb.c1, hb.cap, Kd.C_below hb.row hr⟩ hK
    · unfold dep at hj
      obtain ⟨k, hk, h2⟩ := Array.any_eq_true.1 hj
      rw [Bool.and_eq_true, beq_iff_eq] at h2
      have := hval _ (Array.getElem_mem hk) h2.2
      rw [h2.1] at this
      exact this
    · rw [hoth 3 (fun j hj => (D_ne j hj).1)]; exact hb.ptr
  · intro a w hr hd hs hoth hv
    exact hend a w hr hd (hs.trans hsz) hoth (hv 49 (by omega))
set_option maxRecDepth 100000 in
set_option maxHeartbeats 4000000 in
theorem known_walk (a0 : Int) (w : World) : Calls Try.prog 15 #[.int .i64 a0] w fun e w' => e = .returned (.bool true) ∧ Below w.heap.size w w' := by
  go_enter Try.func15, Try.ntmps15
  go_wp2_with fail
  (with_reducible refine (hypercubelaw8_known.calls true _ known_true).mono ?_)
  rintro e w0 ⟨rfl, hb0⟩
  have HB0 := Aside0.mk hb0
  clear hb0
  go_wp2_with fail
  refine region4 (gb := w0.heap.size + 1) (A := some ⟨w0.heap.size, 0, none⟩) (c := 4) ⟨rfl, ?_, ?_, Nat.le_refl _, ?_⟩ rfl ?_
  · exact box_at _ _ _ 0
  · exact box_at _ _ _ 1
  · exact Kd.C_alloc (C_lit w0 cs4 (by decide)) _
  · intro a w1 hr hd hs hoth hv
    have HR := Aside0.mk (show Below w.heap.size w w1 from (HB0.out.alloc HB0.out.size _ |>.alloc (Nat.le_trans HB0.out.size (by simp)) _).trans (hr.mono (Nat.le_trans HB0.out.size (by simp; omega))))
    clear hr
    obtain ⟨T, df⟩ := a
    obtain ⟨l⟩ := T
    dsimp only at hd hs hoth hv
    obtain ⟨x0, x1, x2, x3, x4, x5, x6, x7, x8, x9, x10, x11, x12, x13, x14, x15, x16, x17, x18, x19, x20, x21, x22, x23, x24, x25, x26, x27, x28, x29, x30, x31, x32, x33, x34, x35, x36, x37, x38, x39, x40, x41, x42, x43, x44, x45, x46, x47, x48, x49, x50, x51, x52, x53, x54, x55, x56, x57, x58, x59, x60, x61, x62, x63, x64, rfl⟩ := list65 l (by simpa using hs)
    obtain ⟨v, h4, A, c, rfl, hc, hC⟩ := hv
    have e0 := hoth 0 (fun j hj => (D_ne j hj).2.1)
    simp only [List.getElem?_toArray, List.getElem?_cons_zero, List.getElem?_cons_succ, Option.some.injEq] at e0 h4
    clear hoth hs
    subst e0 h4 hd
    obtain ⟨z, hz, hzl⟩ := within_f a0 11 (by decide) (by decide)
    obtain ⟨ad, ea, hx⟩ := Kd.at_bool hC (z : Int) (by omega) (by omega)
    subst ea
    have hxe : rdOf false (List.replicate 11 true) (z : Int) = true := by
      unfold rdOf
      rw [Int.toNat_natCast, List.getD_eq_getElem?_getD, List.getElem?_replicate, if_pos (by omega)]
      rfl
    rw [Int.toNat_natCast] at hx
    try rw [hxe] at hx
    have qz : ((z : Int) < 11) = True := eq_true hzl
    have qz' : (z < 11) = True := eq_true (by omega)
    go_wp2_with fail
    (with_reducible refine (hypercubelaw8_within.calls a0 11 _ _ hz).mono ?_)
    rintro e w2 ⟨rfl, hb2⟩
    have HR2 := Aside0.mk (HR.out.trans (hb2.below.mono HR.out.size))
    have hx2 : w2.cell? (ad.add z) = some (Value.bool true) := pw_cell_below hb2.below hx
    clear hx hb2 hC
    go_wp2_with fail
    go_ret
    exact ⟨rfl, HR2.out⟩
end Go.Proofs.Ytlplaidcdocbmaa.Kn
