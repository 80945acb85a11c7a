-- Cut by pack.py, a program of this session; not trusted: Lean checks it.
import Derived.Deep.Draws
import Derived.Tactics
import Derived.OwnWalk
import Derived.Outline
import Derived.Lib.Walk
import Derived.Lib.SliceRun
import Derived.Lib.QuietBelow
import Derived.Test.YtlplaidcdocbmaaZS2
/- sorts: the first of the least, by a method's value. -/
namespace Go.Proofs.Ytlplaidcdocbmaa.Srt
open Go.RowKit Go.Shelf Go.Sort Go.Proofs.Ytlplaidcdocbmaa.Core
set_option linter.unusedVariables false
set_option linter.unusedSimpArgs false

/-- The first of the least of those that have come; at first the first one. -/
def bestAt (f : Nat → Int) (P : List Nat) (k : Nat) : Nat := if k = 0 then P.getD 0 0 else leastL f (P.take k)
theorem bestAt_succ (f : Nat → Int) (P : List Nat) (k : Nat) (h : k < P.length) : bestAt f P (k + 1) = if f (P.getD k 0) < f (bestAt f P k) then P.getD k 0 else bestAt f P k := by
  have hg : P.getD k 0 = P[k] := by simp [h]
  have htk : P.take (k + 1) = P.take k ++ [P.getD k 0] := by rw [hg]; exact List.take_succ_eq_append_getElem h
  unfold bestAt
  rw [if_neg (by omega), htk]
  by_cases h0 : k = 0
  · subst h0
    rw [if_pos rfl, List.take_zero, leastL_one, if_neg (Int.lt_irrefl _)]
  · rw [if_neg h0]
    have hne : P.take k ≠ [] := by intro e; have := congrArg List.length e; rw [List.length_take] at this; simp only [List.length_nil] at this; omega
    exact leastL_snoc f _ _ hne
theorem bestAt_mem (f : Nat → Int) (P : List Nat) (k : Nat) (h : P ≠ []) : bestAt f P k ∈ P := by
  unfold bestAt
  have hl := List.length_pos_iff.2 h
  split
  · exact getD_mem hl
  · rename_i h0
    have hne : P.take k ≠ [] := by intro e; have := congrArg List.length e; rw [List.length_take] at this; simp only [List.length_nil] at this; omega
    exact List.mem_of_mem_take (leastL_mem f _ hne)
theorem bestAt_all (f : Nat → Int) (P : List Nat) (h : P ≠ []) : bestAt f P P.length = leastL f P := by
  unfold bestAt
  rw [if_neg (by have := List.length_pos_iff.2 h; omega), List.take_length]

set_option maxRecDepth 100000 in
set_option maxHeartbeats 2000000 in
theorem least_at (f : Nat → Int) (kf : FuncId) (pl : Value) (ekf : ∀ args w, (callFunc kf args).run Try.prog w = .ok (.enter kf args) w) {w : World} {A : Option Addr} {c : Nat} {P : List Nat} (hne : P ≠ []) (hl : P.length ≤ 16) (hnat : NatsAt w A P)
    (hk : ∀ x ∈ P, ∀ W, Below w.heap.size w W → Calls Try.prog kf #[pl, .int .i64 (x : Int)] W fun e W' => e = .returned (.int .i64 (f x)) ∧ Below W.heap.size W W') :
    Calls Try.prog 102 #[.agg #[.func (.func kf) #[pl] #[]], .slice A P.length c] w fun e w' => e = .returned (.tuple #[.int .i64 (leastL f P : Nat), .int .i64 (f (leastL f P))]) ∧ Below w.heap.size w w' := by
  have hl1 := List.length_pos_iff.2 hne
  obtain ⟨ad0, hA0, hc0⟩ := hnat 0 hl1
  subst hA0
  rw [Addr.add_zero'] at hc0
  obtain ⟨p0, hp0⟩ : ∃ p0, p0 = P.getD 0 0 := ⟨_, rfl⟩
  rw [← hp0] at hc0
  have hc0' := Lib.cell?_alloc_some (.cells #[.func (.func kf) #[pl] #[]] 93) hc0
  have HP0 := Apart0.mk (show p0 = bestAt f P 0 from hp0)
  clear hp0
  have HN := Apart0.mk hnat
  have HK := Apart0.mk hk
  have HNE := Apart0.mk hne
  have hlt0 : (0 : Int) < (P.length : Int) := by omega
  have hrm := leastL_mem f P hne
  have hrb := bestAt_all f P hne
  generalize leastL f P = r at *
  have HRB := Apart0.mk hrb
  have HRM := Apart0.mk hrm
  clear hnat hk hne hc0 hrm hrb
  go_enter Try.func102, Try.ntmps102
  go_wp2_with fail
  have hB0 : Below w.heap.size w (w.alloc (.cells #[.func (.func kf) #[pl] #[]] 93)) := (Below.refl _ w).alloc (Nat.le_refl _) _
  have hbx : (w.alloc (.cells #[.func (.func kf) #[pl] #[]] 93)).heap[w.heap.size]? = some (.cells #[.func (.func kf) #[pl] #[]] 93 (0, 0)) := World.alloc_heap_new w _
  have hsz0 : (w.alloc (.cells #[.func (.func kf) #[pl] #[]] 93)).heap.size = w.heap.size + 1 := by simp
  generalize w.alloc (.cells #[.func (.func kf) #[pl] #[]] 93) = W0 at *
  have HBX := Apart0.mk hbx
  have HB0 := Apart0.mk hB0
  clear hbx hB0 hc0'
  go_loopw [6, 14] (fun vb vi wr => ∃ k b : Nat, vi = .int .i64 (k : Int) ∧ vb = .int .i64 (b : Int) ∧ k ≤ P.length ∧ Apart0 (b = bestAt f P k ∧ Below W0.heap.size W0 wr))
    (fun _ p _ => P.length - (intOf p).toNat)
  case atStart => exact ⟨0, p0, rfl, rfl, by omega, ⟨HP0.out, Below.refl _ _⟩⟩
  case round =>
    obtain ⟨k, b, rfl, rfl, hk, HI⟩ := hrel
    have hbw := HI.out.2
    have hBx := (hbw.block _ (by omega)).trans HBX.out
    have hwr := HB0.out.trans (hbw.mono HB0.out.size)
    have cb : wr.cell? ⟨w.heap.size, 0, none⟩ = some (.func (.func kf) #[pl] #[]) := by simp [World.cell?, hBx]
    by_cases hlt : k < P.length
    · have hd : decide ((k : Int) < (P.length : Int)) = true := dec_lt k P.length hlt
      obtain ⟨ad, hAd, hc⟩ := (HN.out.below hwr) k hlt
      injection hAd with hAd
      subst hAd
      have hx := getD_mem hlt
      have hsucc := bestAt_succ f P k hlt
      have hbm := bestAt_mem f P k HNE.out
      rw [← HI.out.1] at hsucc hbm
      obtain ⟨x, hxe⟩ : ∃ x, x = P.getD k 0 := ⟨_, rfl⟩
      rw [← hxe] at hc hx hsucc
      have c1 := fun d os => cell_regrown cb d os
      have HWR := Apart0.mk hwr
      have HBW := Apart0.mk hbw
      have HX := Apart0.mk hx
      have HBM := Apart0.mk hbm
      have hcall : ∀ z, z ∈ P → ∀ d os, Calls Try.prog kf #[pl, .int .i64 (z : Int)] (grow (redrawn wr d) os) fun e W' => e = .returned (.int .i64 (f z)) ∧ Below (grow (redrawn wr d) os).heap.size (grow (redrawn wr d) os) W' :=
        fun z hz d os => HK.out z hz _ (HWR.out.trans ((below_regrown wr d os).mono HWR.out.size))
      have HC := Apart0.mk hcall
      have HSU := Apart0.mk hsucc
      clear hsucc hbm hx hxe hwr hbw hBx cb hcall HI
      have mixed : Try.prog.follows .mixedOrders = true := by kernel_rfl
      have HEK := Apart0.mk ekf
      by_cases hlx : f x < f b
      · have hdx : decide (f x < f b) = true := decide_eq_true hlx
        have HF := Apart0.mk (show bestAt f P (k + 1) = x by rw [HSU.out, if_pos hlx])
        clear HSU
        go_wp2_with fail
        refine wp_region_quiet_below mixed (by kernel_rfl) ?_
        repeat (quiet_step (refine Calls.regrown_of (HC.out _ (by first | exact HX.out | exact HBM.out) _ _)))
        refine wpQuiet_nil ?_
        rintro w' ⟨⟨d, os⟩, rfl⟩
        have HG := Apart0.mk (HBW.out.trans ((below_regrown wr d os).mono HBW.out.size))
        have c2 := c1 d os
        clear c1 HC
        generalize grow (redrawn wr d) os = W1 at *
        go_wp2_with fail
        go_roundw
        case rel => exact ⟨k + 1, x, congrArg _ (Int.natCast_succ k).symm, rfl, by omega, ⟨HF.out.symm, HG.out⟩⟩
        case measure => simp only [intOf]; omega
      · have hdx : decide (f x < f b) = false := decide_eq_false hlx
        have HF := Apart0.mk (show bestAt f P (k + 1) = b by rw [HSU.out, if_neg hlx])
        clear HSU
        go_wp2_with fail
        refine wp_region_quiet_below mixed (by kernel_rfl) ?_
        repeat (quiet_step (refine Calls.regrown_of (HC.out _ (by first | exact HX.out | exact HBM.out) _ _)))
        refine wpQuiet_nil ?_
        rintro w' ⟨⟨d, os⟩, rfl⟩
        have HG := Apart0.mk (HBW.out.trans ((below_regrown wr d os).mono HBW.out.size))
        have c2 := c1 d os
        clear c1 HC
        generalize grow (redrawn wr d) os = W1 at *
        go_wp2_with fail
        go_roundw
        case rel => exact ⟨k + 1, b, congrArg _ (Int.natCast_succ k).symm, rfl, by omega, ⟨HF.out.symm, HG.out⟩⟩
        case measure => simp only [intOf]; omega
    · have hd : decide ((k : Int) < (P.length : Int)) = false := dec_nlt k P.length hlt
      have hkL : k = P.length := by omega
      obtain rfl : b = r := by rw [HI.out.1, hkL, HRB.out]
      have hc2 := HK.out b HRM.out wr hwr
      have HC2 := Apart0.mk hc2
      have HWR := Apart0.mk hwr
      clear hc2 hwr hbw hBx HI hkL
      go_wp2_with fail
      refine HC2.out.mono ?_
      rintro e w2 ⟨rfl, hb2⟩
      have HB2 := Apart0.mk (HWR.out.trans (hb2.mono HWR.out.size))
      clear hb2
      go_wp2_with fail
      go_ret2
      exact ⟨rfl, HB2.out⟩
end Go.Proofs.Ytlplaidcdocbmaa.Srt
