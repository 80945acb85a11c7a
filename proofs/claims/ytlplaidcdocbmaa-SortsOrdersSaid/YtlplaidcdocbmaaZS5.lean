-- Cut by pack.py, a program of this session; not trusted: Lean checks it.
import Derived.Deep.Draws
import Derived.Tactics
import Derived.Tactics2
import Derived.OwnWalk
import Derived.Outline
import Derived.Lib.Walk
import Derived.Lib.SliceRun
import Derived.Test.YtlplaidcdocbmaaZS4
/- sorts.Plan, sorts.Cost. -/
namespace Go.Proofs.Ytlplaidcdocbmaa.Srt
open Go.RowKit Go.Shelf Go.Proofs.Ytlplaidcdocbmaa.Core
open Go.Proofs.YtlplaidcdocbmaaW.PrintWords (Kd encs)
open Go.Proofs.YtlplaidcdocbmaaW
set_option linter.unusedVariables false
set_option linter.unusedSimpArgs false

theorem edCells_len (es : List Ed) : (edCells es).length = es.length * 3 := by
  unfold edCells
  induction es with
  | nil => rfl
  | cons e es ih => rw [List.flatMap_cons, List.length_append, ih]; simp; omega
theorem edCells_one (es : List Ed) : ∀ u ∈ edCells es, u.oneCell' = true := by
  intro u hu
  obtain ⟨e, _, he⟩ := List.mem_flatMap.1 hu
  simp only [List.mem_cons, List.not_mem_nil, or_false] at he
  rcases he with rfl | rfl | rfl <;> rfl
theorem edCells_append (a b : List Ed) : edCells (a ++ b) = edCells a ++ edCells b := by unfold edCells; rw [List.flatMap_append]
/-- Edges lie in memory. -/
theorem eds_any {w : World} {base : Nat} {v : Value} {es : List Ed} (h : w.ownsRow base 49 3 v es.length (edCells es)) (hne : es ≠ []) : ∃ g c, v = .slice (some ⟨g, 0, none⟩) es.length c ∧ ∀ j u, (edCells es)[j]? = some u → w.cell? ((⟨g, 0, none⟩ : Addr).add j) = some u := by
  rcases h.2 with ⟨rfl, h0⟩ | ⟨g, cap, cur, rfl, _⟩
  · exact absurd (List.length_eq_zero_iff.1 h0) hne
  · refine ⟨g, cap, rfl, fun j u hj => ?_⟩
    have hlt := (List.getElem?_eq_some_iff.1 hj).1
    rw [edCells_len] at hlt
    rw [Addr.add_lit, Nat.zero_add]
    exact (h.cellAt j hlt).trans hj
section
variable {ops : Array Oper} {rest : List Oper} {o : Oper} {a : Act} {Q : Exit → Act → World → Prop}
/-- append(v, es...). -/
theorem wp_app_edges (hgd : o.guard = none) (s x : Operand) (ho : o.op = .call { callee := .builtin .append, args := #[s, x], argTypes := #[43, 43] }) {W0 W : World} {v : Value} {n : Nat} {xs : List Value} (hs : a.eval s = v)
    (es : List Ed) {g c : Nat} (hx : a.eval x = .slice (some ⟨g, 0, none⟩) es.length c) (hn : n ≤ 1000) (hm : es.length ≤ 1000) (hcells : ∀ j u, (edCells es)[j]? = some u → W.cell? ((⟨g, 0, none⟩ : Addr).add j) = some u) (HA : Acc W0 49 3 v n xs W)
    (h : ∀ v' w', Acc W0 49 3 v' (n + es.length) (xs ++ edCells es) w' → wpList Try.prog ops Q rest (a.put o.dst v') w') : wpList Try.prog ops Q (o :: rest) a W := by
  obtain ⟨i0, hi, hz0, hz1, hz2⟩ := info_parts info49
  refine wpList_append_own _ hgd s x 43 ho W0.heap.size 49 i0 (.agg #[.int .i64 0, .int .i64 0, .bool false]) 3 24 Try.underlying43 hi hz0 hz1 hz2 rfl (by decide) v n xs hs HA.1 ⟨g, 0, none⟩ es.length c (edCells es) hx (edCells_len es) hcells (edCells_one es) (by unfold maxLen; omega) (by omega) HA.2.size ?_
  intro v' w' hown hgrow _
  exact h v' w' (HA.append hown hgrow)
end
/-- The plan when j levels have been made. -/
def planJ (sc so : Nat → Int) (d j : Nat) : List Ed := ⟨((2 ^ d - 1 : Nat) : Int), -1, false⟩ :: ((List.range d).reverse.take j).flatMap (edgesS sc so d)
theorem planJ_succ (sc so : Nat → Int) (d j : Nat) (h : j < d) : planJ sc so d (j + 1) = planJ sc so d j ++ edgesS sc so d (d - 1 - j) := by
  have hl : j < (List.range d).reverse.length := by simpa using h
  unfold planJ
  rw [List.take_succ_eq_append_getElem hl, List.flatMap_append, List.cons_append]
  congr 2
  simp
theorem planJ_all (sc so : Nat → Int) (d : Nat) : planJ sc so d d = planS sc so d := by
  unfold planJ planS
  rw [List.take_of_length_le (by simp)]
theorem edgesS_len (sc so : Nat → Int) (d l : Nat) : (edgesS sc so d l).length = (lvl d l).length := by simp [edgesS, edgesAS]
theorem planJ_len (sc so : Nat → Int) (d : Nat) (hd : d < 5) : ∀ j, j ≤ d → (planJ sc so d j).length ≤ 1 + 6 * j
  | 0, _ => by simp [planJ]
  | j + 1, h => by
    have ih := planJ_len sc so d hd j (by omega)
    have h2 := (lvl_fin1 d hd (d - 1 - j) (by omega)).2.1
    rw [planJ_succ sc so d j (by omega), List.length_append, edgesS_len]
    omega
theorem top_wrap : ∀ d : Nat, d < 5 → wrap64 (wrap64 ((2 : Int) ^ d) - 1) = ((2 ^ d - 1 : Nat) : Int) := by decide +kernel

set_option maxRecDepth 100000 in
set_option maxHeartbeats 4000000 in
theorem plan_at {w : World} {A : Option Addr} {c : Nat} {cs : List Int} {ms n : Int} (hok : okCards cs = true) (h1 : ∀ x ∈ cs, 1 ≤ x) (hn : 0 ≤ n ∧ n ≤ 300) (hca : CardsAt w A cs) :
    Calls Try.prog 55 #[.agg #[.slice A cs.length c, .int .i64 ms], .int .i64 n] w fun e w' =>
      ∃ v : Value, e = .returned v ∧ w'.ownsRow w.heap.size 49 3 v (planS (scanC cs n) (sortC cs n) cs.length).length (edCells (planS (scanC cs n) (sortC cs n) cs.length)) ∧ Below w.heap.size w w' := by
  have hd4 := okCards_len hok
  have HOK := Apart0.mk hok
  have HCA := Apart0.mk hca
  have H1 := Apart0.mk h1
  clear hok hca h1
  go_enter Try.func55, Try.ntmps55
  go_wp2_with fail
  rw [top_wrap cs.length (by omega)]
  obtain ⟨top, htop⟩ : ∃ top, top = 2 ^ cs.length - 1 := ⟨_, rfl⟩
  rw [← htop]
  obtain ⟨W0, hW0⟩ : ∃ W0, W0 = (w.alloc (.cells #[.slice A cs.length c, .int .i64 ms] 33)).alloc (.cells #[.slice A cs.length c, .int .i64 ms, .int .i64 n] 76) := ⟨_, rfl⟩
  have hsz0 : W0.heap.size = w.heap.size + 1 + 1 := by rw [hW0]; simp
  have hB0 : Below w.heap.size w W0 := by rw [hW0]; exact ((Below.refl _ w).alloc (Nat.le_refl _) _).alloc (by simp only [World.size_alloc]; omega) _
  have hp0 : W0.heap[w.heap.size + 1]? = some (.cells #[.slice A cs.length c, .int .i64 ms, .int .i64 n] 76 (0, 0)) := by
    rw [hW0]; have := World.alloc_heap_new (w.alloc (.cells #[.slice A cs.length c, .int .i64 ms] 33)) (.cells #[.slice A cs.length c, .int .i64 ms, .int .i64 n] 76); simpa using this
  rw [← hW0]
  have hlit := World.ownsRow_lit (base := W0.heap.size) (e := 49) (size := 3) W0 #[.int .i64 (top : Int), .int .i64 (-1), .bool false] 1 (Nat.le_refl _) (by unfold maxLen; omega) rfl
  have HA0 := Apart0.mk (show Acc W0 49 3 (.slice (some ⟨w.heap.size + 1 + 1, 0, none⟩) 1 1) (planJ (scanC cs n) (sortC cs n) cs.length 0).length (edCells (planJ (scanC cs n) (sortC cs n) cs.length 0)) (W0.alloc (.cells #[.int .i64 (top : Int), .int .i64 (-1), .bool false] 49)) from by
    rw [← hsz0]
    refine ⟨?_, (Below.refl _ W0).alloc (Nat.le_refl _) _⟩
    have e : edCells (planJ (scanC cs n) (sortC cs n) cs.length 0) = [.int .i64 (top : Int), .int .i64 (-1), .bool false] := by rw [htop]; simp [planJ, edCells]
    rw [e]
    simpa [planJ] using hlit)
  have HB0 := Apart0.mk hB0
  have HP0 := Apart0.mk hp0
  have HPL := Apart0.mk (planJ_len (scanC cs n) (sortC cs n) cs.length (by omega))
  have HPS := Apart0.mk (planJ_succ (scanC cs n) (sortC cs n) cs.length)
  have HPA := Apart0.mk (planJ_all (scanC cs n) (sortC cs n) cs.length)
  clear hW0 hB0 hp0 hlit htop
  go_loopw [7, 8] (fun v7 v8 wr => ∃ j : Nat, v8 = .int .i64 ((cs.length : Int) - 1 - (j : Int)) ∧ j ≤ cs.length ∧ Apart0 (Acc W0 49 3 v7 (planJ (scanC cs n) (sortC cs n) cs.length j).length (edCells (planJ (scanC cs n) (sortC cs n) cs.length j)) wr))
    (fun _ p _ => (intOf p + 1).toNat)
  case atStart => exact ⟨0, by simp, by omega, HA0⟩
  case round =>
    obtain ⟨j, rfl, hj, HA⟩ := hrel
    by_cases hlt : j < cs.length
    · have hd : decide (0 ≤ (cs.length : Int) - 1 - (j : Int)) = true := decide_eq_true (by omega)
      obtain ⟨l, hl⟩ : ∃ l : Nat, l = cs.length - 1 - j := ⟨_, rfl⟩
      have hle : (cs.length : Int) - 1 - (j : Int) = (l : Int) := by omega
      rw [hle] at hd ⊢
      have hblk := (HA.out.2.block (w.heap.size + 1) (by omega)).trans HP0.out
      have y0 : wr.cell? ⟨w.heap.size + 1, 0, none⟩ = some (.slice A cs.length c) := by simp [World.cell?, hblk]
      have y1 : wr.cell? ⟨w.heap.size + 1, 1, none⟩ = some (.int .i64 ms) := by simp [World.cell?, hblk]
      have y2 : wr.cell? ⟨w.heap.size + 1, 2, none⟩ = some (.int .i64 n) := by simp [World.cell?, hblk]
      have HE := Apart0.mk (edges_at (w := wr) (A := A) (c := c) (ms := ms) (l := l) HOK.out H1.out hn (by omega) (HCA.out.below (HB0.out.trans (HA.out.2.mono HB0.out.size))))
      have hpl := HPL.out j (by omega)
      have hps := HPS.out j hlt
      rw [← hl] at hps
      have hel := edgesS_len (scanC cs n) (sortC cs n) cs.length l
      have hlv := lvl_fin1 cs.length (by omega) l (by omega)
      have hene : edgesS (scanC cs n) (sortC cs n) cs.length l ≠ [] := by intro e; rw [e] at hel; simp at hel; omega
      have hem : (edgesS (scanC cs n) (sortC cs n) cs.length l).length ≤ 1000 := by omega
      have hwl : wrap64 ((l : Int) - 1) = (cs.length : Int) - 1 - ((j + 1 : Nat) : Int) := by unfold wrap64; omega
      have HWL := Apart0.mk hwl
      have HPS2 := Apart0.mk hps
      have HENE := Apart0.mk hene
      generalize edgesS (scanC cs n) (sortC cs n) cs.length l = E at *
      generalize hPJ : planJ (scanC cs n) (sortC cs n) cs.length j = PJ at *
      have HLJ := Apart0.mk hl
      have hlc : l < cs.length := by omega
      clear hps hel hlv hene hwl hle hblk hPJ hl
      go_wp2_with fail
      (with_reducible refine HE.out.mono ?_)
      rintro e w2 ⟨v2, rfl, h2, hb2⟩
      obtain ⟨g2, c2, rfl, hcells⟩ := eds_any h2 HENE.out
      have HA2 := Apart0.mk (HA.out.below hb2)
      have HC2 := Apart0.mk hcells
      clear h2 hb2 hcells
      go_wp2_with (at_builtin; refine wp_app_edges rfl _ _ rfl rfl E rfl (by omega) hem HC2.out HA2.out ?_; intro v' w' ha; have HA3 := Apart0.mk ha; clear ha)
      go_roundw
      case rel => exact ⟨j + 1, by first | exact congrArg (Value.int .i64) HWL.out | exact congrArg (Value.int .i64) (by have := HLJ.out; omega), by omega, ⟨by rw [HPS2.out, List.length_append, edCells_append]; exact HA3.out⟩⟩
      case measure => have := HLJ.out; simp only [intOf]; omega
    · have hd : decide (0 ≤ (cs.length : Int) - 1 - (j : Int)) = false := decide_eq_false (by omega)
      obtain rfl : j = cs.length := by omega
      have hpl := HPL.out cs.length (by omega)
      have HA2 := Apart0.mk (show Acc W0 49 3 u7 (planS (scanC cs n) (sortC cs n) cs.length).length (edCells (planS (scanC cs n) (sortC cs n) cs.length)) wr by rw [← HPA.out]; exact HA.out)
      have hcl := clone_edges HA2.out.1 (by rw [← HPA.out]; omega) (edCells_one _)
      have HCL := Apart0.mk hcl
      clear hcl hpl
      go_wp2_with fail
      refine HCL.out.mono ?_
      rintro e w9 ⟨v9, rfl, h91, h92⟩
      have HF := Apart0.mk (And.intro (ownsRow_base h91 (Nat.le_trans HB0.out.size HA2.out.2.size)) ((HB0.out.trans (HA2.out.2.mono HB0.out.size)).trans (h92.mono (Nat.le_trans HB0.out.size HA2.out.2.size))))
      clear h91 h92
      go_wp2_with fail
      go_ret
      exact ⟨v9, rfl, HF.out⟩
end Go.Proofs.Ytlplaidcdocbmaa.Srt
