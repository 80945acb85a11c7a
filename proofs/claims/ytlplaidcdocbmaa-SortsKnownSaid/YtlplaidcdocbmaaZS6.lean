-- Cut by pack.py, a program of this session; not trusted: Lean checks it.
import Derived.Deep.Draws
import Derived.Tactics
import Derived.Tactics2
import Derived.OwnWalk
import Derived.Outline
import Derived.Lib.Walk
import Derived.Lib.SliceRun
import Derived.Test.YtlplaidcdocbmaaZS5
/- sorts.Cost. -/
namespace Go.Proofs.Ytlplaidcdocbmaa.Srt
open Go.RowKit Go.Shelf Go.Proofs.Ytlplaidcdocbmaa.Core Go.Proofs.YtlplaidcdocbmaaW
set_option linter.unusedVariables false
set_option linter.unusedSimpArgs false

/-- Edges lie in memory. -/
def EdsAt (w : World) (A : Option Addr) (es : List Ed) : Prop := ∀ i : Nat, i < es.length → ∃ ad, A = some ad ∧ w.cell? (ad.add (i * 3)) = some (.int .i64 (es.getD i ⟨0, 0, false⟩).set) ∧
  w.cell? ⟨(ad.add (i * 3)).block, (ad.add (i * 3)).off + 1, none⟩ = some (.int .i64 (es.getD i ⟨0, 0, false⟩).par) ∧ w.cell? ⟨(ad.add (i * 3)).block, (ad.add (i * 3)).off + 2, none⟩ = some (.bool (es.getD i ⟨0, 0, false⟩).scan)
theorem EdsAt.below {w w' : World} {A : Option Addr} {es : List Ed} (h : EdsAt w A es) (hb : Below w.heap.size w w') : EdsAt w' A es := fun i hi => by
  obtain ⟨ad, e, h1, h2, h3⟩ := h i hi
  exact ⟨ad, e, (hb.cell (cell_lt h1)).trans h1, (hb.cell (cell_lt h2)).trans h2, (hb.cell (cell_lt h3)).trans h3⟩
theorem costE_bd {sc so : Nat → Int} (C : Cheap sc so) (e : Ed) (h : e.par < 0 ∨ ∃ p : Nat, e.par = (p : Int) ∧ p < 16) : 0 ≤ costE sc so e ∧ costE sc so e ≤ 3000 := by
  unfold costE
  rcases h with h | ⟨p, hp, h16⟩
  · rw [if_pos h]; omega
  · rw [if_neg (by omega), hp, Int.toNat_natCast]
    have := C p h16
    split <;> omega
theorem costP_bd {sc so : Nat → Int} (C : Cheap sc so) : ∀ (l : List Ed), (∀ e ∈ l, e.par < 0 ∨ ∃ p : Nat, e.par = (p : Int) ∧ p < 16) → 0 ≤ costP sc so l ∧ costP sc so l ≤ 3000 * (l.length : Int)
  | [], _ => by simp [costP]
  | e :: l, h => by
    have h1 := costE_bd C e (h e (by simp))
    have h2 := costP_bd C l (fun x hx => h x (by simp [hx]))
    have e1 : costP sc so (e :: l) = costE sc so e + costP sc so l := by unfold costP; rw [List.map_cons, List.sum_cons]
    rw [e1, List.length_cons]
    omega
theorem costP_snoc (sc so : Nat → Int) (l : List Ed) (e : Ed) : costP sc so (l ++ [e]) = costP sc so l + costE sc so e := by
  unfold costP; rw [List.map_append, List.sum_append]; simp
theorem take_snoc' {α : Type} (l : List α) (d : α) (i : Nat) (h : i < l.length) : l.take (i + 1) = l.take i ++ [l.getD i d] := by
  have hg : l.getD i d = l[i] := by simp [h]
  rw [hg]; exact List.take_succ_eq_append_getElem h

set_option maxRecDepth 100000 in
set_option maxHeartbeats 4000000 in
theorem cost_at {w : World} {A : Option Addr} {c : Nat} {cs : List Int} {ms n : Int} {Ae : Option Addr} {ce : Nat} {es : List Ed} (hok : okCards cs = true) (h1 : ∀ x ∈ cs, 1 ≤ x) (hn : 0 ≤ n ∧ n ≤ 300) (hca : CardsAt w A cs) (hes : EdsAt w Ae es) (hel : es.length ≤ 1000)
    (hp : ∀ e ∈ es, e.par < 0 ∨ ∃ p : Nat, e.par = (p : Int) ∧ p < 16) :
    Calls Try.prog 56 #[.agg #[.slice A cs.length c, .int .i64 ms], .int .i64 n, .slice Ae es.length ce] w fun e w' => e = .returned (.int .i64 (costP (scanC cs n) (sortC cs n) es)) ∧ Below w.heap.size w w' := by
  have hmf : ∀ (fn : Fn) (first cap : Array Value) (w : World), (Instr.makeFunc fn first cap).run Try.prog w = .ok (.func fn first cap) w := fun _ _ _ _ => rfl
  have HC := Apart0.mk (cheap_of h1 hn)
  have HOK := Apart0.mk hok
  have HCA := Apart0.mk hca
  have H1 := Apart0.mk h1
  have HES := Apart0.mk hes
  have HPA := Apart0.mk hp
  clear hok hca h1 hes hp
  go_enter Try.func56, Try.ntmps56
  go_wp2_with fail
  obtain ⟨W0, hW0⟩ : ∃ W0, W0 = (w.alloc (.cells #[.slice A cs.length c, .int .i64 ms] 33)).alloc (.cells #[.slice A cs.length c, .int .i64 ms, .int .i64 n] 76) := ⟨_, rfl⟩
  have hsz0 : W0.heap.size = w.heap.size + 1 + 1 := by rw [hW0]; simp
  have hB0 : Below w.heap.size w W0 := by rw [hW0]; exact ((Below.refl _ w).alloc (Nat.le_refl _) _).alloc (by simp only [World.size_alloc]; omega) _
  have hp0 : W0.heap[w.heap.size + 1]? = some (.cells #[.slice A cs.length c, .int .i64 ms, .int .i64 n] 76 (0, 0)) := by
    rw [hW0]; have := World.alloc_heap_new (w.alloc (.cells #[.slice A cs.length c, .int .i64 ms] 33)) (.cells #[.slice A cs.length c, .int .i64 ms, .int .i64 n] 76); simpa using this
  rw [← hW0]
  have HB0 := Apart0.mk hB0
  have HP0 := Apart0.mk hp0
  clear hW0 hB0 hp0
  go_loopw [8, 17] (fun v8 v17 wr => ∃ (i : Nat) (z : Int), v17 = .int .i64 (i : Int) ∧ v8 = .int .i64 z ∧ i ≤ es.length ∧ Apart0 (z = costP (scanC cs n) (sortC cs n) (es.take i) ∧ Below W0.heap.size W0 wr))
    (fun _ p _ => es.length - (intOf p).toNat)
  case atStart => exact ⟨0, 0, rfl, rfl, by omega, ⟨rfl, Below.refl _ _⟩⟩
  case round =>
    obtain ⟨i, z, rfl, rfl, hi, HI⟩ := hrel
    have hbw := HI.out.2
    by_cases hlt : i < es.length
    · have hd : decide ((i : Int) < (es.length : Int)) = true := dec_lt i es.length hlt
      obtain ⟨ad, rfl, c0, c1, c2⟩ := (HES.out.below (HB0.out.trans (hbw.mono HB0.out.size))) i hlt
      have hz := costP_bd HC.out (es.take i) (fun e he => HPA.out e (List.mem_of_mem_take he))
      rw [← HI.out.1, List.length_take] at hz
      have hem : es.getD i ⟨0, 0, false⟩ ∈ es := by rw [getD_of_lt es i _ hlt]; exact List.getElem_mem hlt
      have hep := HPA.out _ hem
      have heb := costE_bd HC.out _ hep
      have hsn := costP_snoc (scanC cs n) (sortC cs n) (es.take i) (es.getD i ⟨0, 0, false⟩)
      rw [← take_snoc' es ⟨0, 0, false⟩ i hlt, ← HI.out.1] at hsn
      obtain ⟨e, he⟩ : ∃ e, e = es.getD i ⟨0, 0, false⟩ := ⟨_, rfl⟩
      rw [← he] at c0 c1 c2 hep heb hsn
      obtain ⟨e1, e2, e3⟩ := e
      dsimp only at c0 c1 c2 hep
      have hblk := (hbw.block (w.heap.size + 1) (by omega)).trans HP0.out
      have y0 : wr.cell? ⟨w.heap.size + 1, 0, none⟩ = some (.slice A cs.length c) := by simp [World.cell?, hblk]
      have y1 : wr.cell? ⟨w.heap.size + 1, 1, none⟩ = some (.int .i64 ms) := by simp [World.cell?, hblk]
      have y2 : wr.cell? ⟨w.heap.size + 1, 2, none⟩ = some (.int .i64 n) := by simp [World.cell?, hblk]
      have hB1 : Below wr.heap.size wr (wr.alloc (.cells #[.int .i64 e1, .int .i64 e2, .bool e3] 49)) := (Below.refl _ wr).alloc (Nat.le_refl _) _
      have hbA := HB0.out.trans ((hbw.trans (hB1.mono hbw.size)).mono HB0.out.size)
      have z0 := PrintWords.pw_cell_below hB1 y0
      have z1 := PrintWords.pw_cell_below hB1 y1
      have z2 := PrintWords.pw_cell_below hB1 y2
      have HSN := Apart0.mk hsn
      have HBW := Apart0.mk (hbw.trans (hB1.mono hbw.size))
      have HBA := Apart0.mk hbA
      clear hem he hsn hblk hbw hB1 hbA HI y0 y1 y2
      rcases hep with hneg | ⟨p, rfl, hp16⟩
      · have hd2 : decide (0 ≤ e2) = false := decide_eq_false (by omega)
        have HE := Apart0.mk (show costE (scanC cs n) (sortC cs n) ⟨e1, e2, e3⟩ = 0 by unfold costE; rw [if_pos hneg])
        cases e3 with
        | true =>
          go_wp2_with fail
          go_roundw
          case rel => exact ⟨i + 1, z, congrArg _ (Int.natCast_succ i).symm, rfl, by omega, ⟨by rw [HSN.out, HE.out]; omega, HBW.out⟩⟩
          case measure => simp only [intOf]; omega
        | false =>
          go_wp2_with fail
          go_roundw
          case rel => exact ⟨i + 1, z, congrArg _ (Int.natCast_succ i).symm, rfl, by omega, ⟨by rw [HSN.out, HE.out]; omega, HBW.out⟩⟩
          case measure => simp only [intOf]; omega
      · have hd2 : decide (0 ≤ (p : Int)) = true := decide_eq_true (by omega)
        cases e3 with
        | true =>
          have HE := Apart0.mk (show costE (scanC cs n) (sortC cs n) ⟨e1, (p : Int), true⟩ = scanC cs n p by unfold costE; rw [if_neg (by show ¬ (p : Int) < 0; omega), if_pos rfl]; rfl)
          have HCL := Apart0.mk (scan_at (c := c) (ms := ms) hp16 HOK.out (by omega : 0 ≤ n ∧ n ≤ 1000000) (HCA.out.below HBA.out))
          rw [HE.out] at heb
          generalize scanC cs n p = y at *
          have HW := Apart0.mk (show wrap64 (z + y) = z + y by unfold wrap64; omega)
          go_wp2_with fail
          (with_reducible refine HCL.out.mono ?_)
          rintro e w2 ⟨rfl, hb2⟩
          have HB2 := Apart0.mk (HBW.out.trans (hb2.mono HBW.out.size))
          clear hb2
          go_wp2_with fail
          go_roundw
          case rel => exact ⟨i + 1, z + y, congrArg _ (Int.natCast_succ i).symm, by first | rfl | exact congrArg (Value.int .i64) HW.out, by omega, ⟨by rw [HSN.out, HE.out], HB2.out⟩⟩
          case measure => simp only [intOf]; omega
        | false =>
          have HE := Apart0.mk (show costE (scanC cs n) (sortC cs n) ⟨e1, (p : Int), false⟩ = sortC cs n p by unfold costE; rw [if_neg (by show ¬ (p : Int) < 0; omega), if_neg (by simp)]; rfl)
          have HCL := Apart0.mk (sort_at (c := c) (ms := ms) hp16 HOK.out H1.out hn (HCA.out.below HBA.out))
          rw [HE.out] at heb
          generalize sortC cs n p = y at *
          have HW := Apart0.mk (show wrap64 (z + y) = z + y by unfold wrap64; omega)
          go_wp2_with fail
          (with_reducible refine HCL.out.mono ?_)
          rintro e w2 ⟨rfl, hb2⟩
          have HB2 := Apart0.mk (HBW.out.trans (hb2.mono HBW.out.size))
          clear hb2
          go_wp2_with fail
          go_roundw
          case rel => exact ⟨i + 1, z + y, congrArg _ (Int.natCast_succ i).symm, by first | rfl | exact congrArg (Value.int .i64) HW.out, by omega, ⟨by rw [HSN.out, HE.out], HB2.out⟩⟩
          case measure => simp only [intOf]; omega
    · have hd : decide ((i : Int) < (es.length : Int)) = false := dec_nlt i es.length hlt
      obtain rfl : i = es.length := by omega
      have HF := Apart0.mk (show z = costP (scanC cs n) (sortC cs n) es by rw [HI.out.1, List.take_length])
      have HB := Apart0.mk (HB0.out.trans (hbw.mono HB0.out.size))
      clear hbw HI
      go_wp2_with fail
      go_ret
      exact ⟨by rw [← HF.out]; rfl, HB.out⟩
end Go.Proofs.Ytlplaidcdocbmaa.Srt
