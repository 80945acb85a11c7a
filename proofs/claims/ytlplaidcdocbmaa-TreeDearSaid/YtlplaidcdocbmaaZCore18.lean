-- Cut by pack.py, a program of this session; not trusted: Lean checks it.
import Derived.RangeFuncNested
import Derived.RangeFuncBound
import Derived.RangeFuncCalls
import Derived.RangeFuncLeaves
import Derived.Shelf.Abstract
import Derived.Shelf.RegionOpen
import Derived.WalkKit
import Derived.OwnWalkIn
import Derived.TacticsInMore
import Derived.LoopNIn
import Derived.LoopIn
import Derived.Maps.AppendAt
import Derived.Test.YtlplaidcdocbmaaProg
import Derived.Test.YtlplaidcdocbmaaZCore1
import Derived.Test.YtlplaidcdocbmaaZPlainA
import Derived.Deep.Draws
import Derived.Tactics
import Derived.OwnWalk
import Derived.Outline
import Derived.Lib.Walk
import Derived.Lib.SliceRun
import Derived.Test.YtlplaidcdocbmaaZCore17
/- tree.Plan. -/
namespace Go.Proofs.Ytlplaidcdocbmaa.Core
open Go.RowKit Go.Shelf
set_option linter.unusedVariables false
set_option linter.unusedSimpArgs false

/-- The parent of the i-th set. -/
def parentT (cs : List Int) (n : Int) (i : Nat) : Int := if i = 0 then -1 else ((leastL (fun p => sizeI cs n p) (parents ((sets cs.length).getD i 0) cs.length) : Nat) : Int)
def edgeT (cs : List Int) (n : Int) (i : Nat) : List Value := [.int .i64 (((sets cs.length).getD i 0 : Nat) : Int), .int .i64 (parentT cs n i), .bool false]
def edgesT (cs : List Int) (n : Int) (k : Nat) : List Value := (List.range k).flatMap (edgeT cs n)
theorem edgesT_succ (cs : List Int) (n : Int) (k : Nat) : edgesT cs n (k + 1) = edgesT cs n k ++ edgeT cs n k := by
  unfold edgesT
  rw [List.range_succ, List.flatMap_append]
  simp
theorem sets_fin : ∀ d : Nat, d < 5 → (sets d).length = 2 ^ d ∧ (∀ i : Nat, i < 2 ^ d → (sets d).getD i 0 < 2 ^ d ∧ (i ≠ 0 → parents ((sets d).getD i 0) d ≠ [])) := by decide +kernel

theorem dec_lt (k L : Nat) (h : k < L) : decide ((k : Int) < (L : Int)) = true := decide_eq_true (by omega)
theorem dec_nlt (k L : Nat) (h : ¬ k < L) : decide ((k : Int) < (L : Int)) = false := decide_eq_false (by omega)
theorem dec_pos (k : Nat) (h : k ≠ 0) : decide ((k : Int) > 0) = true := decide_eq_true (by omega)
theorem getD_map (xs : List Nat) (k : Nat) (h : k < xs.length) : (xs.map encI)[k]? = some (.int .i64 ((xs.getD k 0 : Nat) : Int)) := by
  rw [List.getElem?_map, List.getElem?_eq_getElem h, List.getD_eq_getElem?_getD, List.getElem?_eq_getElem h]
  rfl

theorem cell_new3 (W : World) (B : Nat) (hB : W.heap.size = B) (x y z : Value) (t : TypeId) (j : Nat) (u : Value) (h : [x, y, z][j]? = some u) : (W.alloc (.cells #[x, y, z] t)).cell? ((⟨B, 0, none⟩ : Addr).add j) = some u := by
  subst hB
  have hb : (W.alloc (.cells #[x, y, z] t)).heap[W.heap.size]? = some (.cells #[x, y, z] t (0, 0)) := World.alloc_heap_new W _
  rw [Addr.add_lit, Nat.zero_add]
  simp only [World.cell?, hb]
  simpa using h
theorem edgesT_one (cs : List Int) (n : Int) (k : Nat) : ∀ u ∈ edgesT cs n k, u.oneCell' = true := by
  intro u hu
  obtain ⟨i, _, hi⟩ := List.mem_flatMap.1 hu
  simp only [edgeT, List.mem_cons, List.not_mem_nil, or_false] at hi
  rcases hi with rfl | rfl | rfl <;> rfl
theorem setCell_same' {w : World} {b i : Nat} {cs : Array Value} {T : TypeId} {fr : Nat × Nat} (hb : w.heap[b]? = some (.cells cs T fr)) (v : Value) : (w.setCell ⟨b, i, none⟩ v).heap[b]? = some (.cells (cs.setIfInBounds i v) T fr) := by
  simp [World.setCell, Array.getElem?_modify, hb]
/-- What holds between the rounds. -/
def PlanI (A : Option Addr) (c : Nat) (cs : List Int) (ms n : Int) (w : World) (g cap L : Nat) (vo : Value) (k : Nat) (wr : World) : Prop :=
  wr.ownsRow (w.heap.size + 2) 49 3 vo k (edgesT cs n k) ∧ wr.ownsRow (w.heap.size + 2) 3 1 (.slice (some ⟨g, 0, none⟩) L cap) L ((sets cs.length).map encI) ∧ Below w.heap.size w wr ∧
    wr.heap[w.heap.size]? = some (.cells #[.slice A cs.length c, .int .i64 ms] 33 (0, 0)) ∧ wr.heap[w.heap.size + 1]? = some (.cells #[.int .i64 n] 3 (0, 0)) ∧ w.heap.size + 2 ≤ wr.heap.size
theorem own_base_le {W : World} {base e size k : Nat} {v : Value} {xs : List Value} (h : W.ownsRow base e size v k xs) : ∀ j, v.ownBlock = some j → base ≤ j := by
  intro j hj
  rcases h.2 with ⟨rfl, _⟩ | ⟨g, cap, cur, rfl, hb, _⟩
  · simp [Value.ownBlock] at hj
  · simp [Value.ownBlock] at hj; omega
theorem ownsRow_below' {B : Nat} {e : TypeId} {k : Nat} {v : Value} {n : Nat} {xs : List Value} {w w' : World} (h : w.ownsRow B e k v n xs) (hb : Below w.heap.size w w') : w'.ownsRow B e k v n xs := by
  refine ⟨h.1, ?_⟩
  rcases h.2 with hn | ⟨g, cap, cur, hv, hbg, hh, rest⟩
  · exact .inl hn
  · exact .inr ⟨g, cap, cur, hv, hbg, (hb.block g (Array.getElem?_eq_some_iff.1 hh).1).trans hh, rest⟩
section
variable {A : Option Addr} {c : Nat} {cs : List Int} {ms n : Int} {w : World} {g cap L : Nat} {vo : Value} {k : Nat} {wr w' : World}
theorem PlanI.below (h : PlanI A c cs ms n w g cap L vo k wr) (hb : Below wr.heap.size wr w') : PlanI A c cs ms n w g cap L vo k w' := by
  obtain ⟨h1, h2, h3, h4, h5, h6⟩ := h
  exact ⟨ownsRow_below' h1 hb, ownsRow_below' h2 hb, h3.trans (hb.mono h3.size), (hb.block _ (by omega)).trans h4, (hb.block _ (by omega)).trans h5, Nat.le_trans h6 hb.size⟩
theorem PlanI.append {v' : Value} (h : PlanI A c cs ms n w g cap L vo k wr) (hown : w'.ownsRow (w.heap.size + 2) 49 3 v' (k + 1) (edgesT cs n k ++ edgeT cs n k)) (hg : wr.grownBy w' vo.ownBlock) :
    PlanI A c cs ms n w g cap L v' (k + 1) w' := by
  obtain ⟨h1, h2, h3, h4, h5, h6⟩ := h
  have hb2 : Below (w.heap.size + 2) wr w' := (Below.refl _ wr).grown hg h6 (own_base_le h1)
  refine ⟨by rw [edgesT_succ]; exact hown, h2.kept hg ?_, h3.trans (hb2.mono (by omega)), (hb2.block _ (by omega)).trans h4, (hb2.block _ (by omega)).trans h5, Nat.le_trans h6 hb2.size⟩
  rcases h1.2 with ⟨rfl, _⟩ | ⟨g', cap', cur', rfl, _, hh, _⟩
  · right; simp [Value.ownBlock]
  · right
    rcases h2.2 with ⟨e, _⟩ | ⟨g2, cap2, cur2, e, _, hh2, _⟩
    · cases e
    · simp only [Value.slice.injEq, Option.some.injEq, Addr.mk.injEq] at e
      intro he
      simp only [Value.ownBlock, Option.some.injEq] at he
      obtain ⟨⟨rfl, _⟩, _⟩ := e
      subst he
      rw [hh] at hh2
      simp at hh2
end

set_option maxRecDepth 100000 in
set_option maxHeartbeats 4000000 in
theorem treePlan_calls (A : Option Addr) (c : Nat) (cs : List Int) (ms n : Int) (hok : okCards cs = true) (hn : 0 ≤ n ∧ n ≤ 1000000) (w : World)
    (hcell : ∀ i : Nat, i < cs.length → ∃ ad, A = some ad ∧ w.cell? (ad.add i) = some (.int .i64 (cs.getD i 0))) :
    Calls Try.prog 37 #[.agg #[.slice A cs.length c, .int .i64 ms], .int .i64 n] w fun e w' =>
      ∃ v : Value, e = .returned v ∧ w'.ownsRow w.heap.size 49 3 v (sets cs.length).length (edgesT cs n (sets cs.length).length) ∧ Below w.heap.size w w' := by
  obtain ⟨i0, hi, hz0, hz1, hz2⟩ := info_parts info49
  have hd4 := okCards_len hok
  have hsc := fun W => sets_calls cs.length hd4 W
  obtain ⟨sl, sg⟩ := sets_fin cs.length (by omega)
  have hp16 := pow16 cs.length hd4
  have HCELL := Apart0.mk hcell
  have HOK := Apart0.mk hok
  have SG := Apart0.mk sg
  have SL := Apart0.mk sl
  clear hcell hok sg sl
  go_enter Try.func37, Try.ntmps37
  go_wp2_with fail
  refine (hsc _).mono ?_
  rintro e w1 ⟨v, rfl, hrow, hb⟩
  have hpos := Nat.two_pow_pos cs.length
  obtain ⟨L, hL⟩ : ∃ L, L = (sets cs.length).length := ⟨_, rfl⟩
  have hL1 : 1 ≤ L ∧ L ≤ 16 := by rw [hL, SL.out]; omega
  rw [← hL] at hrow
  rcases hrow.2 with ⟨_, h0⟩ | ⟨g, cap, cur, rfl, hbg, _⟩
  · omega
  have HROW := Apart0.mk hrow
  have HB1 := Apart0.mk hb
  have HL := Apart0.mk hL
  clear hrow hb hL hsc
  go_wp2_with fail
  have HS0 := Apart0.mk (show w1.heap[w.heap.size]? = some (.cells #[.slice A cs.length c, .int .i64 ms] 33 (0, 0)) by
    rw [HB1.out.block w.heap.size (by simp only [World.size_alloc]; omega)]; rw [Below.heap_alloc _ _ _ (by simp)]; exact World.alloc_heap_new w _)
  have HR0 := Apart0.mk (show w1.heap[w.heap.size + 1]? = some (.cells #[.int .i64 n] 3 (0, 0)) by
    rw [HB1.out.block (w.heap.size + 1) (by simp only [World.size_alloc]; omega)]; have := World.alloc_heap_new (w.alloc (.cells #[.slice A cs.length c, .int .i64 ms] 33)) (.cells #[.int .i64 n] 3); simpa using this)
  have HW1 := Apart0.mk (show Below w.heap.size w w1 from (((Below.refl _ w).alloc (Nat.le_refl _) _).alloc (by simp only [World.size_alloc]; omega) _).trans (HB1.out.mono (by simp only [World.size_alloc]; omega)))
  have hgw : w.heap.size + 2 ≤ g := by simpa using hbg
  go_loopw [6, 16] (fun vo vi wr => ∃ k : Nat, vi = .int .i64 (k : Int) ∧ k ≤ L ∧ Apart0 (PlanI A c cs ms n w g cap L vo k wr))
    (fun _ p _ => L - (intOf p).toNat)
  case atStart =>
    exact ⟨0, rfl, by omega, ⟨World.ownsRow_nil _ _ _ _, ownsRow_base HROW.out (by simp), HW1.out, HS0.out, HR0.out, by have := HB1.out.size; simpa using this⟩⟩
  case round =>
    obtain ⟨k, rfl, hk, HI⟩ := hrel
    by_cases hlt : k < L
    · have hd : decide ((k : Int) < (L : Int)) = true := dec_lt k L hlt
      obtain ⟨sk, hsk⟩ : ∃ sk, sk = (sets cs.length).getD k 0 := ⟨_, rfl⟩
      have hc : wr.cell? ⟨g, k, none⟩ = some (.int .i64 (sk : Int)) := by
        have hkl : k < (sets cs.length).length := by rw [← HL.out]; exact hlt
        have h1 := HI.out.2.1.cellAt k (by rw [Nat.mul_one]; exact hlt)
        have h2 : (⟨g, k, none⟩ : Addr) = ⟨g, 0 + k, none⟩ := congrArg (fun x => (⟨g, x, none⟩ : Addr)) (Nat.zero_add k).symm
        first | rw [h1, getD_map _ k hkl, hsk] | rw [h2, h1, getD_map _ k hkl, hsk]
      have HSK := Apart0.mk hsk
      have HFIN := Apart0.mk (show ∀ (v' : Value) (W w1' : World), PlanI A c cs ms n w g cap L u6 k W → w1'.ownsRow (w.heap.size + 2) 49 3 v' (k + 1) (edgesT cs n k ++ edgeT cs n k) → W.grownBy w1' u6.ownBlock →
          PlanI A c cs ms n w g cap L v' (k + 1) w1' from fun v' W w1' h1 h2 h3 => h1.append h2 h3)
      have hk16 : k ≤ 16 := by omega
      by_cases hk0 : k = 0
      · have hpar : parentT cs n k = -1 := if_pos hk0
        have hed : edgeT cs n k = [.int .i64 (sk : Int), .int .i64 (-1), .bool false] := by unfold edgeT; rw [hpar, ← hsk]
        have HED := Apart0.mk hed
        clear hpos hp16 hbg hsk hpar hed
        subst hk0
        have HIA := Apart0.mk (show PlanI A c cs ms n w g cap L u6 0 ((wr.alloc (.cells #[.int .i64 (sk : Int), .int .i64 (-1), .bool false] 49)).alloc (.cells #[.int .i64 (sk : Int), .int .i64 (-1), .bool false] 49)) from
          HI.out.below (((Below.refl _ wr).alloc (Nat.le_refl _) _).alloc (by simp only [World.size_alloc]; omega) _))
        go_wp2_with (at_builtin; refine wpList_append_own _ rfl _ _ 43 rfl (w.heap.size + 2) 49 i0 (.agg #[.int .i64 0, .int .i64 0, .bool false]) 3 24 Try.underlying43 hi hz0 hz1 hz2 rfl (by decide) _ _ _ rfl HIA.out.1 ⟨wr.heap.size + 1, 0, none⟩ 1 1 [.int .i64 (sk : Int), .int .i64 (-1), .bool false] rfl ?qc1 ?qc2 ?qc3 ?qc4 ?qc5 ?qc6 ?_)
        case qc1 => rfl
        case qc2 =>
          intro j u hj
          exact cell_new3 _ _ (by simp) _ _ _ _ j u hj
        case qc3 => intro u hu; simp at hu; rcases hu with rfl | rfl | rfl <;> rfl
        case qc4 => unfold maxLen; omega
        case qc5 => omega
        case qc6 => exact HIA.out.2.2.2.2.2
        intro v' wq hown hgrow hnil
        have HN := Apart0.mk (HFIN.out v' _ wq HIA.out (by rw [HED.out]; exact hown) hgrow)
        clear hown hgrow hnil
        go_wp2_with fail
        go_roundw
        case rel => exact ⟨1, rfl, by omega, HN⟩
        case measure => simp only [intOf]; omega
      · have hkl2 : k < 2 ^ cs.length := by rw [← SL.out, ← HL.out]; exact hlt
        obtain ⟨hskm, hpne0⟩ := SG.out k hkl2
        rw [← hsk] at hskm hpne0
        have hpne := hpne0 hk0
        have hs16 : sk < 16 := Nat.lt_of_lt_of_le hskm hp16
        obtain ⟨par, hpar⟩ : ∃ par : Nat, par = leastL (fun p => sizeI cs n p) (parents sk cs.length) := ⟨_, rfl⟩
        have hed : edgeT cs n k = [.int .i64 (sk : Int), .int .i64 (par : Int), .bool false] := by
          unfold edgeT parentT; rw [if_neg hk0, ← hsk, hpar]
        have HED := Apart0.mk hed
        have hlen1 : 1 ≤ cs.length := by
          rcases Nat.eq_zero_or_pos cs.length with h | h
          · rw [h] at hkl2; omega
          · exact h
        obtain ⟨ad, hA, hAc⟩ := HCELL.out 0 (by omega)
        have hAb : ad.block < w.heap.size := by
          have := cell_lt hAc
          cases ad; simpa [Addr.add] using this
        have hpl := parents_len sk cs.length hd4
        obtain ⟨P, hP⟩ : ∃ P, P = parents sk cs.length := ⟨_, rfl⟩
        have hPm : ∀ x ∈ P, x < 16 := by
          intro x hx
          rw [hP] at hx
          have := List.mem_range.1 (List.mem_filter.1 hx).1
          omega
        have hpc := fun W => parents_calls sk cs.length hs16 hd4 W
        rw [← hP] at hpne hpar hpl hpc
        have hd0 : decide ((k : Int) > 0) = true := dec_pos k hk0
        have hgt : ((k : Int) > 0) := by omega
        have HPC := Apart0.mk hpc
        have HPM := Apart0.mk hPm
        have HPAR := Apart0.mk hpar
        have HA := Apart0.mk hA
        clear hpos hp16 hbg hkl2 hskm hpne0 hsk hed hpc hPm hpar hP hAc hA
        go_wp2_with fail
        refine (HPC.out _).mono ?_
        rintro e W2 ⟨vp, rfl, hrowp, hbp⟩
        rcases hrowp.2 with ⟨_, h0⟩ | ⟨gp, capp, curp, rfl, hbgp, hgp, _⟩
        · exact absurd (List.length_eq_zero_iff.1 h0) hpne
        have hgpl := (Array.getElem?_eq_some_iff.1 hgp).1
        have HRP := Apart0.mk hrowp
        have HBP := Apart0.mk hbp
        have hsz2 := hbp.size
        simp only [World.size_alloc] at hsz2
        clear hrowp hbp hgp
        go_wp2_with fail
        refine (values_calls _ _ _ _).mono ?_
        rintro e W3 ⟨rfl, hW3⟩
        have hem := values_emits W2.heap.size gp capp _ P (by omega) W3 (by rw [hW3]; exact World.alloc_heap_new _ _) (by rw [hW3]; exact HRP.out.alloc _)
        have hsz3 : W3.heap.size = W2.heap.size + 1 := by rw [hW3]; simp
        have hB3 : Below wr.heap.size wr W3 := by
          rw [hW3]
          exact (((Below.refl _ wr).alloc (Nat.le_refl _) _).trans (HBP.out.mono (by simp only [World.size_alloc]; omega))).alloc (by omega) _
        have hE3 : W3.heap[wr.heap.size]? = some (.cells #[.int .i64 (sk : Int), .int .i64 (-1), .bool false] 49 (0, 0)) := by
          rw [hW3, Below.heap_alloc _ _ _ (by omega), HBP.out.block _ (by simp only [World.size_alloc]; omega)]
          exact World.alloc_heap_new _ _
        have hP3 := HI.out.below hB3
        have hw3 : Below w.heap.size w W3 := hP3.2.2.1
        have hls := least_calls hem enters94 (by rintro j (rfl | rfl) <;> omega) 74 #[.pointer (some ⟨w.heap.size, 0, none⟩), .pointer (some ⟨w.heap.size + 1, 0, none⟩)] enters74
          (fpk := fpS A w.heap.size (w.heap.size + 1)) (by
            rintro j (rfl | rfl | ⟨ad', e, rfl⟩)
            · have := hw3.size; have := hP3.2.2.2.2.2; omega
            · have := hP3.2.2.2.2.2; omega
            · rw [HA.out] at e; cases e; have := hw3.size; omega)
          (fun p => sizeI cs n p) (by
            intro x hx W hW
            exact cost_calls A c cs ms n _ _ x (HPM.out x hx) HOK.out hn W3 W hP3.2.2.2.1 hP3.2.2.2.2.1 (fun i hi => by
              obtain ⟨ad', e, h⟩ := HCELL.out i hi
              refine ⟨ad', e, ?_⟩
              rw [hw3.cell (cell_lt h)]
              exact h) hW) hpne
        have HLS := Apart0.mk hls
        have HP3 := Apart0.mk hP3
        have HE3 := Apart0.mk hE3
        have HB3 := Apart0.mk hB3
        have HW3 := Apart0.mk hW3
        clear hem hls hE3 hP3 hw3 hW3 hB3
        go_wp2_with fail
        refine HLS.out.mono ?_
        rintro e W4 ⟨rfl, hb4⟩
        rw [← HPAR.out]
        have hE4 := (hb4.block _ (by omega)).trans HE3.out
        have hsz4 := hb4.size
        have hf4 : W4.frozen? ⟨wr.heap.size, 1, none⟩ = false := by simp [World.frozen?, hE4]
        have hE5 := setCell_same' (i := 1) hE4 (.int .i64 (par : Int))
        have q0 : (W4.setCell ⟨wr.heap.size, 1, none⟩ (.int .i64 (par : Int))).cell? ⟨wr.heap.size, 0, none⟩ = some (.int .i64 (sk : Int)) := by simp [World.cell?, hE5]
        have q1 : (W4.setCell ⟨wr.heap.size, 1, none⟩ (.int .i64 (par : Int))).cell? ⟨wr.heap.size, 1, none⟩ = some (.int .i64 (par : Int)) := by simp [World.cell?, hE5]
        have q2 : (W4.setCell ⟨wr.heap.size, 1, none⟩ (.int .i64 (par : Int))).cell? ⟨wr.heap.size, 2, none⟩ = some (.bool false) := by simp [World.cell?, hE5]
        have q3 : W4.cell? ⟨wr.heap.size, 1, none⟩ = some (.int .i64 (-1)) := by simp [World.cell?, hE4]
        have q4 : wr.heap.size < W4.heap.size := by omega
        have hB5 : Below wr.heap.size wr ((W4.setCell ⟨wr.heap.size, 1, none⟩ (.int .i64 (par : Int))).alloc (.cells #[.int .i64 (sk : Int), .int .i64 (par : Int), .bool false] 49)) :=
          ((HB3.out.trans (hb4.mono (by omega))).setCell (p := ⟨wr.heap.size, 1, none⟩) (Nat.le_refl _) _).alloc (by simp; omega) _
        have HIA := Apart0.mk (HI.out.below hB5)
        clear hE4 hE5 hb4 hB5
        go_wp2_with (at_builtin; refine wpList_append_own _ rfl _ _ 43 rfl (w.heap.size + 2) 49 i0 (.agg #[.int .i64 0, .int .i64 0, .bool false]) 3 24 Try.underlying43 hi hz0 hz1 hz2 rfl (by decide) _ _ _ rfl HIA.out.1 ⟨W4.heap.size, 0, none⟩ 1 1 [.int .i64 (sk : Int), .int .i64 (par : Int), .bool false] rfl ?qc1 ?qc2 ?qc3 ?qc4 ?qc5 ?qc6 ?_)
        case qc1 => rfl
        case qc2 =>
          intro j u hj
          exact cell_new3 _ _ (by simp) _ _ _ _ j u hj
        case qc3 => intro u hu; simp at hu; rcases hu with rfl | rfl | rfl <;> rfl
        case qc4 => unfold maxLen; omega
        case qc5 => omega
        case qc6 => exact HIA.out.2.2.2.2.2
        intro v' wq hown hgrow hnil
        have HN := Apart0.mk (HFIN.out v' _ wq HIA.out (by rw [HED.out]; exact hown) hgrow)
        clear hown hgrow hnil
        go_wp2_with fail
        go_roundw
        case rel => exact ⟨k + 1, congrArg _ (Int.natCast_succ k).symm, by omega, HN⟩
        case measure => simp only [intOf]; omega
    · have hd : decide ((k : Int) < (L : Int)) = false := dec_nlt k L hlt
      have hkL : k = L := by omega
      have hcl := clone_edges HI.out.1 (by omega) (edgesT_one cs n k)
      have HF := Apart0.mk (show ∀ (v9 : Value) (w9 : World), w9.ownsRow wr.heap.size 49 3 v9 k (edgesT cs n k) → Below wr.heap.size wr w9 → w9.ownsRow w.heap.size 49 3 v9 (sets cs.length).length (edgesT cs n (sets cs.length).length) ∧ Below w.heap.size w w9 from fun v9 w9 h1 h2 => by
        rw [← HL.out, ← hkL]
        exact ⟨ownsRow_base h1 HI.out.2.2.1.size, HI.out.2.2.1.trans (h2.mono HI.out.2.2.1.size)⟩)
      have HCL := Apart0.mk hcl
      clear hcl hpos hp16 hbg
      go_wp2_with fail
      refine HCL.out.mono ?_
      rintro e w9 ⟨v9, rfl, h91, h92⟩
      have HF9 := Apart0.mk (HF.out v9 w9 h91 h92)
      clear h91 h92
      go_wp2_with fail
      go_ret
      exact ⟨v9, rfl, HF9.out⟩
end Go.Proofs.Ytlplaidcdocbmaa.Core
