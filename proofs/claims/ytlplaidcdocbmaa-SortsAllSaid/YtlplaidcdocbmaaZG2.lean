-- Cut and merged by pack.py, a program of this session; not trusted: Lean checks it.
import Derived.RangeFuncNested
import Derived.RangeFuncBound
import Derived.RangeFuncCalls
import Derived.RangeFuncLeaves
import Derived.Shelf.Abstract
import Derived.Shelf.RegionOpen
import Derived.WalkKit
import Derived.OwnWalkIn
import Derived.TacticsInMore
import Derived.LoopNIn
import Derived.LoopIn
import Derived.Maps.AppendAt
import Derived.Test.YtlplaidcdocbmaaProg
import Derived.Test.YtlplaidcdocbmaaZG1
import Derived.Deep.Draws
import Derived.Tactics
import Derived.Lib.Walk
import Derived.Lib.SliceRun
import Derived.OwnWalk
import Derived.Outline
import Derived.Below
import Derived.Deep.AppendLies
import Derived.Laws.BytesArg
import Derived.Laws.MakeOwn
import Derived.Laws.OwnMore
import Derived.Deep.OwnRows
import Derived.Lib.ConvBytes
import Derived.Laws.Slices
import Derived.KernelRfl
import Derived.RowKit3
import Derived.Deep.LoopGhost
import Derived.Deep.QuietTactic
import Derived.BigQuiet
import Derived.WideLaws
import Derived.Deep.DeepCutAuto
import Derived.Deep.CutBlock
import Derived.Deep.RegionHeld3
import Derived.Laws.Rows
import Derived.Lib.AppendStr
import Derived.ArgAppend
import Derived.Laws.IdiomCopy
import Derived.OrdersHeld
import Derived.Laws.BitsLemmas
import Derived.RowKit
import Derived.Test.YtlplaidcdocbmaaZV0
import Derived.Lib.RabinKarpLaws
import Derived.Lib.QuietBelow
section
namespace Go.Proofs.Ytlplaidcdocbmaa.Core
open Go.RowKit Go.Shelf
set_option linter.unusedVariables false
set_option linter.unusedSimpArgs false
theorem info49 : (Try.prog.info? 49).map (fun i => (i.zero, i.size, i.bytes)) = some (some (.agg #[.int .i64 0, .int .i64 0, .bool false]), 3, 24) := by kernel_rfl
set_option maxHeartbeats 2000000 in
theorem clone_edges {base n : Nat} {v : Value} {news : List Value} {w : World} (h : w.ownsRow base 49 3 v n news) (hn : n ≤ 1000) (h1 : ∀ u ∈ news, u.oneCell' = true) :
    Calls Try.prog 75 #[v] w fun e w' => ∃ v' : Value, e = .returned v' ∧ w'.ownsRow w.heap.size 49 3 v' n news ∧ Below w.heap.size w w' := by
  obtain ⟨i0, hi, hz0, hz1, hz2⟩ := info_parts info49
  have q43 : ∀ (w : World) (a : Option Addr) (n c n' c' : Nat), (binOp .eql 43 (.slice a n c) (.slice none n' c')).run Try.prog w = .ok (.bool a.isNone) w := fun w a n c n' c' => Lib.run_eql_slice_nil w _ _ a n c n' c' Try.underlying43
  rcases h.2 with ⟨rfl, h0⟩ | ⟨g, cap, cur, rfl, hb, hg, hnc, hcm, hcs, htake⟩
  · subst h0
    have hx : news = [] := by have := h.1; simpa using this
    subst hx
    clear h h1
    go_enter Try.func75, Try.ntmps75
    go_wp2
    go_ret
    exact ⟨_, rfl, World.ownsRow_nil _ _ _ _, Below.refl _ _⟩
  · have HC := Apart0.mk h
    have hnl := h.1
    have HG := Apart0.mk hg
    clear hg h htake hcs hb
    go_enter Try.func75, Try.ntmps75
    go_wp2_with (at_builtin; refine wpList_append_own _ rfl _ _ 43 rfl w.heap.size 49 i0 (.agg #[.int .i64 0, .int .i64 0, .bool false]) 3 24 Try.underlying43 hi hz0 hz1 hz2 rfl (by decide) _ _ _ rfl (World.ownsRow_made w #[] 0 (Nat.le_refl _) (Nat.zero_le _) rfl) ⟨g, 0, none⟩ n cap news rfl ?qc1 ?qc2 ?qc3 ?qc4 ?qc5 ?qc6 ?_)
    case qc1 => exact hnl
    case qc2 =>
      intro j u hj
      have hjn : j < n * 3 := by
        have := (List.getElem?_eq_some_iff.1 hj).1
        omega
      rw [Addr.add_lit, Nat.zero_add]
      exact Lib.cell?_alloc_some _ ((HC.out.cellAt j hjn).trans hj)
    case qc3 => exact h1
    case qc4 => unfold maxLen; omega
    case qc5 => omega
    case qc6 => simp
    intro v' w1 hown hgrow hnil
    go_wp2
    go_ret
    exact ⟨v', rfl, by simpa using hown, ((Below.refl _ w).alloc (Nat.le_refl _) _).grown hgrow (by simp) (by intro k hk; simp [Value.ownBlock] at hk; omega)⟩
end Go.Proofs.Ytlplaidcdocbmaa.Core
end
section
namespace Go.Proofs.Ytlplaidcdocbmaa.Core
open Go.RowKit Go.Shelf
set_option linter.unusedVariables false
set_option linter.unusedSimpArgs false
def parentT (cs : List Int) (n : Int) (i : Nat) : Int := if i = 0 then -1 else ((leastL (fun p => sizeI cs n p) (parents ((sets cs.length).getD i 0) cs.length) : Nat) : Int)
def edgeT (cs : List Int) (n : Int) (i : Nat) : List Value := [.int .i64 (((sets cs.length).getD i 0 : Nat) : Int), .int .i64 (parentT cs n i), .bool false]
def edgesT (cs : List Int) (n : Int) (k : Nat) : List Value := (List.range k).flatMap (edgeT cs n)
theorem edgesT_succ (cs : List Int) (n : Int) (k : Nat) : edgesT cs n (k + 1) = edgesT cs n k ++ edgeT cs n k := by
  unfold edgesT
  rw [List.range_succ, List.flatMap_append]
  simp
theorem sets_fin : ∀ d : Nat, d < 5 → (sets d).length = 2 ^ d ∧ (∀ i : Nat, i < 2 ^ d → (sets d).getD i 0 < 2 ^ d ∧ (i ≠ 0 → parents ((sets d).getD i 0) d ≠ [])) := by decide +kernel
theorem dec_lt (k L : Nat) (h : k < L) : decide ((k : Int) < (L : Int)) = true := decide_eq_true (by omega)
theorem dec_nlt (k L : Nat) (h : ¬ k < L) : decide ((k : Int) < (L : Int)) = false := decide_eq_false (by omega)
theorem cell_new3 (W : World) (B : Nat) (hB : W.heap.size = B) (x y z : Value) (t : TypeId) (j : Nat) (u : Value) (h : [x, y, z][j]? = some u) : (W.alloc (.cells #[x, y, z] t)).cell? ((⟨B, 0, none⟩ : Addr).add j) = some u := by
  subst hB
  have hb : (W.alloc (.cells #[x, y, z] t)).heap[W.heap.size]? = some (.cells #[x, y, z] t (0, 0)) := World.alloc_heap_new W _
  rw [Addr.add_lit, Nat.zero_add]
  simp only [World.cell?, hb]
  simpa using h
theorem setCell_same' {w : World} {b i : Nat} {cs : Array Value} {T : TypeId} {fr : Nat × Nat} (hb : w.heap[b]? = some (.cells cs T fr)) (v : Value) : (w.setCell ⟨b, i, none⟩ v).heap[b]? = some (.cells (cs.setIfInBounds i v) T fr) := by
  simp [World.setCell, Array.getElem?_modify, hb]
def PlanI (A : Option Addr) (c : Nat) (cs : List Int) (ms n : Int) (w : World) (g cap L : Nat) (vo : Value) (k : Nat) (wr : World) : Prop :=
  wr.ownsRow (w.heap.size + 2) 49 3 vo k (edgesT cs n k) ∧ wr.ownsRow (w.heap.size + 2) 3 1 (.slice (some ⟨g, 0, none⟩) L cap) L ((sets cs.length).map encI) ∧ Below w.heap.size w wr ∧
    wr.heap[w.heap.size]? = some (.cells #[.slice A cs.length c, .int .i64 ms] 33 (0, 0)) ∧ wr.heap[w.heap.size + 1]? = some (.cells #[.int .i64 n] 3 (0, 0)) ∧ w.heap.size + 2 ≤ wr.heap.size
theorem own_base_le {W : World} {base e size k : Nat} {v : Value} {xs : List Value} (h : W.ownsRow base e size v k xs) : ∀ j, v.ownBlock = some j → base ≤ j := by
  intro j hj
  rcases h.2 with ⟨rfl, _⟩ | ⟨g, cap, cur, rfl, hb, _⟩
  · simp [Value.ownBlock] at hj
  · simp [Value.ownBlock] at hj; omega
theorem ownsRow_below' {B : Nat} {e : TypeId} {k : Nat} {v : Value} {n : Nat} {xs : List Value} {w w' : World} (h : w.ownsRow B e k v n xs) (hb : Below w.heap.size w w') : w'.ownsRow B e k v n xs := by
  refine ⟨h.1, ?_⟩
  rcases h.2 with hn | ⟨g, cap, cur, hv, hbg, hh, rest⟩
  · exact .inl hn
  · exact .inr ⟨g, cap, cur, hv, hbg, (hb.block g (Array.getElem?_eq_some_iff.1 hh).1).trans hh, rest⟩
section
variable {A : Option Addr} {c : Nat} {cs : List Int} {ms n : Int} {w : World} {g cap L : Nat} {vo : Value} {k : Nat} {wr w' : World}
theorem PlanI.below (h : PlanI A c cs ms n w g cap L vo k wr) (hb : Below wr.heap.size wr w') : PlanI A c cs ms n w g cap L vo k w' := by
  obtain ⟨h1, h2, h3, h4, h5, h6⟩ := h
  exact ⟨ownsRow_below' h1 hb, ownsRow_below' h2 hb, h3.trans (hb.mono h3.size), (hb.block _ (by omega)).trans h4, (hb.block _ (by omega)).trans h5, Nat.le_trans h6 hb.size⟩
theorem PlanI.append {v' : Value} (h : PlanI A c cs ms n w g cap L vo k wr) (hown : w'.ownsRow (w.heap.size + 2) 49 3 v' (k + 1) (edgesT cs n k ++ edgeT cs n k)) (hg : wr.grownBy w' vo.ownBlock) :
    PlanI A c cs ms n w g cap L v' (k + 1) w' := by
  obtain ⟨h1, h2, h3, h4, h5, h6⟩ := h
  have hb2 : Below (w.heap.size + 2) wr w' := (Below.refl _ wr).grown hg h6 (own_base_le h1)
  refine ⟨by rw [edgesT_succ]; exact hown, h2.kept hg ?_, h3.trans (hb2.mono (by omega)), (hb2.block _ (by omega)).trans h4, (hb2.block _ (by omega)).trans h5, Nat.le_trans h6 hb2.size⟩
  rcases h1.2 with ⟨rfl, _⟩ | ⟨g', cap', cur', rfl, _, hh, _⟩
  · right; simp [Value.ownBlock]
  · right
    rcases h2.2 with ⟨e, _⟩ | ⟨g2, cap2, cur2, e, _, hh2, _⟩
    · cases e
    · simp only [Value.slice.injEq, Option.some.injEq, Addr.mk.injEq] at e
      intro he
      simp only [Value.ownBlock, Option.some.injEq] at he
      obtain ⟨⟨rfl, _⟩, _⟩ := e
      subst he
      rw [hh] at hh2
      simp at hh2
end
end Go.Proofs.Ytlplaidcdocbmaa.Core
end
section
namespace Go.Proofs.Ytlplaidcdocbmaa.Srt
open Go.RowKit Go.Shelf Go.Proofs.Ytlplaidcdocbmaa.Core
open Go.Proofs.YtlplaidcdocbmaaW.PrintWords (Drawn0)
set_option linter.unusedVariables false
set_option linter.unusedSimpArgs false
def CardsAt (w : World) (A : Option Addr) (cs : List Int) : Prop := ∀ i : Nat, i < cs.length → ∃ ad, A = some ad ∧ w.cell? (ad.add i) = some (.int .i64 (cs.getD i 0))
theorem CardsAt.below {w w' : World} {A : Option Addr} {cs : List Int} (h : CardsAt w A cs) (hb : Below w.heap.size w w') : CardsAt w' A cs := fun i hi => by
  obtain ⟨ad, e, hc⟩ := h i hi
  exact ⟨ad, e, (hb.cell (cell_lt hc)).trans hc⟩
theorem size_at {w : World} {A : Option Addr} {c : Nat} {cs : List Int} {ms n : Int} {p : Nat} (hp : p < 16) (hok : okCards cs = true) (hn : 0 ≤ n ∧ n ≤ 1000000) (h : CardsAt w A cs) :
    Calls Try.prog 34 #[.agg #[.slice A cs.length c, .int .i64 ms], .int .i64 n, .int .i64 (p : Int)] w fun e w' => e = .returned (.int .i64 (sizeI cs n p)) ∧ Below w.heap.size w w' :=
  size_calls A c cs ms n p hp (okCards_len hok) (okCards_all hok) hn w h
theorem lscan_at {w : World} {A : Option Addr} {c : Nat} {cs : List Int} {ms n : Int} {p : Nat} (hp : p < 16) (hok : okCards cs = true) (hn : 0 ≤ n ∧ n ≤ 1000000) (h : CardsAt w A cs) :
    Calls Try.prog 47 #[.agg #[.slice A cs.length c, .int .i64 ms], .int .i64 n, .int .i64 (p : Int)] w fun e w' => e = .returned (.int .i64 (sizeI cs n p)) ∧ Below w.heap.size w w' := by
  have HZ := Apart0.mk (fun W (hW : Below w.heap.size w W) => size_at (c := c) (ms := ms) hp hok hn (h.below hW))
  clear h hok
  go_enter Try.func47, Try.ntmps47
  go_wp2_with fail
  refine (HZ.out _ ((Below.refl _ w).alloc (Nat.le_refl _) _)).mono ?_
  rintro e w' ⟨rfl, hb⟩
  go_wp2_with fail
  go_ret
  exact ⟨rfl, ((Below.refl _ w).alloc (Nat.le_refl _) _).trans (hb.mono (by simp only [World.size_alloc]; omega))⟩
def sortC (cs : List Int) (n : Int) (p : Nat) : Int := sortI (sizeI cs n p)
def scanC (cs : List Int) (n : Int) (p : Nat) : Int := sizeI cs n p
theorem lsort_at {w : World} {A : Option Addr} {c : Nat} {cs : List Int} {ms n : Int} {p : Nat} (hp : p < 16) (hok : okCards cs = true) (h1 : ∀ x ∈ cs, 1 ≤ x) (hn : 0 ≤ n ∧ n ≤ 300) (h : CardsAt w A cs) :
    Calls Try.prog 49 #[.agg #[.slice A cs.length c, .int .i64 ms], .int .i64 n, .int .i64 (p : Int)] w fun e w' => e = .returned (.int .i64 (sortC cs n p)) ∧ Below w.heap.size w w' := by
  have HZ := Apart0.mk (fun W (hW : Below w.heap.size w W) => size_at (c := c) (ms := ms) hp hok (by omega : 0 ≤ n ∧ n ≤ 1000000) (h.below hW))
  obtain ⟨b1, b2, _⟩ := sizeI_bd cs h1 n p hn.1
  have hsC : sortC cs n p = sortI (sizeI cs n p) := rfl
  rw [hsC]
  generalize sizeI cs n p = z at *
  obtain ⟨l1, l2, l3, l4⟩ := sort_bd b1 (by omega)
  have HL := Apart0.mk (show ∀ W, Calls Try.prog 79 #[.int .u64 (max z 0)] W fun e w' => e = .returned (.int .i64 (lenI z)) ∧ Drawn0 W w' from fun W => by rw [show max z 0 = z by omega]; exact len_K z b1 (by omega) W)
  have hq : 0 ≤ z * lenI z ∧ z * lenI z ≤ 2700 := by unfold sortI at l3 l4; omega
  have HS := Apart0.mk (show sortI z = wrap64 (z + wrap64 (z * lenI z)) by
    show z + z * lenI z = _
    generalize z * lenI z = q at *
    unfold wrap64
    omega)
  generalize lenI z = L at *
  clear h hok h1 hsC l3 l4 hq
  go_enter Try.func49, Try.ntmps49
  go_wp2_with fail
  refine (HZ.out _ ((Below.refl _ w).alloc (Nat.le_refl _) _)).mono ?_
  rintro e w' ⟨rfl, hb⟩
  have HB := Apart0.mk hb
  clear hb
  go_wp2_with fail
  refine (HL.out _).mono ?_
  rintro e w2 ⟨rfl, hd⟩
  have HB2 := Apart0.mk (HB.out.trans (hd.below.mono HB.out.size))
  clear hd
  go_wp2_with fail
  go_ret
  exact ⟨by rw [HS.out]; rfl, ((Below.refl _ w).alloc (Nat.le_refl _) _).trans (HB2.out.mono (by simp only [World.size_alloc]; omega))⟩
section
variable {w : World} {A : Option Addr} {c : Nat} {cs : List Int} {ms n : Int} {p : Nat}
theorem below_one {w w' : World} {o : Obj} (hb : Below (w.alloc o).heap.size (w.alloc o) w') : Below w.heap.size w w' :=
  ((Below.refl _ w).alloc (Nat.le_refl _) _).trans (hb.mono (by simp only [World.size_alloc]; omega))
theorem scan_at (hp : p < 16) (hok : okCards cs = true) (hn : 0 ≤ n ∧ n ≤ 1000000) (h : CardsAt w A cs) :
    Calls Try.prog 83 #[.agg #[.slice A cs.length c, .int .i64 ms, .int .i64 n], .int .i64 (p : Int)] w fun e w' => e = .returned (.int .i64 (scanC cs n p)) ∧ Below w.heap.size w w' := by
  have HZ := Apart0.mk (fun W (hW : Below w.heap.size w W) => lscan_at (c := c) (ms := ms) hp hok hn (h.below hW))
  clear h hok
  go_enter Try.func83, Try.ntmps83
  go_wp2_with fail
  refine (HZ.out _ ((Below.refl _ w).alloc (Nat.le_refl _) _)).mono ?_
  rintro e w' ⟨rfl, hb⟩
  go_wp2_with fail
  go_ret
  exact ⟨rfl, below_one hb⟩
theorem sort_at (hp : p < 16) (hok : okCards cs = true) (h1 : ∀ x ∈ cs, 1 ≤ x) (hn : 0 ≤ n ∧ n ≤ 300) (h : CardsAt w A cs) :
    Calls Try.prog 82 #[.agg #[.slice A cs.length c, .int .i64 ms, .int .i64 n], .int .i64 (p : Int)] w fun e w' => e = .returned (.int .i64 (sortC cs n p)) ∧ Below w.heap.size w w' := by
  have HZ := Apart0.mk (fun W (hW : Below w.heap.size w W) => lsort_at (c := c) (ms := ms) hp hok h1 hn (h.below hW))
  clear h hok h1
  go_enter Try.func82, Try.ntmps82
  go_wp2_with fail
  refine (HZ.out _ ((Below.refl _ w).alloc (Nat.le_refl _) _)).mono ?_
  rintro e w' ⟨rfl, hb⟩
  go_wp2_with fail
  go_ret
  exact ⟨rfl, below_one hb⟩
end
theorem getD_map' (xs : List Nat) (k : Nat) (h : k < xs.length) : (xs.map Core.encI)[k]? = some (.int .i64 ((xs.getD k 0 : Nat) : Int)) := by
  rw [List.getElem?_map, List.getElem?_eq_getElem h, List.getD_eq_getElem?_getD, List.getElem?_eq_getElem h]
  rfl
def NatsAt (w : World) (A : Option Addr) (xs : List Nat) : Prop := ∀ i : Nat, i < xs.length → ∃ ad, A = some ad ∧ w.cell? (ad.add i) = some (.int .i64 ((xs.getD i 0 : Nat) : Int))
theorem NatsAt.below {w w' : World} {A : Option Addr} {xs : List Nat} (h : NatsAt w A xs) (hb : Below w.heap.size w w') : NatsAt w' A xs := fun i hi => by
  obtain ⟨ad, e, hc⟩ := h i hi
  exact ⟨ad, e, (hb.cell (cell_lt hc)).trans hc⟩
theorem nats_own {w : World} {base g cap : Nat} {xs : List Nat} (h : w.ownsRow base 3 1 (.slice (some ⟨g, 0, none⟩) xs.length cap) xs.length (xs.map Core.encI)) : NatsAt w (some ⟨g, 0, none⟩) xs := fun i hi => by
  refine ⟨_, rfl, ?_⟩
  have h1 := h.cellAt i (by rw [Nat.mul_one]; exact hi)
  rw [getD_map' xs i hi] at h1
  rw [Addr.add_lit, Nat.zero_add]
  exact h1
theorem index_at (A : Option Addr) (c : Nat) (xs : List Nat) (v : Int) (hl : xs.length ≤ 1000) (w : World) (h : NatsAt w A xs) :
    Calls Try.prog 100 #[.slice A xs.length c, .int .i64 v] w fun e w' => (∃ r : Int, e = .returned (.int .i64 r) ∧ decide (0 ≤ r) = xs.any fun (x : Nat) => (x : Int) == v) ∧ w = w' := by
  have H := Apart0.mk h
  clear h
  go_enter Try.func100, Try.ntmps100
  go_wp2
  go_loop [8] (fun i => ∃ k : Nat, k ≤ xs.length ∧ i = .int .i64 k ∧ Apart0 ((xs.take k).any (fun (x : Nat) => (x : Int) == v) = false)) (fun i => xs.length - (intOf i).toNat)
  case atStart => exact ⟨0, Nat.zero_le _, rfl, ⟨rfl⟩⟩
  case round =>
    obtain ⟨k, hk, rfl, HA⟩ := hrel
    by_cases hlt : k < xs.length
    · obtain ⟨ad, eA, hc⟩ := H.out k hlt
      subst eA
      have hg : xs.getD k 0 = xs[k] := by simp [hlt]
      have htk : xs.take (k + 1) = xs.take k ++ [xs.getD k 0] := by rw [hg]; exact List.take_succ_eq_append_getElem hlt
      have hmem : xs.getD k 0 ∈ xs := by rw [hg]; exact List.getElem_mem hlt
      have HTK := Apart0.mk htk
      have HM := Apart0.mk hmem
      clear htk hg hmem
      generalize xs.getD k 0 = x at *
      by_cases hv : v = (x : Int)
      · have hb : (v == (x : Int)) = true := beq_iff_eq.2 hv
        have HF := Apart0.mk (show xs.any (fun (x : Nat) => (x : Int) == v) = true from List.any_eq_true.2 ⟨x, HM.out, beq_iff_eq.2 hv.symm⟩)
        clear hv
        go_wp2
        go_ret
        exact ⟨⟨_, rfl, by rw [HF.out]; exact decide_eq_true (by omega)⟩, rfl⟩
      · have hb : (v == (x : Int)) = false := beq_eq_false_iff_ne.2 hv
        have HF := Apart0.mk (show (xs.take (k + 1)).any (fun (x : Nat) => (x : Int) == v) = false by rw [HTK.out, List.any_append, HA.out, List.any_cons, beq_eq_false_iff_ne.2 (fun e => hv e.symm)]; rfl)
        clear hv
        go_wp2
        go_round
        case rel => exact ⟨k + 1, by omega, by go_num, HF⟩
        case measure => simp [intOf]; omega
    · have hk2 : k = xs.length := by omega
      have HF := HA.out
      rw [hk2, List.take_length] at HF
      have HG := Apart0.mk HF
      clear HF
      go_wp2
      go_ret
      exact ⟨⟨_, rfl, by rw [HG.out]; rfl⟩, rfl⟩
theorem contains_at (A : Option Addr) (c : Nat) (xs : List Nat) (v : Int) (hl : xs.length ≤ 1000) (w : World) (h : NatsAt w A xs) :
    Calls Try.prog 80 #[.slice A xs.length c, .int .i64 v] w fun e w' => e = .returned (.bool (xs.any fun (x : Nat) => (x : Int) == v)) ∧ w = w' := by
  have H := Apart0.mk h
  clear h
  go_enter Try.func80, Try.ntmps80
  go_wp2_with fail
  refine (index_at A c xs v hl _ H.out).mono ?_
  rintro e w' ⟨⟨r, rfl, hr⟩, rfl⟩
  have HR := Apart0.mk hr
  clear hr
  go_wp2_with fail
  go_ret
  exact ⟨by rw [← HR.out]; rfl, rfl⟩
end Go.Proofs.Ytlplaidcdocbmaa.Srt
end
section
namespace Go.Proofs.Ytlplaidcdocbmaa.Mat
open Go.RowKit Go.Proofs.YtlplaidcdocbmaaW.PrintWords Go.Proofs.YtlplaidcdocbmaaW.PrintLast Go.Proofs.YtlplaidcdocbmaaW.PrintMore
set_option linter.unusedVariables false
set_option linter.unusedSimpArgs false
theorem within_calls (c : Int) (w : World) :
    Calls Try.prog 113 #[.int .i64 c] w fun e w' => e = .returned (.bool (decide (0 ≤ c) && decide (c ≤ 1000000))) ∧ w = w' := by
  by_cases h0 : 0 ≤ c
  · by_cases h1 : c ≤ 1000000
    · have b0 : decide (0 ≤ c) = true := decide_eq_true h0
      have b1 : decide (c ≤ 1000000) = true := decide_eq_true h1
      go_enter Try.func113, Try.ntmps113
      go_wp2
      go_ret
      exact ⟨by simp [h0, h1], rfl⟩
    · have b0 : decide (0 ≤ c) = true := decide_eq_true h0
      have b1 : decide (c ≤ 1000000) = false := decide_eq_false h1
      go_enter Try.func113, Try.ntmps113
      go_wp2
      go_ret
      exact ⟨by simp [h0, h1], rfl⟩
  · have b0 : decide (0 ≤ c) = false := decide_eq_false h0
    go_enter Try.func113, Try.ntmps113
    go_wp2
    go_ret
    exact ⟨by simp [h0], rfl⟩
def okc (c : Int) : Bool := decide (0 ≤ c) && decide (c ≤ 1000000)
theorem okc_calls (c : Int) (w : World) : Calls Try.prog 113 #[.int .i64 c] w fun e w' => e = .returned (.bool (okc c)) ∧ w = w' := within_calls c w
theorem all_take_succ (l : List Int) (k : Nat) (hk : k < l.length) (h : (l.take k).all okc = true) (h2 : okc (rd l k) = true) : (l.take (k + 1)).all okc = true := by
  have hg : l.take (k + 1) = l.take k ++ [rd l k] := by
    rw [List.take_succ_eq_append_getElem hk]
    simp [rd, hk]
  rw [hg, List.all_append, h]
  simp [h2]
theorem all_false_at (l : List Int) (k : Nat) (hk : k < l.length) (h2 : okc (rd l k) = false) : l.all okc = false := by
  rw [List.all_eq_false]
  exact ⟨l[k], List.getElem_mem hk, by have : rd l k = l[k] := by simp [rd, hk]
                                       rw [← this, h2]; simp⟩
theorem cell_int {w : World} {A : Option Addr} {l : List Int} (hr : Kd.C (Kd.int .i64) w A l.length l) (k : Nat) (hk : k < l.length) :
    ∃ ad, A = some ad ∧ w.cell? (ad.add k) = some (.int .i64 (rd l k)) := by
  obtain ⟨ad, c, e, hc, hK, hcell⟩ := Kd.C_get hr (0 : Int) (k : Int) (by omega) (by omega)
  refine ⟨ad, e, ?_⟩
  have hc1 : c = [.int .i64 (rd l k)] := by
    have := hK
    simpa [Kd.int, Kd.scalar, rd] using this
  have h := hcell 0 _ (by rw [hc1]; rfl)
  simpa [Kd.int, Kd.scalar] using h
theorem each_int_calls (A : Option Addr) (c : Nat) (l : List Int) (w : World) (hr : Kd.C (Kd.int .i64) w A l.length l) (hl : l.length ≤ 9223372036854775807) :
    Calls Try.prog 112 #[.slice A l.length c, .func (.func 113) #[] #[]] w fun e w' => e = .returned (.bool (l.all okc)) ∧ w = w' := by
  have HR := Aside0.mk hr
  clear hr
  go_enter Try.func112, Try.ntmps112
  go_wp2
  go_loop [9] (fun i => ∃ k : Nat, k ≤ l.length ∧ i = .int .i64 k ∧ Aside0 ((l.take k).all okc = true)) (fun i => l.length - (intOf i).toNat)
  case atStart => exact ⟨0, Nat.zero_le _, rfl, ⟨rfl⟩⟩
  case round =>
    obtain ⟨k, hk, rfl, HA⟩ := hrel
    by_cases hlt : k < l.length
    · obtain ⟨ad, eA, hc0⟩ : ∃ ad, A = some ad ∧ w.cell? (ad.add k) = some (.int .i64 (rd l k)) := by
        exact cell_int HR.out k hlt
      subst eA
      cases hb : okc (rd l k)
      · have HF := Aside0.mk (all_false_at l k hlt hb)
        go_wp2_with (first | (go_at_call 113; refine (okc_calls _ _).mono ?_; rintro e w' ⟨rfl, rfl⟩))
        go_ret
        exact ⟨by first | rfl | (rw [HF.out]; rfl), rfl⟩
      · have HF := Aside0.mk (all_take_succ l k hlt HA.out hb)
        go_wp2_with (first | (go_at_call 113; refine (okc_calls _ _).mono ?_; rintro e w' ⟨rfl, rfl⟩))
        go_round
        case rel => exact ⟨k + 1, by omega, by go_num, HF⟩
        case measure => simp [intOf]; omega
    · have hk2 : k = l.length := by omega
      have HF := HA.out
      rw [hk2, List.take_length] at HF
      have HF := Aside0.mk HF
      go_wp2
      go_ret
      exact ⟨by first | rfl | (rw [HF.out]; rfl), rfl⟩
end Go.Proofs.Ytlplaidcdocbmaa.Mat
end
section
namespace Go.Proofs.Ytlplaidcdocbmaa.Mat
open Go.RowKit Go.Proofs.YtlplaidcdocbmaaW.PrintWords Go.Proofs.YtlplaidcdocbmaaW.PrintLast Go.Proofs.YtlplaidcdocbmaaW.PrintMore
set_option linter.unusedVariables false
set_option linter.unusedSimpArgs false
def rdL (xs : List (List Int)) (i : Int) : List Int := xs.getD i.toNat []
def rowOk (cost : List (List Int)) (row : List Int) : Bool := decide (row.length = (rdL cost 0).length) && decide (row.length ≤ 12) && decide (cost.length ≤ row.length) && row.all okc
theorem cell_row {w : World} {A : Option Addr} {l : List (List Int)} (hr : Kd.C (Kd.slice 3 (Kd.int .i64)) w A l.length l) (k : Nat) (hk : k < l.length) :
    ∃ ad A0 c0, A = some ad ∧ w.cell? (ad.add k) = some (.slice A0 (rdL l k).length c0) ∧ Kd.C (Kd.int .i64) w A0 (rdL l k).length (rdL l k) := by
  obtain ⟨ad, c, e, _, hK, hc0⟩ := Kd.C_get hr ([] : List Int) (k : Int) (by omega) (by omega)
  have hc : ∀ j u, c[j]? = some u → w.cell? (ad.add ((k : Int).toNat * 1 + j)) = some u := hc0
  obtain ⟨A0, c0, rfl, l0, g0⟩ := hK
  exact ⟨ad, A0, c0, e, by have hq := hc 0 _ rfl; simpa [rdL] using hq, g0⟩
theorem closure_calls (b : Nat) (A0 : Option Addr) (c0 : Nat) (cost : List (List Int)) (Ar : Option Addr) (cr : Nat) (row : List Int) (w : World)
    (hcell : w.cell? ⟨b, 0, none⟩ = some (.slice A0 cost.length c0)) (hC : Kd.C (Kd.slice 3 (Kd.int .i64)) w A0 cost.length cost)
    (hne : 0 < cost.length) (hr : Kd.C (Kd.int .i64) w Ar row.length row) :
    Calls Try.prog 111 #[.slice Ar row.length cr, .pointer (some ⟨b, 0, none⟩)] w fun e w' => e = .returned (.bool (rowOk cost row)) ∧ w = w' := by
  obtain ⟨ad, A1, c1, rfl, hc1, _⟩ := cell_row hC 0 hne
  have HC := Aside0.mk hC
  have HR := Aside0.mk hr
  clear hC hr
  rw [Addr.add_zero'] at hc1
  simp only [Int.natCast_zero] at hc1
  have p0 : ((0 : Int) < (cost.length : Int)) = True := eq_true (by omega)
  have p1 : (0 < cost.length) = True := eq_true hne
  by_cases h1 : row.length = (rdL cost 0).length
  · by_cases h2 : row.length ≤ 12
    · by_cases h3 : cost.length ≤ row.length
      · have HF : Aside0 (rowOk cost row = row.all okc) := ⟨by unfold rowOk; rw [decide_eq_true h1, decide_eq_true h2, decide_eq_true h3]; rfl⟩
        have b1 : ((row.length : Int) == ((rdL cost 0).length : Int)) = true := beq_iff_eq.2 (by omega)
        have b2 : decide (row.length ≤ 12) = true := decide_eq_true h2
        have b3 : decide (cost.length ≤ row.length) = true := decide_eq_true h3
        have h12 : row.length ≤ 9223372036854775807 := by omega
        clear h1
        go_enter Try.func111, Try.ntmps111
        go_wp2_with (first | (go_at_call 112; refine (each_int_calls Ar cr row _ HR.out h12).mono ?_; rintro e w' ⟨rfl, rfl⟩))
        go_ret
        exact ⟨by rw [HF.out]; rfl, rfl⟩
      · have HF : Aside0 (rowOk cost row = false) := ⟨by unfold rowOk; rw [decide_eq_false h3]; simp⟩
        have b1 : ((row.length : Int) == ((rdL cost 0).length : Int)) = true := beq_iff_eq.2 (by omega)
        have b2 : decide (row.length ≤ 12) = true := decide_eq_true h2
        have b3 : decide (cost.length ≤ row.length) = false := decide_eq_false h3
        clear h1
        go_enter Try.func111, Try.ntmps111
        go_wp2
        go_ret
        exact ⟨by rw [HF.out]; rfl, rfl⟩
    · have HF : Aside0 (rowOk cost row = false) := ⟨by unfold rowOk; rw [decide_eq_false h2]; simp⟩
      have b1 : ((row.length : Int) == ((rdL cost 0).length : Int)) = true := beq_iff_eq.2 (by omega)
      have b2 : decide (row.length ≤ 12) = false := decide_eq_false h2
      clear h1
      go_enter Try.func111, Try.ntmps111
      go_wp2
      go_ret
      exact ⟨by rw [HF.out]; rfl, rfl⟩
  · have HF : Aside0 (rowOk cost row = false) := ⟨by unfold rowOk; rw [decide_eq_false h1]; simp⟩
    have b1 : ((row.length : Int) == ((rdL cost 0).length : Int)) = false := beq_eq_false_iff_ne.2 (by omega)
    clear h1
    go_enter Try.func111, Try.ntmps111
    go_wp2
    go_ret
    exact ⟨by rw [HF.out]; rfl, rfl⟩
theorem all_take_succ' {α : Type} (d : α) (p : α → Bool) (l : List α) (k : Nat) (hk : k < l.length) (h : (l.take k).all p = true) (h2 : p (l.getD k d) = true) : (l.take (k + 1)).all p = true := by
  have hg : l.take (k + 1) = l.take k ++ [l.getD k d] := by
    rw [List.take_succ_eq_append_getElem hk]
    simp [hk]
  rw [hg, List.all_append, h]
  simpa using h2
theorem all_false_at' {α : Type} (d : α) (p : α → Bool) (l : List α) (k : Nat) (hk : k < l.length) (h2 : p (l.getD k d) = false) : l.all p = false := by
  rw [List.all_eq_false]
  refine ⟨l[k], List.getElem_mem hk, ?_⟩
  have : l.getD k d = l[k] := by simp [hk]
  rw [← this, h2]
  simp
theorem each_rows_calls (b : Nat) (A0 : Option Addr) (c0 : Nat) (cost : List (List Int)) (w : World)
    (hcell : w.cell? ⟨b, 0, none⟩ = some (.slice A0 cost.length c0)) (hC : Kd.C (Kd.slice 3 (Kd.int .i64)) w A0 cost.length cost) (h12 : cost.length ≤ 12) :
    Calls Try.prog 110 #[.slice A0 cost.length c0, .func (.func 111) #[] #[.pointer (some ⟨b, 0, none⟩)]] w fun e w' => e = .returned (.bool (cost.all (rowOk cost))) ∧ w = w' := by
  have HC := Aside0.mk hC
  have HE := Aside0.mk hcell
  clear hC hcell
  go_enter Try.func110, Try.ntmps110
  go_wp2
  go_loop [9] (fun i => ∃ k : Nat, k ≤ cost.length ∧ i = .int .i64 k ∧ Aside0 ((cost.take k).all (rowOk cost) = true)) (fun i => cost.length - (intOf i).toNat)
  case atStart => exact ⟨0, Nat.zero_le _, rfl, ⟨rfl⟩⟩
  case round =>
    obtain ⟨k, hk, rfl, HA⟩ := hrel
    by_cases hlt : k < cost.length
    · obtain ⟨ad, A1, c1, rfl, hc1, hk1⟩ := cell_row HC.out k hlt
      have HK := Aside0.mk hk1
      have hne : 0 < cost.length := by omega
      clear hk1
      have hp : (0 : Int) ≤ (k : Int) := by omega
      cases hb : rowOk cost (rdL cost k)
      · have HF := Aside0.mk (all_false_at' [] (rowOk cost) cost k hlt hb)
        have HB := Aside0.mk hb
        clear hb
        go_wp2_with (first | (go_at_call 111; refine (closure_calls b _ c0 cost A1 c1 (rdL cost k) _ HE.out HC.out hne HK.out).mono ?_; rintro e w' ⟨rfl, rfl⟩; rw [HB.out]))
        go_ret
        exact ⟨by rw [HF.out]; rfl, rfl⟩
      · have HF := Aside0.mk (all_take_succ' [] (rowOk cost) cost k hlt HA.out hb)
        have HB := Aside0.mk hb
        clear hb
        go_wp2_with (first | (go_at_call 111; refine (closure_calls b _ c0 cost A1 c1 (rdL cost k) _ HE.out HC.out hne HK.out).mono ?_; rintro e w' ⟨rfl, rfl⟩; rw [HB.out]))
        go_round
        case rel => exact ⟨k + 1, by omega, by go_num, HF⟩
        case measure => simp [intOf]; omega
    · have hk2 : k = cost.length := by omega
      have HF := HA.out
      rw [hk2, List.take_length] at HF
      have HG := Aside0.mk HF
      clear HF
      go_wp2
      go_ret
      exact ⟨by first | rfl | (rw [HG.out]; rfl), rfl⟩
def right (cost : List (List Int)) : Bool := decide (cost.length ≤ 12) && cost.all (rowOk cost)
theorem right_calls (A0 : Option Addr) (c0 : Nat) (cost : List (List Int)) (w : World) (hC : Kd.C (Kd.slice 3 (Kd.int .i64)) w A0 cost.length cost) :
    Calls Try.prog 108 #[.slice A0 cost.length c0] w fun e w' => e = .returned (.bool (right cost)) ∧ Below w.heap.size w w' := by
  have HC := Aside0.mk (Kd.C_alloc hC (.cells #[.slice A0 cost.length c0] 37))
  have HC0 := Aside0.mk hC
  clear hC
  by_cases h12 : cost.length ≤ 12
  · have HF : Aside0 (right cost = cost.all (rowOk cost)) := ⟨by unfold right; rw [decide_eq_true h12]; rfl⟩
    have b1 : decide (12 < cost.length) = false := decide_eq_false (by omega)
    have b2 : decide ((12 : Int) < (cost.length : Int)) = false := decide_eq_false (by omega)
    go_enter Try.func108, Try.ntmps108
    go_wp2_with (first | (go_at_call 110; refine (each_rows_calls _ A0 c0 cost _ (by simp) HC.out h12).mono ?_; rintro e w' ⟨rfl, rfl⟩))
    go_ret
    exact ⟨by rw [HF.out]; rfl, by exact below_alloc (Below.refl _ _) _⟩
  · have HF : Aside0 (right cost = false) := ⟨by unfold right; rw [decide_eq_false h12]; rfl⟩
    have b1 : decide (12 < cost.length) = true := decide_eq_true (by omega)
    have b2 : decide ((12 : Int) < (cost.length : Int)) = true := decide_eq_true (by omega)
    go_enter Try.func108, Try.ntmps108
    go_wp2
    go_ret
    exact ⟨by rw [HF.out]; rfl, by exact below_alloc (Below.refl _ _) _⟩
end Go.Proofs.Ytlplaidcdocbmaa.Mat
end
section
namespace Go.Proofs.Ytlplaidcdocbmaa.Mat
open Go.RowKit Go.Proofs.YtlplaidcdocbmaaW.PrintWords Go.Proofs.YtlplaidcdocbmaaW.PrintLast Go.Proofs.YtlplaidcdocbmaaW.PrintMore
set_option linter.unusedVariables false
set_option linter.unusedSimpArgs false
def HOPE : Int := 1099511627776
def step (r : List Int) (B : Nat → Int) (s : Nat) (acc : Int) (k : Nat) : Int := if s.testBit k = true then acc else mn acc (r.getD k 0 + B (s ||| 2 ^ k))
def best : List (List Int) → Nat → Int
  | [], _ => 0
  | r :: rs, s => (List.range r.length).foldl (step r (best rs) s) HOPE
def hit (r : List Int) (B : Nat → Int) (b : Int) (s k : Nat) : Bool := !s.testBit k && decide (r.getD k 0 + B (s ||| 2 ^ k) = b)
def pick : List (List Int) → Nat → List Int
  | [], _ => []
  | r :: rs, s => match (List.range r.length).find? (hit r (best rs) (best (r :: rs) s) s) with
    | some k => (k : Int) :: pick rs (s ||| 2 ^ k)
    | none => pick rs s
def assign (c : List (List Int)) : List Int × Int × Bool := if right c = true then (pick c 0, best c 0, true) else ([], 0, false)
def GoodRow (m : Nat) (r : List Int) : Prop := r.length = m ∧ ∀ k, 0 ≤ r.getD k 0 ∧ r.getD k 0 ≤ 1000000
def Good (m : Nat) (rs : List (List Int)) : Prop := ∀ r ∈ rs, GoodRow m r
theorem foldl_inv {P : Int → Prop} (f : Int → Nat → Int) : ∀ (l : List Nat) (a : Int), P a → (∀ a, ∀ k ∈ l, P a → P (f a k)) → P (l.foldl f a)
  | [], a, h, _ => h
  | k :: l, a, h, hs => by
    rw [List.foldl_cons]
    exact foldl_inv f l _ (hs a k (by simp) h) (fun a k' hk => hs a k' (by simp [hk]))
theorem mn_def (a b : Int) : mn a b = if b < a then b else a := rfl
theorem best_bound (m : Nat) : ∀ (rs : List (List Int)) (s : Nat), rs.length ≤ 12 → Good m rs → best rs s = HOPE ∨ (0 ≤ best rs s ∧ best rs s ≤ 1000000 * (rs.length : Int))
  | [], s, _, _ => .inr ⟨by simp [best], by simp [best]⟩
  | r :: rs, s, hl, hg => by
    have hl' : rs.length ≤ 11 := by simpa using hl
    have ih := fun s => best_bound m rs s (by omega) (fun r hr => hg r (by simp [hr]))
    have hr := (hg r (by simp)).2
    have hL : (((r :: rs).length : Nat) : Int) = (rs.length : Int) + 1 := by simp
    rw [hL]
    show (List.range r.length).foldl (step r (best rs) s) HOPE = HOPE ∨ _
    unfold best
    refine foldl_inv (P := fun a => a = HOPE ∨ (0 ≤ a ∧ a ≤ 1000000 * ((rs.length : Int) + 1))) _ _ _ (.inl rfl) (fun a k _ ha => ?_)
    simp only [step, mn_def]
    have h1 := ih (s ||| 2 ^ k)
    have h2 := hr k
    unfold HOPE at *
    split
    · exact ha
    · split <;> omega
theorem best_range {m : Nat} {rs : List (List Int)} (hl : rs.length ≤ 12) (hg : Good m rs) (s : Nat) : 0 ≤ best rs s ∧ best rs s ≤ HOPE := by
  have := best_bound m rs s hl hg
  unfold HOPE at *
  omega
theorem drop_range (m k : Nat) (h : k < m) : (List.range m).drop k = k :: (List.range m).drop (k + 1) := by
  rw [List.drop_eq_getElem_cons (by simpa using h)]
  simp
theorem or_lt {s k m : Nat} (hs : s < 2 ^ m) (hk : k < m) : s ||| 2 ^ k < 2 ^ m := Nat.or_lt_two_pow hs (Nat.pow_lt_pow_right (by decide) hk)
theorem pow12 {m : Nat} (hm : m ≤ 12) : 2 ^ m ≤ 4096 := Nat.pow_le_pow_right (by decide) hm
theorem shl_one (k : Nat) (hk : k ≤ 12) : shl .i64 1 (k : Int) = ((2 ^ k : Nat) : Int) := by
  have h : ∀ k : Nat, k ≤ 12 → shl .i64 1 (k : Int) = ((2 ^ k : Nat) : Int) := by decide
  exact h k hk
theorem shr_nat (s k : Nat) (hk : k ≤ 12) : shr .i64 (s : Int) (k : Int) = ((s / 2 ^ k : Nat) : Int) := by
  unfold shr
  rw [Int.toNat_natCast, Nat.min_eq_left (by show k ≤ 64; omega)]
  norm_cast
theorem bit_and (s k : Nat) (hs : s < 4096) (hk : k ≤ 12) : Go.bits .and .i64 (shr .i64 (s : Int) (k : Int)) 1 = if s.testBit k = true then 1 else 0 := by
  rw [shr_nat s k hk, and_one _ (by have := Nat.div_le_self s (2 ^ k); omega)]
  rw [Nat.testBit_eq_decide_div_mod_eq]
  have := Nat.mod_two_eq_zero_or_one (s / 2 ^ k)
  rcases this with h | h <;> simp [h]
theorem bits_or_nat (a b : Nat) (ha : a < 4096) (hb : b < 8192) : Go.bits .or .i64 (a : Int) (b : Int) = ((a ||| b : Nat) : Int) := by
  have hx : a ||| b < 2 ^ 13 := Nat.or_lt_two_pow (by omega) (by omega)
  have h1 : (BitVec.ofInt 64 (a : Int)).toNat = a := by
    rw [BitVec.ofInt_natCast, BitVec.toNat_ofNat]; exact Nat.mod_eq_of_lt (by omega)
  have h2 : (BitVec.ofInt 64 (b : Int)).toNat = b := by
    rw [BitVec.ofInt_natCast, BitVec.toNat_ofNat]; exact Nat.mod_eq_of_lt (by omega)
  show IntKind.i64.wrap ((BitVec.ofInt 64 (a : Int) ||| BitVec.ofInt 64 (b : Int)).toNat : Int) = _
  rw [BitVec.toNat_or, h1, h2, IntKind.wrap_i64]
  omega
theorem bit_or (s k : Nat) (hs : s < 4096) (hk : k ≤ 12) : Go.bits .or .i64 (s : Int) (shl .i64 1 (k : Int)) = ((s ||| 2 ^ k : Nat) : Int) := by
  rw [shl_one k hk, bits_or_nat s (2 ^ k) hs]
  have : 2 ^ k ≤ 2 ^ 12 := Nat.pow_le_pow_right (by decide) hk
  omega
theorem wrap_small (n : Int) (h0 : -9223372036854775808 ≤ n) (h1 : n ≤ 9223372036854775807) : wrap64 n = n := by unfold wrap64; omega
theorem rd_nat (xs : List Int) (k : Nat) : rd xs (k : Int) = xs.getD k 0 := by simp [rd]
theorem rd_set (xs : List Int) (k : Nat) (v : Int) (h : k < xs.length) : rd (xs.set k v) (k : Int) = v := by simp [rd, h]
def tab (m : Nat) (rs : List (List Int)) : List Int := (List.range (2 ^ m)).map (best rs)
theorem tab_length (m : Nat) (rs : List (List Int)) : (tab m rs).length = 2 ^ m := by simp [tab]
theorem tab_get (m : Nat) (rs : List (List Int)) (s : Nat) (h : s < 2 ^ m) : rd (tab m rs) (s : Int) = best rs s := by
  rw [rd_nat]
  simp [tab, h]
theorem tab_ext (m : Nat) (rs : List (List Int)) (R : List Int) (hR : R.length = 2 ^ m) (h : ∀ t, t < 2 ^ m → R.getD t 0 = best rs t) : R = tab m rs := by
  apply List.ext_getElem (by rw [hR, tab_length])
  intro i h1 h2
  have := h i (by omega)
  rw [List.getD_eq_getElem?_getD, List.getElem?_eq_getElem h1] at this
  simp [tab]
  simpa using this
theorem Good.tail {m : Nat} {rs : List (List Int)} (hg : Good m rs) (i : Nat) : Good m (rs.drop i) := fun r hr => hg r (List.mem_of_mem_drop hr)
theorem good_of_right {c : List (List Int)} (h : right c = true) : c.length ≤ 12 ∧ ∃ m, m ≤ 12 ∧ c.length ≤ m ∧ Good m c ∧ (c ≠ [] → (rdL c 0).length = m) := by
  unfold right at h
  rw [Bool.and_eq_true, decide_eq_true_eq, List.all_eq_true] at h
  obtain ⟨h0, h1⟩ := h
  refine ⟨h0, ?_⟩
  cases c with
  | nil => exact ⟨0, by omega, by simp, fun r hr => by simp at hr, by simp⟩
  | cons r rs =>
    have hh := h1 r (by simp)
    simp only [rowOk, Bool.and_eq_true, decide_eq_true_eq] at hh
    refine ⟨(rdL (r :: rs) 0).length, by omega, by omega, fun r' hr' => ?_, fun _ => rfl⟩
    have h2 := h1 r' hr'
    simp only [rowOk, Bool.and_eq_true, decide_eq_true_eq] at h2
    refine ⟨h2.1.1.1, fun k => ?_⟩
    by_cases hk : k < r'.length
    · have := (List.all_eq_true.1 h2.2) (r'[k]) (List.getElem_mem hk)
      simp only [okc, Bool.and_eq_true, decide_eq_true_eq] at this
      simpa [hk] using this
    · rw [List.getD_eq_getElem?_getD, List.getElem?_eq_none (by omega)]
      simp
end Go.Proofs.Ytlplaidcdocbmaa.Mat
end
section
namespace Go.Proofs.Ytlplaidcdocbmaa.Mat
open Go.RowKit Go.Proofs.YtlplaidcdocbmaaW.PrintWords Go.Proofs.YtlplaidcdocbmaaW.PrintLast Go.Proofs.YtlplaidcdocbmaaW.PrintMore
set_option linter.unusedVariables false
set_option linter.unusedSimpArgs false
theorem fold_le_acc (r : List Int) (B : Nat → Int) (s : Nat) : ∀ (l : List Nat) (a : Int), l.foldl (step r B s) a ≤ a
  | [], a => Int.le_refl _
  | k :: l, a => by
    rw [List.foldl_cons]
    refine Int.le_trans (fold_le_acc r B s l _) ?_
    unfold step mn
    split
    · exact Int.le_refl _
    · split <;> omega
theorem fold_le_at (r : List Int) (B : Nat → Int) (s k : Nat) (hk : s.testBit k = false) : ∀ (l : List Nat) (a : Int), k ∈ l → l.foldl (step r B s) a ≤ r.getD k 0 + B (s ||| 2 ^ k)
  | [], a, h => by simp at h
  | j :: l, a, h => by
    rw [List.foldl_cons]
    rcases List.mem_cons.1 h with rfl | h
    · refine Int.le_trans (fold_le_acc r B s l _) ?_
      unfold step mn
      rw [if_neg (by simp [hk])]
      split <;> omega
    · exact fold_le_at r B s k hk l _ h
theorem best_le_at {m : Nat} {r : List Int} (rs : List (List Int)) (s k : Nat) (hr : GoodRow m r) (hk : k < m) (hf : s.testBit k = false) : best (r :: rs) s ≤ r.getD k 0 + best rs (s ||| 2 ^ k) :=
  fold_le_at r (best rs) s k hf _ _ (by rw [hr.1]; simpa using hk)
theorem best_attained {m : Nat} {r : List Int} (rs : List (List Int)) (s : Nat) (hr : GoodRow m r) : best (r :: rs) s = HOPE ∨ ∃ k, k < m ∧ s.testBit k = false ∧ best (r :: rs) s = r.getD k 0 + best rs (s ||| 2 ^ k) := by
  show (List.range r.length).foldl (step r (best rs) s) HOPE = HOPE ∨ ∃ k, k < m ∧ s.testBit k = false ∧ (List.range r.length).foldl (step r (best rs) s) HOPE = r.getD k 0 + best rs (s ||| 2 ^ k)
  refine foldl_inv (P := fun a => a = HOPE ∨ ∃ k, k < m ∧ s.testBit k = false ∧ a = r.getD k 0 + best rs (s ||| 2 ^ k)) _ _ _ (.inl rfl) (fun a k hk ha => ?_)
  have hk' : k < m := by rw [← hr.1]; simpa using hk
  unfold step mn
  by_cases h : s.testBit k = true
  · rw [if_pos h]; exact ha
  · rw [if_neg h]
    split
    · exact .inr ⟨k, hk', by simpa using h, rfl⟩
    · exact ha
def frees (m s : Nat) : Nat := ((List.range m).filter (fun k => !s.testBit k)).length
theorem testBit_put (s k j : Nat) : (s ||| 2 ^ k).testBit j = (s.testBit j || decide (k = j)) := by
  rw [Nat.testBit_or, Nat.testBit_two_pow]
theorem frees_put {m s k : Nat} (hk : k < m) (hf : s.testBit k = false) : frees m (s ||| 2 ^ k) + 1 = frees m s := by
  unfold frees
  have hn : ((List.range m).filter (fun k => !s.testBit k)).Nodup := List.nodup_range.filter _
  have hm : k ∈ (List.range m).filter (fun k => !s.testBit k) := by simp [hk, hf]
  have e : (List.range m).filter (fun j => !(s ||| 2 ^ k).testBit j) = ((List.range m).filter (fun k => !s.testBit k)).erase k := by
    rw [hn.erase_eq_filter, List.filter_filter]
    congr 1
    funext j
    rw [testBit_put]
    by_cases h : k = j
    · subst h; simp
    · have h' : ¬ j = k := fun e => h e.symm
      simp [h, h']
  rw [e, List.length_erase_of_mem hm]
  have := List.length_pos_of_mem hm
  omega
theorem frees_zero (m : Nat) : frees m 0 = m := by
  unfold frees
  rw [List.filter_eq_self.2 (by simp)]
  simp
theorem feas (m : Nat) : ∀ (rs : List (List Int)) (s : Nat), rs.length ≤ 12 → Good m rs → rs.length ≤ frees m s → best rs s < HOPE
  | [], s, _, _, _ => by show (0 : Int) < HOPE; decide
  | r :: rs, s, hl, hg, hf => by
    have hl1 : rs.length ≤ 11 := by simpa using hl
    have hf1 : rs.length + 1 ≤ frees m s := by simpa using hf
    have hr := hg r (by simp)
    have hg' : Good m rs := fun r hr => hg r (by simp [hr])
    obtain ⟨k, hk⟩ : ∃ k, k ∈ (List.range m).filter (fun k => !s.testBit k) := List.exists_mem_of_length_pos (by unfold frees at hf1; omega)
    have hk1 : k < m ∧ s.testBit k = false := by simpa using hk
    have hp := frees_put hk1.1 hk1.2
    have ih := feas m rs (s ||| 2 ^ k) (by omega) hg' (by omega)
    have hb := best_bound m rs (s ||| 2 ^ k) (by omega) hg'
    have h1 := best_le_at rs s k hr hk1.1 hk1.2
    have h2 := (hr.2 k).2
    unfold HOPE at *
    omega
theorem find_hit {m : Nat} {r : List Int} {rs : List (List Int)} {s : Nat} (hr : GoodRow m r) (hb : best (r :: rs) s < HOPE) :
    ∃ k, (List.range m).find? (hit r (best rs) (best (r :: rs) s) s) = some k ∧ k < m ∧ s.testBit k = false ∧ r.getD k 0 + best rs (s ||| 2 ^ k) = best (r :: rs) s ∧ ∀ j, j < k → hit r (best rs) (best (r :: rs) s) s j = false := by
  rcases best_attained rs s hr with h | ⟨k, hk, hf, he⟩
  · rw [h] at hb; exact absurd hb (Int.lt_irrefl _)
  · have hs : ((List.range m).find? (hit r (best rs) (best (r :: rs) s) s)).isSome = true := by
      rw [List.find?_isSome]
      exact ⟨k, by simpa using hk, by simp only [hit, Bool.and_eq_true]; exact ⟨by simp [hf], decide_eq_true he.symm⟩⟩
    obtain ⟨j, hj⟩ := Option.isSome_iff_exists.1 hs
    refine ⟨j, hj, ?_⟩
    have hm := List.mem_of_find?_eq_some hj
    have hh := List.find?_some hj
    simp only [hit, Bool.and_eq_true, decide_eq_true_eq] at hh
    refine ⟨by simpa using hm, by simpa using hh.1, hh.2, fun i hi => ?_⟩
    have h3 := (List.find?_range_eq_some.1 hj).2.2 i hi
    simpa using h3
theorem pick_cons {m : Nat} {r : List Int} {rs : List (List Int)} {s k : Nat} (hr : GoodRow m r) (h : (List.range m).find? (hit r (best rs) (best (r :: rs) s) s) = some k) : pick (r :: rs) s = (k : Int) :: pick rs (s ||| 2 ^ k) := by
  show (match (List.range r.length).find? (hit r (best rs) (best (r :: rs) s) s) with | some k => (k : Int) :: pick rs (s ||| 2 ^ k) | none => pick rs s) = _
  rw [hr.1, h]
def conv (x : Int) : Int := if x = HOPE then -1 else x
def bestR (rs : List (List Int)) (s : Nat) : Int := conv (best rs s)
def stepR (r : List Int) (B : Nat → Int) (s : Nat) (acc : Int) (k : Nat) : Int :=
  if s.testBit k = true then acc else if B (s ||| 2 ^ k) ≥ 0 then (if acc < 0 then B (s ||| 2 ^ k) + r.getD k 0 else if B (s ||| 2 ^ k) + r.getD k 0 < acc then B (s ||| 2 ^ k) + r.getD k 0 else acc) else acc
theorem step_conv {m : Nat} {r : List Int} {rs : List (List Int)} (s k : Nat) (a : Int) (hr : GoodRow m r) (hl : rs.length ≤ 12) (hg : Good m rs) (ha : 0 ≤ a ∧ a ≤ HOPE) :
    stepR r (bestR rs) s (conv a) k = conv (step r (best rs) s a k) ∧ 0 ≤ step r (best rs) s a k ∧ step r (best rs) s a k ≤ HOPE := by
  have hb := best_bound m rs (s ||| 2 ^ k) hl hg
  have h2 := hr.2 k
  unfold stepR step bestR conv mn
  generalize best rs (s ||| 2 ^ k) = x at *
  generalize r.getD k 0 = c at *
  unfold HOPE at *
  by_cases hk : s.testBit k = true
  · rw [if_pos hk, if_pos hk]
    exact ⟨rfl, ha⟩
  · rw [if_neg hk, if_neg hk]
    refine ⟨?_, ?_⟩
    · repeat' split
      all_goals omega
    · split <;> omega
theorem fold_conv {m : Nat} {r : List Int} {rs : List (List Int)} (s : Nat) (hr : GoodRow m r) (hl : rs.length ≤ 12) (hg : Good m rs) :
    ∀ (l : List Nat) (a : Int), 0 ≤ a ∧ a ≤ HOPE → l.foldl (stepR r (bestR rs) s) (conv a) = conv (l.foldl (step r (best rs) s) a)
  | [], a, _ => rfl
  | k :: l, a, ha => by
    obtain ⟨h1, h2⟩ := step_conv s k a hr hl hg ha
    rw [List.foldl_cons, List.foldl_cons, h1]
    exact fold_conv s hr hl hg l _ h2
theorem bestR_cons {m : Nat} {r : List Int} {rs : List (List Int)} (s : Nat) (hr : GoodRow m r) (hl : rs.length ≤ 12) (hg : Good m rs) :
    (List.range m).foldl (stepR r (bestR rs) s) (-1) = bestR (r :: rs) s := by
  have := fold_conv s hr hl hg (List.range m) HOPE (by decide)
  rw [show conv HOPE = -1 from by decide] at this
  rw [this]
  show conv _ = conv ((List.range r.length).foldl (step r (best rs) s) HOPE)
  rw [hr.1]
def tabR (m : Nat) (rs : List (List Int)) : List Int := (List.range (2 ^ m)).map (bestR rs)
theorem tabR_length (m : Nat) (rs : List (List Int)) : (tabR m rs).length = 2 ^ m := by simp [tabR]
theorem tabR_get (m : Nat) (rs : List (List Int)) (s : Nat) (h : s < 2 ^ m) : rd (tabR m rs) (s : Int) = bestR rs s := by
  rw [rd_nat]
  simp [tabR, h]
theorem tabR_ext (m : Nat) (rs : List (List Int)) (R : List Int) (hR : R.length = 2 ^ m) (h : ∀ t, t < 2 ^ m → R.getD t 0 = bestR rs t) : R = tabR m rs := by
  apply List.ext_getElem (by rw [hR, tabR_length])
  intro i h1 h2
  have := h i (by omega)
  rw [List.getD_eq_getElem?_getD, List.getElem?_eq_getElem h1] at this
  simp [tabR]
  simpa using this
theorem bestR_bound {m : Nat} {rs : List (List Int)} (s : Nat) (hl : rs.length ≤ 12) (hg : Good m rs) : -1 ≤ bestR rs s ∧ bestR rs s ≤ 12000000 := by
  have := best_bound m rs s hl hg
  unfold bestR conv HOPE at *
  split <;> omega
end Go.Proofs.Ytlplaidcdocbmaa.Mat
end
section
namespace Go.Proofs.Ytlplaidcdocbmaa.Mat
open Go.RowKit Go.Proofs.YtlplaidcdocbmaaW.PrintWords Go.Proofs.YtlplaidcdocbmaaW.PrintLast Go.Proofs.YtlplaidcdocbmaaW.PrintMore
set_option linter.unusedVariables false
set_option linter.unusedSimpArgs false
def Fits (m : Nat) : List (List Int) → Nat → List Nat → Prop
  | [], _, ks => ks = []
  | _ :: rs, s, ks => ∃ k l, ks = k :: l ∧ k < m ∧ s.testBit k = false ∧ Fits m rs (s ||| 2 ^ k) l
def tot : List (List Int) → List Nat → Int
  | r :: rs, k :: ks => r.getD k 0 + tot rs ks
  | _, _ => 0
theorem best_le_tot (m : Nat) : ∀ (rs : List (List Int)) (s : Nat) (ks : List Nat), Good m rs → Fits m rs s ks → best rs s ≤ tot rs ks
  | [], s, ks, _, h => by show (0 : Int) ≤ _; simp [tot]
  | r :: rs, s, ks, hg, h => by
    obtain ⟨k, l, rfl, hk, hf, h'⟩ := h
    have h1 := best_le_at rs s k (hg r (by simp)) hk hf
    have h2 := best_le_tot m rs _ l (fun r hr => hg r (by simp [hr])) h'
    show best (r :: rs) s ≤ r.getD k 0 + tot rs l
    omega
theorem pick_fits (m : Nat) : ∀ (rs : List (List Int)) (s : Nat), rs.length ≤ 12 → Good m rs → best rs s < HOPE → ∃ ks : List Nat, pick rs s = ks.map (fun k : Nat => (k : Int)) ∧ Fits m rs s ks ∧ tot rs ks = best rs s
  | [], s, _, _, _ => ⟨[], by simp [pick], rfl, by simp [tot, best]⟩
  | r :: rs, s, hl, hg, hb => by
    have hl1 : rs.length ≤ 11 := by simpa using hl
    have hr := hg r (by simp)
    have hg' : Good m rs := fun r hr => hg r (by simp [hr])
    obtain ⟨k, hfk, hk, hf, he, _⟩ := find_hit hr hb
    have hn : best rs (s ||| 2 ^ k) < HOPE := by
      have := (hr.2 k).1
      omega
    obtain ⟨ks, h1, h2, h3⟩ := pick_fits m rs _ (by omega) hg' hn
    refine ⟨k :: ks, ?_, ⟨k, ks, rfl, hk, hf, h2⟩, ?_⟩
    · rw [pick_cons hr hfk, h1]; rfl
    · show r.getD k 0 + tot rs ks = _
      rw [h3, he]
end Go.Proofs.Ytlplaidcdocbmaa.Mat
end
section
namespace Go.Proofs.Ytlplaidcdocbmaa.Mat
open Go.RowKit Go.Proofs.YtlplaidcdocbmaaW.PrintWords Go.Proofs.YtlplaidcdocbmaaW.PrintLast Go.Proofs.YtlplaidcdocbmaaW.PrintMore
set_option linter.unusedVariables false
set_option linter.unusedSimpArgs false
theorem fits_of (m : Nat) : ∀ (rs : List (List Int)) (s : Nat) (ks : List Nat), ks.length = rs.length → ks.Nodup → (∀ k ∈ ks, k < m ∧ s.testBit k = false) → Fits m rs s ks
  | [], s, ks, hl, _, _ => List.length_eq_zero_iff.1 (by simpa using hl)
  | r :: rs, s, [], hl, _, _ => by simp at hl
  | r :: rs, s, k :: l, hl, hn, hk => by
    rw [List.nodup_cons] at hn
    refine ⟨k, l, rfl, (hk k (by simp)).1, (hk k (by simp)).2, fits_of m rs _ l (by simpa using hl) hn.2 (fun j hj => ⟨(hk j (by simp [hj])).1, ?_⟩)⟩
    rw [testBit_put, (hk j (by simp [hj])).2, Bool.false_or]
    exact decide_eq_false (fun e : k = j => hn.1 (by rw [e]; exact hj))
theorem of_fits (m : Nat) : ∀ (rs : List (List Int)) (s : Nat) (ks : List Nat), Fits m rs s ks → ks.length = rs.length ∧ ks.Nodup ∧ ∀ k ∈ ks, k < m ∧ s.testBit k = false
  | [], s, ks, h => by
    obtain rfl : ks = [] := h
    simp
  | r :: rs, s, ks, h => by
    obtain ⟨k, l, rfl, hk, hf, h'⟩ := h
    obtain ⟨h1, h2, h3⟩ := of_fits m rs _ l h'
    have h4 : ∀ j ∈ l, s.testBit j = false ∧ ¬ k = j := fun j hj => by
      have := (h3 j hj).2
      rw [testBit_put, Bool.or_eq_false_iff] at this
      exact ⟨this.1, of_decide_eq_false this.2⟩
    refine ⟨by simp [h1], List.nodup_cons.2 ⟨fun hm => (h4 k hm).2 rfl, h2⟩, fun j hj => ?_⟩
    rcases List.mem_cons.1 hj with rfl | hj
    · exact ⟨hk, hf⟩
    · exact ⟨(h3 j hj).1, (h4 j hj).1⟩
def front (n : Nat) (t : List Int) : List Nat := (List.range n).map (fun i => (t.getD i 0).toNat)
end Go.Proofs.Ytlplaidcdocbmaa.Mat
end
section
namespace Go.Proofs.Ytlplaidcdocbmaa.Srt
open Go.Proofs.Ytlplaidcdocbmaa.Core Go.Proofs.Ytlplaidcdocbmaa.Mat
set_option linter.unusedVariables false
set_option linter.unusedSimpArgs false
def RowC (m : Nat) (r : List Int) : Prop := r.length = m ∧ ∀ v ∈ r, 0 ≤ v ∧ v ≤ 1000000
theorem right_of {m : Nat} {c : List (List Int)} (hc : c.length ≤ 12) (hm : m ≤ 12) (hcm : c.length ≤ m) (h : ∀ r ∈ c, RowC m r) : right c = true := by
  unfold right
  rw [Bool.and_eq_true, decide_eq_true_eq, List.all_eq_true]
  refine ⟨hc, fun r hr => ?_⟩
  have h1 := h r hr
  have h0 : (rdL c 0).length = m := by
    cases c with
    | nil => simp at hr
    | cons a l => exact (h a (by simp)).1
  simp only [rowOk, Bool.and_eq_true, decide_eq_true_eq, List.all_eq_true]
  refine ⟨⟨⟨by rw [h0, h1.1], by rw [h1.1]; exact hm⟩, by rw [h1.1]; exact hcm⟩, fun v hv => ?_⟩
  have := h1.2 v hv
  simp only [okc, Bool.and_eq_true, decide_eq_true_eq]
  exact this
structure Ed where
  set : Int
  par : Int
  scan : Bool
def lvl (d l : Nat) : List Nat := (sets d).filter fun s => lev s == l
def ownP (so : Nat → Int) (d s : Nat) : Nat := leastL so (parents s d)
def entry (sc so : Nat → Int) (d : Nat) (A S : List Nat) (i k : Nat) : Int :=
  if k < A.length then (if (parents (S.getD i 0) d).contains (A.getD k 0) then sc (A.getD k 0) else 1000000)
  else if k - A.length = i then so (ownP so d (S.getD i 0)) else 1000000
def costRow (sc so : Nat → Int) (d : Nat) (A S : List Nat) (i : Nat) : List Int := (List.range (A.length + S.length)).map (entry sc so d A S i)
def costM (sc so : Nat → Int) (d : Nat) (A S : List Nat) : List (List Int) := (List.range S.length).map (costRow sc so d A S)
def edgeAt (so : Nat → Int) (d : Nat) (A S : List Nat) (i k : Nat) : Ed :=
  if k < A.length then ⟨(S.getD i 0 : Nat), (A.getD k 0 : Nat), true⟩ else ⟨(S.getD i 0 : Nat), (ownP so d (S.getD i 0) : Nat), false⟩
def edgesAS (sc so : Nat → Int) (d : Nat) (A S : List Nat) : List Ed :=
  (List.range S.length).map fun i => edgeAt so d A S i ((assign (costM sc so d A S)).1.getD i 0).toNat
def edgesS (sc so : Nat → Int) (d l : Nat) : List Ed := edgesAS sc so d (lvl d (l + 1)) (lvl d l)
def planS (sc so : Nat → Int) (d : Nat) : List Ed := ⟨((2 ^ d - 1 : Nat) : Int), -1, false⟩ :: (List.range d).reverse.flatMap (edgesS sc so d)
def costE (sc so : Nat → Int) (e : Ed) : Int := if e.par < 0 then 0 else if e.scan then sc e.par.toNat else so e.par.toNat
def costP (sc so : Nat → Int) (p : List Ed) : Int := (p.map (costE sc so)).sum
theorem sum_nonneg : ∀ (l : List Int), (∀ x ∈ l, 0 ≤ x) → 0 ≤ l.sum
  | [], _ => by simp
  | x :: l, h => by
    have h1 := h x (by simp)
    have h2 := sum_nonneg l (fun y hy => h y (by simp [hy]))
    rw [List.sum_cons]; omega
theorem mem_le_sum : ∀ (l : List Int), (∀ x ∈ l, 0 ≤ x) → ∀ x ∈ l, x ≤ l.sum
  | [], _, x, hx => by simp at hx
  | y :: l, h, x, hx => by
    have h1 := h y (by simp)
    have h2 := sum_nonneg l (fun z hz => h z (by simp [hz]))
    rw [List.sum_cons]
    rcases List.mem_cons.1 hx with rfl | hx
    · omega
    · have := mem_le_sum l (fun z hz => h z (by simp [hz])) x hx
      omega
theorem sum_const_le (c : Int) (hc : 0 ≤ c) : ∀ (l : List Int) (n : Nat), l.length ≤ n → (∀ x ∈ l, x ≤ c) → l.sum ≤ c * n
  | [], n, _, _ => by simp; exact Int.mul_nonneg hc (by omega)
  | x :: l, 0, h, _ => by simp at h
  | x :: l, n + 1, h, hx => by
    have h1 := hx x (by simp)
    have h2 := sum_const_le c hc l n (by simpa using h) (fun y hy => hx y (by simp [hy]))
    rw [List.sum_cons]
    have e : c * ((n + 1 : Nat) : Int) = c * n + c := by rw [Int.natCast_add, Int.mul_add]; simp
    rw [e]; omega
theorem tot_zip : ∀ (rs : List (List Int)) (ks : List Nat), tot rs ks = (List.zipWith (fun r k => r.getD k 0) rs ks).sum
  | [], ks => by simp [tot]
  | r :: rs, [] => by simp [tot]
  | r :: rs, k :: ks => by
    show r.getD k 0 + tot rs ks = _
    rw [tot_zip rs ks, List.zipWith_cons_cons, List.sum_cons]
theorem getD_of_lt {α : Type} (l : List α) (i : Nat) (x : α) (h : i < l.length) : l.getD i x = l[i] := by
  simp [h]
theorem zip_range (m : Nat) (f : Nat → Nat → Int) (n : Nat) (ks : List Nat) (hl : ks.length = n) (hk : ∀ k ∈ ks, k < m) :
    List.zipWith (fun r k => r.getD k 0) ((List.range n).map fun i => (List.range m).map (f i)) ks = (List.range n).map fun i => f i (ks.getD i 0) := by
  apply List.ext_getElem (by simp [hl])
  intro i h1 h2
  have hi : i < n := by simpa using h2
  have hik : ks[i]'(by omega) < m := hk _ (List.getElem_mem _)
  simp [show i < ks.length by omega, hik]
theorem tot_costM (sc so : Nat → Int) (d : Nat) (A S : List Nat) (ks : List Nat) (hl : ks.length = S.length) (hk : ∀ k ∈ ks, k < A.length + S.length) :
    tot (costM sc so d A S) ks = ((List.range S.length).map fun i => entry sc so d A S i (ks.getD i 0)).sum := by
  rw [tot_zip]
  unfold costM costRow
  rw [zip_range (A.length + S.length) (entry sc so d A S) S.length ks hl hk]
def Cheap (sc so : Nat → Int) : Prop := ∀ p, p < 16 → 0 ≤ sc p ∧ sc p ≤ 300 ∧ sc p ≤ so p ∧ so p ≤ 3000
theorem lvl_fin1 : ∀ d : Nat, d < 5 → ∀ l : Nat, l < d → (lvl d (l + 1)).length + (lvl d l).length ≤ 12 ∧ (lvl d l).length ≤ 6 ∧ 1 ≤ (lvl d l).length := by decide +kernel
theorem lvl_fin2 : ∀ d : Nat, d < 5 → ∀ l : Nat, l < d → (lvl d (l + 1)).Nodup ∧ (lvl d l).Nodup := by decide +kernel
theorem lvl_fin3 : ∀ d : Nat, d < 5 → ∀ l : Nat, l < d → ∀ s ∈ lvl d l, s < 16 ∧ s < 2 ^ d ∧ lev s = l ∧ (parents s d).length ≠ 0 := by decide +kernel
theorem lvl_fin4 : ∀ d : Nat, d < 5 → ∀ l : Nat, l < d → ∀ s ∈ lvl d l, ∀ p ∈ parents s d, p < 16 ∧ p ∈ lvl d (l + 1) := by decide +kernel
theorem lvl_fin5 : ∀ d : Nat, d < 5 → ∀ l : Nat, l < d → ∀ s ∈ lvl d (l + 1), s < 16 := by decide +kernel
structure Lev (d : Nat) (A S : List Nat) : Prop where
  wide : A.length + S.length ≤ 12
  few : S.length ≤ 6
  nodA : A.Nodup
  par : ∀ s ∈ S, s < 16 ∧ parents s d ≠ [] ∧ ∀ p ∈ parents s d, p < 16 ∧ p ∈ A
  low : ∀ s ∈ A, s < 16
theorem lev_of (d : Nat) (hd : d < 5) (l : Nat) (hl : l < d) : Lev d (lvl d (l + 1)) (lvl d l) := by
  obtain ⟨h1, h2, h3⟩ := lvl_fin1 d hd l hl
  exact ⟨h1, h2, (lvl_fin2 d hd l hl).1, fun s hs => ⟨(lvl_fin3 d hd l hl s hs).1, fun e => (lvl_fin3 d hd l hl s hs).2.2.2 (by rw [e]; rfl), lvl_fin4 d hd l hl s hs⟩, lvl_fin5 d hd l hl⟩
section
variable {sc so : Nat → Int} {d : Nat} {A S : List Nat}
theorem getD_mem {l : List Nat} {i : Nat} (h : i < l.length) : l.getD i 0 ∈ l := by rw [getD_of_lt l i 0 h]; exact List.getElem_mem h
theorem own_mem (L : Lev d A S) {i : Nat} (hi : i < S.length) : ownP so d (S.getD i 0) ∈ parents (S.getD i 0) d := leastL_mem _ _ (L.par _ (getD_mem hi)).2.1
theorem own_lt (L : Lev d A S) {i : Nat} (hi : i < S.length) : ownP so d (S.getD i 0) < 16 := ((L.par _ (getD_mem hi)).2.2 _ (own_mem L hi)).1
theorem entry_bd (C : Cheap sc so) (L : Lev d A S) {i k : Nat} (hi : i < S.length) (hk : k < A.length + S.length) : 0 ≤ entry sc so d A S i k ∧ entry sc so d A S i k ≤ 1000000 := by
  unfold entry
  split
  · rename_i h
    split
    · have := C _ (L.low _ (getD_mem h)); omega
    · omega
  · split
    · have := C _ (own_lt (so := so) L hi); omega
    · omega
theorem costM_good (C : Cheap sc so) (L : Lev d A S) : ∀ r ∈ costM sc so d A S, RowC (A.length + S.length) r := by
  intro r hr
  obtain ⟨i, hi, rfl⟩ := List.mem_map.1 hr
  refine ⟨by simp [costRow], fun v hv => ?_⟩
  obtain ⟨k, hk, rfl⟩ := List.mem_map.1 hv
  exact entry_bd C L (List.mem_range.1 hi) (List.mem_range.1 hk)
theorem good_of_rowc {m : Nat} {c : List (List Int)} (h : ∀ r ∈ c, RowC m r) : Mat.Good m c := by
  intro r hr
  obtain ⟨h1, h2⟩ := h r hr
  refine ⟨h1, fun k => ?_⟩
  by_cases hk : k < r.length
  · rw [getD_of_lt r k 0 hk]; exact h2 _ (List.getElem_mem hk)
  · rw [List.getD_eq_getElem?_getD, List.getElem?_eq_none (by omega)]; simp
theorem costM_right (C : Cheap sc so) (L : Lev d A S) : right (costM sc so d A S) = true := by
  have hl : (costM sc so d A S).length = S.length := by simp [costM]
  have := L.wide
  exact right_of (m := A.length + S.length) (by omega) (by omega) (by omega) (costM_good C L)
theorem own_fits (L : Lev d A S) : Fits (A.length + S.length) (costM sc so d A S) 0 ((List.range S.length).map fun i => A.length + i) := by
  refine fits_of _ _ _ _ (by simp [costM]) ?_ ?_
  · unfold List.Nodup
    rw [List.pairwise_map]
    exact List.Pairwise.imp (fun h e => h (by omega)) (List.nodup_range (n := S.length))
  · intro k hk
    obtain ⟨i, hi, rfl⟩ := List.mem_map.1 hk
    have := List.mem_range.1 hi
    exact ⟨by omega, by simp⟩
theorem own_entry {i : Nat} : entry sc so d A S i (A.length + i) = so (ownP so d (S.getD i 0)) := by
  unfold entry
  rw [if_neg (by omega), if_pos (by omega)]
theorem best_low (C : Cheap sc so) (L : Lev d A S) : best (costM sc so d A S) 0 ≤ 18000 := by
  have h := best_le_tot _ _ _ _ (good_of_rowc (costM_good C L)) (own_fits (sc := sc) (so := so) L)
  rw [tot_costM _ _ _ _ _ _ (by simp) (fun k hk => by obtain ⟨i, hi, rfl⟩ := List.mem_map.1 hk; have := List.mem_range.1 hi; omega)] at h
  have h2 := sum_const_le 3000 (by omega) ((List.range S.length).map fun i => entry sc so d A S i (((List.range S.length).map fun i => A.length + i).getD i 0)) 6 (by simpa using L.few) (fun x hx => by
    obtain ⟨i, hi, rfl⟩ := List.mem_map.1 hx
    have hi' := List.mem_range.1 hi
    have e : ((List.range S.length).map fun i => A.length + i).getD i 0 = A.length + i := by simp [hi']
    simp only [e, own_entry]
    have := C _ (own_lt (so := so) L hi')
    omega)
  omega
theorem choice (C : Cheap sc so) (L : Lev d A S) : ∃ ks : List Nat, (assign (costM sc so d A S)).1 = ks.map (fun k : Nat => (k : Int)) ∧ ks.length = S.length ∧ ks.Nodup ∧ (∀ k ∈ ks, k < A.length + S.length) ∧
    ((List.range S.length).map fun i => entry sc so d A S i (ks.getD i 0)).sum = best (costM sc so d A S) 0 := by
  have hw := L.wide
  have hl : (costM sc so d A S).length = S.length := by simp [costM]
  have hb := best_low C L
  obtain ⟨ks, h1, h2, h3⟩ := pick_fits (A.length + S.length) (costM sc so d A S) 0 (by omega) (good_of_rowc (costM_good C L)) (by unfold HOPE; omega)
  obtain ⟨g1, g2, g3⟩ := of_fits _ _ _ _ h2
  refine ⟨ks, ?_, by omega, g2, fun k hk => (g3 k hk).1, ?_⟩
  · unfold assign
    rw [if_pos (costM_right C L)]
    exact h1
  · rw [← tot_costM _ _ _ _ _ _ (by omega) (fun k hk => (g3 k hk).1)]
    exact h3
def Fine (d : Nat) (A S : List Nat) (i k : Nat) : Prop := (k < A.length ∧ A.getD k 0 ∈ parents (S.getD i 0) d) ∨ k = A.length + i
theorem fine_of (C : Cheap sc so) (L : Lev d A S) {ks : List Nat} (hl : ks.length = S.length) (hk : ∀ k ∈ ks, k < A.length + S.length)
    (hs : ((List.range S.length).map fun i => entry sc so d A S i (ks.getD i 0)).sum ≤ 18000) {i : Nat} (hi : i < S.length) : Fine d A S i (ks.getD i 0) := by
  have hle := mem_le_sum ((List.range S.length).map fun i => entry sc so d A S i (ks.getD i 0)) (fun x hx => by
    obtain ⟨j, hj, rfl⟩ := List.mem_map.1 hx
    have hj' := List.mem_range.1 hj
    exact (entry_bd C L hj' (hk _ (getD_mem (l := ks) (by omega)))).1) (entry sc so d A S i (ks.getD i 0)) (List.mem_map.2 ⟨i, List.mem_range.2 hi, rfl⟩)
  have he : entry sc so d A S i (ks.getD i 0) ≤ 18000 := by omega
  unfold entry at he
  by_cases h1 : ks.getD i 0 < A.length
  · rw [if_pos h1] at he
    by_cases h2 : (parents (S.getD i 0) d).contains (A.getD (ks.getD i 0) 0) = true
    · exact .inl ⟨h1, by simpa using h2⟩
    · rw [if_neg h2] at he; omega
  · rw [if_neg h1] at he
    by_cases h2 : ks.getD i 0 - A.length = i
    · exact .inr (by omega)
    · rw [if_neg h2] at he; omega
theorem costE_scan (a b : Nat) : costE sc so ⟨(a : Int), (b : Int), true⟩ = sc b := by
  unfold costE
  simp
  intro h
  omega
theorem costE_sort (a b : Nat) : costE sc so ⟨(a : Int), (b : Int), false⟩ = so b := by
  unfold costE
  simp
  intro h
  omega
theorem edge_cost {i k : Nat} (h : Fine d A S i k) : costE sc so (edgeAt so d A S i k) = entry sc so d A S i k := by
  unfold edgeAt entry
  rcases h with ⟨h1, h2⟩ | rfl
  · rw [if_pos h1, if_pos h1, if_pos (List.contains_iff_mem.2 h2), costE_scan]
  · rw [if_neg (by omega), if_neg (by omega), if_pos (by omega), costE_sort]
theorem edges_of (C : Cheap sc so) (L : Lev d A S) : ∃ ks : List Nat, edgesAS sc so d A S = (List.range S.length).map (fun i => edgeAt so d A S i (ks.getD i 0)) ∧ ks.length = S.length ∧ ks.Nodup ∧
    (∀ k ∈ ks, k < A.length + S.length) ∧ (∀ i, i < S.length → Fine d A S i (ks.getD i 0)) ∧ costP sc so (edgesAS sc so d A S) = best (costM sc so d A S) 0 := by
  obtain ⟨ks, h1, h2, h3, h4, h5⟩ := choice C L
  have hb := best_low C L
  have hf : ∀ i, i < S.length → Fine d A S i (ks.getD i 0) := fun i hi => fine_of C L h2 h4 (by omega) hi
  have he : edgesAS sc so d A S = (List.range S.length).map (fun i => edgeAt so d A S i (ks.getD i 0)) := by
    unfold edgesAS
    rw [h1]
    refine List.map_congr_left (fun i hi => ?_)
    have hi' := List.mem_range.1 hi
    congr 1
    simp [show i < ks.length by omega]
  refine ⟨ks, he, h2, h3, h4, hf, ?_⟩
  rw [← h5, he]
  unfold costP
  rw [List.map_map]
  congr 1
  refine List.map_congr_left (fun i hi => ?_)
  exact edge_cost (hf i (List.mem_range.1 hi))
def RightAt (d : Nat) (S : List Nat) (o : List Ed) : Prop := o.map (·.set) = S.map (fun (s : Nat) => (s : Int)) ∧ (∀ e ∈ o, ∃ p : Nat, e.par = (p : Int) ∧ p ∈ parents e.set.toNat d) ∧ ((o.filter (·.scan)).map (·.par)).Nodup
theorem nodup_inj {l : List Nat} (h : l.Nodup) {a b : Nat} {ha : a < l.length} {hb : b < l.length} (e : l[a] = l[b]) : a = b := by
  rcases Nat.lt_trichotomy a b with h1 | h1 | h1
  · exact absurd e ((List.pairwise_iff_getElem.1 h) a b ha hb h1)
  · exact h1
  · exact absurd e.symm ((List.pairwise_iff_getElem.1 h) b a hb ha h1)
theorem edges_right (C : Cheap sc so) (L : Lev d A S) : RightAt d S (edgesAS sc so d A S) ∧ (∀ e ∈ edgesAS sc so d A S, ∃ p : Nat, e.par = (p : Int) ∧ p ∈ A) := by
  obtain ⟨ks, he, hl, hn, hk, hf, hc⟩ := edges_of C L
  have hone : ∀ i, i < S.length → (edgeAt so d A S i (ks.getD i 0)).set = ((S.getD i 0 : Nat) : Int) ∧ ∃ p : Nat, (edgeAt so d A S i (ks.getD i 0)).par = (p : Int) ∧ p ∈ parents (S.getD i 0) d ∧ p ∈ A := fun i hi => by
    unfold edgeAt
    rcases hf i hi with ⟨h1, h2⟩ | h
    · rw [if_pos h1]
      exact ⟨rfl, _, rfl, h2, getD_mem h1⟩
    · rw [if_neg (by omega)]
      exact ⟨rfl, _, rfl, own_mem L hi, ((L.par _ (getD_mem hi)).2.2 _ (own_mem L hi)).2⟩
  refine ⟨⟨?_, ?_, ?_⟩, ?_⟩
  · rw [he, List.map_map]
    apply List.ext_getElem (by simp)
    intro i h1 h2
    have hi : i < S.length := by simpa using h2
    have := (hone i hi).1
    simp only [List.getElem_map, List.getElem_range, Function.comp]
    rw [this, getD_of_lt S i 0 hi]
  · intro e hme
    rw [he] at hme
    obtain ⟨i, hi, rfl⟩ := List.mem_map.1 hme
    obtain ⟨h1, p, h2, h3, h4⟩ := hone i (List.mem_range.1 hi)
    exact ⟨p, h2, by rw [h1]; simpa using h3⟩
  · rw [he, List.filter_map, List.map_map]
    unfold List.Nodup
    rw [List.pairwise_map]
    refine List.Pairwise.imp_of_mem ?_ (List.Pairwise.filter _ (List.nodup_range (n := S.length)))
    intro a b ha hb hne e
    obtain ⟨ha1, ha2⟩ := List.mem_filter.1 ha
    obtain ⟨hb1, hb2⟩ := List.mem_filter.1 hb
    have ha' := List.mem_range.1 ha1
    have hb' := List.mem_range.1 hb1
    simp only [Function.comp] at ha2 hb2 e
    unfold edgeAt at ha2 hb2 e
    rcases hf a ha' with ⟨h1, h2⟩ | h
    · rcases hf b hb' with ⟨h3, h4⟩ | h'
      · rw [if_pos h1, if_pos h3] at e
        have e2 : A.getD (ks.getD a 0) 0 = A.getD (ks.getD b 0) 0 := by
          have e' : ((A.getD (ks.getD a 0) 0 : Nat) : Int) = ((A.getD (ks.getD b 0) 0 : Nat) : Int) := e
          omega
        rw [getD_of_lt _ _ _ h1, getD_of_lt _ _ _ h3] at e2
        have e3 := nodup_inj L.nodA e2
        rw [getD_of_lt _ _ _ (by omega), getD_of_lt _ _ _ (by omega)] at e3
        exact hne (nodup_inj hn e3)
      · rw [if_neg (by omega)] at hb2; simp at hb2
    · rw [if_neg (by omega)] at ha2; simp at ha2
  · intro e hme
    rw [he] at hme
    obtain ⟨i, hi, rfl⟩ := List.mem_map.1 hme
    obtain ⟨h1, p, h2, h3, h4⟩ := hone i (List.mem_range.1 hi)
    exact ⟨p, h2, h4⟩
end
def below (sc so : Nat → Int) (d n : Nat) : List Ed := (List.range n).reverse.flatMap (edgesS sc so d)
def belowS (d n : Nat) : List Nat := (List.range n).reverse.flatMap (lvl d)
theorem below_succ (sc so : Nat → Int) (d n : Nat) : below sc so d (n + 1) = edgesS sc so d n ++ below sc so d n := by
  unfold below; rw [List.range_succ, List.reverse_append]; rfl
theorem belowS_succ (d n : Nat) : belowS d (n + 1) = lvl d n ++ belowS d n := by
  unfold belowS; rw [List.range_succ, List.reverse_append]; rfl
theorem sets_levels : ∀ d : Nat, d < 5 → sets d = (2 ^ d - 1) :: belowS d d := by decide +kernel
theorem plan_eq (sc so : Nat → Int) (d : Nat) : planS sc so d = ⟨((2 ^ d - 1 : Nat) : Int), -1, false⟩ :: below sc so d d := rfl
theorem lvl_lev {d l s : Nat} (h : s ∈ lvl d l) : lev s = l := by
  have := (List.mem_filter.1 h).2
  simpa using this
theorem below_right {sc so : Nat → Int} (C : Cheap sc so) {d : Nat} (hd : d < 5) : ∀ n, n ≤ d → RightAt d (belowS d n) (below sc so d n) ∧ (∀ e ∈ below sc so d n, ∃ p : Nat, e.par = (p : Int) ∧ lev p ≤ n)
  | 0, _ => ⟨⟨rfl, fun e he => by simp [below] at he, by simp [below]⟩, fun e he => by simp [below] at he⟩
  | n + 1, hn => by
    obtain ⟨⟨h1, h2, h3⟩, h4⟩ := below_right C hd n (by omega)
    obtain ⟨⟨g1, g2, g3⟩, g4⟩ := edges_right (sc := sc) (so := so) C (lev_of d hd n (by omega))
    rw [below_succ, belowS_succ]
    have g4' : ∀ e ∈ edgesS sc so d n, ∃ p : Nat, e.par = (p : Int) ∧ lev p = n + 1 := fun e he => by
      obtain ⟨p, hp, hm⟩ := g4 e he
      exact ⟨p, hp, lvl_lev hm⟩
    refine ⟨⟨?_, ?_, ?_⟩, ?_⟩
    · rw [List.map_append, List.map_append, h1]
      congr 1
    · intro e he
      rcases List.mem_append.1 he with he | he
      · exact g2 e he
      · exact h2 e he
    · rw [List.filter_append, List.map_append]
      refine List.nodup_append.2 ⟨g3, h3, ?_⟩
      intro a ha b hb e
      obtain ⟨x, hx, rfl⟩ := List.mem_map.1 ha
      obtain ⟨y, hy, rfl⟩ := List.mem_map.1 hb
      obtain ⟨p, hp, hlp⟩ := g4' x (List.mem_filter.1 hx).1
      obtain ⟨q, hq, hlq⟩ := h4 y (List.mem_filter.1 hy).1
      have : p = q := by omega
      subst this
      omega
    · intro e he
      rcases List.mem_append.1 he with he | he
      · obtain ⟨p, hp, hl⟩ := g4' e he
        exact ⟨p, hp, by omega⟩
      · obtain ⟨p, hp, hl⟩ := h4 e he
        exact ⟨p, hp, by omega⟩
theorem costP_append (sc so : Nat → Int) (a b : List Ed) : costP sc so (a ++ b) = costP sc so a + costP sc so b := by
  unfold costP; rw [List.map_append, List.sum_append]
def RightPlan (d : Nat) (o : List Ed) : Prop := ∃ e0 r, o = e0 :: r ∧ e0.set = ((2 ^ d - 1 : Nat) : Int) ∧ e0.par = -1 ∧ e0.scan = false ∧ RightAt d (belowS d d) r
theorem plan_right {sc so : Nat → Int} (C : Cheap sc so) {d : Nat} (hd : d < 5) : RightPlan d (planS sc so d) :=
  ⟨_, _, plan_eq sc so d, rfl, rfl, rfl, (below_right C hd d (Nat.le_refl _)).1⟩
end Go.Proofs.Ytlplaidcdocbmaa.Srt
end
section
namespace Go.Proofs.Ytlplaidcdocbmaa.Srt
open Go.RowKit Go.Shelf Go.Proofs.Ytlplaidcdocbmaa.Core
set_option linter.unusedVariables false
set_option linter.unusedSimpArgs false
theorem filter_take_succ (p : Nat → Bool) (xs : List Nat) (k : Nat) (h : k < xs.length) : (xs.take (k + 1)).filter p = (xs.take k).filter p ++ if p (xs.getD k 0) then [xs.getD k 0] else [] := by
  have hg : xs.getD k 0 = xs[k] := by simp [h]
  rw [hg, List.take_succ_eq_append_getElem h, List.filter_append]
  congr 1
  simp only [List.filter_cons, List.filter_nil]
theorem cell_new1 (W : World) (B : Nat) (hB : W.heap.size = B) (x : Value) (t : TypeId) (j : Nat) (u : Value) (h : [x][j]? = some u) : (W.alloc (.cells #[x] t)).cell? ((⟨B, 0, none⟩ : Addr).add j) = some u := by
  subst hB
  have hb : (W.alloc (.cells #[x] t)).heap[W.heap.size]? = some (.cells #[x] t (0, 0)) := World.alloc_heap_new W _
  rw [Addr.add_lit, Nat.zero_add]
  simp only [World.cell?, hb]
  simpa using h
def Acc (W0 : World) (e : TypeId) (sz : Nat) (vo : Value) (n : Nat) (xs : List Value) (wr : World) : Prop := wr.ownsRow W0.heap.size e sz vo n xs ∧ Below W0.heap.size W0 wr
section
variable {W0 wr w' : World} {e : TypeId} {sz n m : Nat} {vo v' : Value} {xs ys : List Value}
theorem Acc.nil (W0 : World) (e : TypeId) (sz : Nat) : Acc W0 e sz (.slice none 0 0) 0 [] W0 := ⟨World.ownsRow_nil _ _ _ _, Below.refl _ _⟩
theorem Acc.below (h : Acc W0 e sz vo n xs wr) (hb : Below wr.heap.size wr w') : Acc W0 e sz vo n xs w' := ⟨ownsRow_below' h.1 hb, h.2.trans (hb.mono h.2.size)⟩
theorem Acc.append (h : Acc W0 e sz vo n xs wr) (hown : w'.ownsRow W0.heap.size e sz v' m ys) (hg : wr.grownBy w' vo.ownBlock) : Acc W0 e sz v' m ys w' :=
  ⟨hown, h.2.trans ((Below.refl _ wr).grown hg h.2.size (own_base_le h.1))⟩
end
set_option maxRecDepth 100000 in
set_option maxHeartbeats 2000000 in
theorem level_at {w : World} {A : Option Addr} {c : Nat} {cs : List Int} {ms n : Int} {l : Nat} (hd : cs.length ≤ 4) (hl : l ≤ 10) :
    Calls Try.prog 101 #[.agg #[.slice A cs.length c, .int .i64 ms, .int .i64 n], .int .i64 (l : Int)] w fun e w' =>
      ∃ v : Value, e = .returned v ∧ w'.ownsRow w.heap.size 3 1 v (lvl cs.length l).length ((lvl cs.length l).map Core.encI) ∧ Below w.heap.size w w' := by
  obtain ⟨i0, hi, hz0, hz1, hz2⟩ := info_parts info3
  have hsc := fun W => sets_calls cs.length hd W
  obtain ⟨sl, sg⟩ := sets_fin cs.length (by omega)
  have hp16 := pow16 cs.length hd
  have HSC := Apart0.mk hsc
  obtain ⟨S, hS⟩ : ∃ S, S = sets cs.length := ⟨_, rfl⟩
  have HLV := Apart0.mk (show lvl cs.length l = S.filter fun s => lev s == l by rw [hS]; rfl)
  have hSl : S.length ≤ 16 := by rw [hS, sl]; exact hp16
  have hSm : ∀ k, k < S.length → S.getD k 0 < 16 := fun k hk => by rw [hS] at hk ⊢; have := (sg k (by omega)).1; omega
  rw [← hS] at hsc
  have HSC := Apart0.mk hsc
  have HSM := Apart0.mk hSm
  clear hsc sg sl hSm hp16 hS
  go_enter Try.func101, Try.ntmps101
  go_wp2_with fail
  refine (HSC.out _).mono ?_
  rintro e w1 ⟨v, rfl, hrow, hb⟩
  have HB1 := Apart0.mk (below_one hb)
  have hsz1 := hb.size
  simp only [World.size_alloc] at hsz1
  obtain ⟨g, cap, rfl⟩ : ∃ A c, v = .slice A S.length c := by
    rcases hrow.2 with ⟨rfl, h0⟩ | ⟨g, cap, cur, rfl, _⟩
    · exact ⟨none, 0, by rw [h0]⟩
    · exact ⟨_, _, rfl⟩
  have hnat : NatsAt w1 g S := by
    intro i hi
    rcases hrow.2 with ⟨_, h0⟩ | ⟨g', cap', cur, q, _⟩
    · omega
    · simp only [Value.slice.injEq] at q
      obtain ⟨rfl, _, rfl⟩ := q
      exact nats_own hrow i hi
  have HN := Apart0.mk hnat
  clear hrow hb hnat
  go_wp2_with fail
  go_loopw [5, 14] (fun vo vi wr => ∃ k : Nat, vi = .int .i64 (k : Int) ∧ k ≤ S.length ∧ Apart0 (Acc w1 3 1 vo ((S.take k).filter fun s => lev s == l).length (((S.take k).filter fun s => lev s == l).map Core.encI) wr))
    (fun _ p _ => S.length - (intOf p).toNat)
  case atStart => exact ⟨0, rfl, by omega, ⟨Acc.nil _ _ _⟩⟩
  case round =>
    obtain ⟨k, rfl, hk, HA⟩ := hrel
    by_cases hlt : k < S.length
    · have hd : decide ((k : Int) < (S.length : Int)) = true := dec_lt k S.length hlt
      obtain ⟨ad, rfl, hc⟩ := (HN.out.below (HA.out.2.mono (Nat.le_refl _))) k hlt
      have hs16 := HSM.out k hlt
      have hft := filter_take_succ (fun s => lev s == l) S k hlt
      have hlen : ((S.take k).filter fun s => lev s == l).length ≤ 16 := Nat.le_trans (List.length_filter_le _ _) (by rw [List.length_take]; omega)
      obtain ⟨acc, hacc⟩ : ∃ acc, acc = (S.take k).filter fun s => lev s == l := ⟨_, rfl⟩
      obtain ⟨s, hs⟩ : ∃ s, s = S.getD k 0 := ⟨_, rfl⟩
      rw [← hs] at hc hs16 hft
      rw [← hacc] at hlen hft
      have HA2 := Apart0.mk (show Acc w1 3 1 u5 acc.length (acc.map Core.encI) wr by rw [hacc]; exact HA.out)
      have HFT := Apart0.mk hft
      clear hs hacc hft HA
      by_cases hp : lev s = l
      · have hb0 : (((lev s : Nat) : Int) == (l : Int)) = true := beq_iff_eq.2 (by omega)
        have HF := Apart0.mk (show (S.take (k + 1)).filter (fun s => lev s == l) = acc ++ [s] by rw [HFT.out, if_pos (beq_iff_eq.2 hp)])
        clear hp
        go_wp2_with fail
        refine (level_calls s hs16 _).mono ?_
        rintro e w' ⟨rfl, rfl⟩
        have HA3 := Apart0.mk (HA2.out.below (((Below.refl _ w').alloc (Nat.le_refl _) (.cells #[.int .i64 (s : Int)] 3))))
        go_wp2_with (at_builtin; refine wpList_append_own _ rfl _ _ 24 rfl w1.heap.size 3 i0 (.int .i64 0) 1 8 Try.underlying24 hi hz0 hz1 hz2 rfl (by decide) _ _ _ rfl HA3.out.1 ⟨w'.heap.size, 0, none⟩ 1 1 [.int .i64 (s : Int)] rfl ?qc1 ?qc2 ?qc3 ?qc4 ?qc5 ?qc6 ?_)
        case qc1 => rfl
        case qc2 => intro j u hj; exact cell_new1 _ _ rfl _ _ j u hj
        case qc3 => intro u hu; simp at hu; rw [hu]; rfl
        case qc4 => unfold maxLen; omega
        case qc5 => omega
        case qc6 => exact HA3.out.2.size
        intro v' wq hown hgrow hnil
        have HN2 := Apart0.mk (HA3.out.append hown hgrow)
        clear hown hgrow hnil
        go_wp2_with fail
        go_roundw
        case rel => exact ⟨k + 1, congrArg _ (Int.natCast_succ k).symm, by omega, ⟨by rw [HF.out, List.length_append, List.map_append]; exact HN2.out⟩⟩
        case measure => simp only [intOf]; omega
      · have hb0 : (((lev s : Nat) : Int) == (l : Int)) = false := beq_eq_false_iff_ne.2 (by omega)
        have HF := Apart0.mk (show (S.take (k + 1)).filter (fun s => lev s == l) = acc by rw [HFT.out, if_neg (by simpa using hp), List.append_nil])
        clear hp
        go_wp2_with (go_at_call 31; refine (level_calls s hs16 _).mono ?_; rintro e w' ⟨rfl, rfl⟩)
        go_roundw
        case rel => exact ⟨k + 1, congrArg _ (Int.natCast_succ k).symm, by omega, ⟨by rw [HF.out]; exact HA2.out⟩⟩
        case measure => simp only [intOf]; omega
    · have hd : decide ((k : Int) < (S.length : Int)) = false := dec_nlt k S.length hlt
      have hkL : k = S.length := by omega
      have HF := Apart0.mk (show (S.take k).filter (fun s => lev s == l) = lvl cs.length l by rw [hkL, List.take_length, HLV.out])
      clear hkL
      go_wp2_with fail
      go_ret
      refine ⟨u5, rfl, ?_, HB1.out.trans (HA.out.2.mono HB1.out.size)⟩
      rw [← HF.out]
      exact ownsRow_base HA.out.1 HB1.out.size
end Go.Proofs.Ytlplaidcdocbmaa.Srt
end
section
namespace Go.Proofs.Ytlplaidcdocbmaa.Srt
open Go.RowKit Go.Shelf Go.Sort Go.Proofs.Ytlplaidcdocbmaa.Core
set_option linter.unusedVariables false
set_option linter.unusedSimpArgs false
def bestAt (f : Nat → Int) (P : List Nat) (k : Nat) : Nat := if k = 0 then P.getD 0 0 else leastL f (P.take k)
theorem bestAt_succ (f : Nat → Int) (P : List Nat) (k : Nat) (h : k < P.length) : bestAt f P (k + 1) = if f (P.getD k 0) < f (bestAt f P k) then P.getD k 0 else bestAt f P k := by
  have hg : P.getD k 0 = P[k] := by simp [h]
  have htk : P.take (k + 1) = P.take k ++ [P.getD k 0] := by rw [hg]; exact List.take_succ_eq_append_getElem h
  unfold bestAt
  rw [if_neg (by omega), htk]
  by_cases h0 : k = 0
  · subst h0
    rw [if_pos rfl, List.take_zero, leastL_one, if_neg (Int.lt_irrefl _)]
  · rw [if_neg h0]
    have hne : P.take k ≠ [] := by intro e; have := congrArg List.length e; rw [List.length_take] at this; simp only [List.length_nil] at this; omega
    exact leastL_snoc f _ _ hne
theorem bestAt_mem (f : Nat → Int) (P : List Nat) (k : Nat) (h : P ≠ []) : bestAt f P k ∈ P := by
  unfold bestAt
  have hl := List.length_pos_iff.2 h
  split
  · exact getD_mem hl
  · rename_i h0
    have hne : P.take k ≠ [] := by intro e; have := congrArg List.length e; rw [List.length_take] at this; simp only [List.length_nil] at this; omega
    exact List.mem_of_mem_take (leastL_mem f _ hne)
theorem bestAt_all (f : Nat → Int) (P : List Nat) (h : P ≠ []) : bestAt f P P.length = leastL f P := by
  unfold bestAt
  rw [if_neg (by have := List.length_pos_iff.2 h; omega), List.take_length]
set_option maxRecDepth 100000 in
set_option maxHeartbeats 2000000 in
theorem least_at (f : Nat → Int) (kf : FuncId) (pl : Value) (ekf : ∀ args w, (callFunc kf args).run Try.prog w = .ok (.enter kf args) w) {w : World} {A : Option Addr} {c : Nat} {P : List Nat} (hne : P ≠ []) (hl : P.length ≤ 16) (hnat : NatsAt w A P)
    (hk : ∀ x ∈ P, ∀ W, Below w.heap.size w W → Calls Try.prog kf #[pl, .int .i64 (x : Int)] W fun e W' => e = .returned (.int .i64 (f x)) ∧ Below W.heap.size W W') :
    Calls Try.prog 102 #[.agg #[.func (.func kf) #[pl] #[]], .slice A P.length c] w fun e w' => e = .returned (.tuple #[.int .i64 (leastL f P : Nat), .int .i64 (f (leastL f P))]) ∧ Below w.heap.size w w' := by
  have hl1 := List.length_pos_iff.2 hne
  obtain ⟨ad0, hA0, hc0⟩ := hnat 0 hl1
  subst hA0
  rw [Addr.add_zero'] at hc0
  obtain ⟨p0, hp0⟩ : ∃ p0, p0 = P.getD 0 0 := ⟨_, rfl⟩
  rw [← hp0] at hc0
  have hc0' := Lib.cell?_alloc_some (.cells #[.func (.func kf) #[pl] #[]] 93) hc0
  have HP0 := Apart0.mk (show p0 = bestAt f P 0 from hp0)
  clear hp0
  have HN := Apart0.mk hnat
  have HK := Apart0.mk hk
  have HNE := Apart0.mk hne
  have hlt0 : (0 : Int) < (P.length : Int) := by omega
  have hrm := leastL_mem f P hne
  have hrb := bestAt_all f P hne
  generalize leastL f P = r at *
  have HRB := Apart0.mk hrb
  have HRM := Apart0.mk hrm
  clear hnat hk hne hc0 hrm hrb
  go_enter Try.func102, Try.ntmps102
  go_wp2_with fail
  have hB0 : Below w.heap.size w (w.alloc (.cells #[.func (.func kf) #[pl] #[]] 93)) := (Below.refl _ w).alloc (Nat.le_refl _) _
  have hbx : (w.alloc (.cells #[.func (.func kf) #[pl] #[]] 93)).heap[w.heap.size]? = some (.cells #[.func (.func kf) #[pl] #[]] 93 (0, 0)) := World.alloc_heap_new w _
  have hsz0 : (w.alloc (.cells #[.func (.func kf) #[pl] #[]] 93)).heap.size = w.heap.size + 1 := by simp
  generalize w.alloc (.cells #[.func (.func kf) #[pl] #[]] 93) = W0 at *
  have HBX := Apart0.mk hbx
  have HB0 := Apart0.mk hB0
  clear hbx hB0 hc0'
  go_loopw [6, 14] (fun vb vi wr => ∃ k b : Nat, vi = .int .i64 (k : Int) ∧ vb = .int .i64 (b : Int) ∧ k ≤ P.length ∧ Apart0 (b = bestAt f P k ∧ Below W0.heap.size W0 wr))
    (fun _ p _ => P.length - (intOf p).toNat)
  case atStart => exact ⟨0, p0, rfl, rfl, by omega, ⟨HP0.out, Below.refl _ _⟩⟩
  case round =>
    obtain ⟨k, b, rfl, rfl, hk, HI⟩ := hrel
    have hbw := HI.out.2
    have hBx := (hbw.block _ (by omega)).trans HBX.out
    have hwr := HB0.out.trans (hbw.mono HB0.out.size)
    have cb : wr.cell? ⟨w.heap.size, 0, none⟩ = some (.func (.func kf) #[pl] #[]) := by simp [World.cell?, hBx]
    by_cases hlt : k < P.length
    · have hd : decide ((k : Int) < (P.length : Int)) = true := dec_lt k P.length hlt
      obtain ⟨ad, hAd, hc⟩ := (HN.out.below hwr) k hlt
      injection hAd with hAd
      subst hAd
      have hx := getD_mem hlt
      have hsucc := bestAt_succ f P k hlt
      have hbm := bestAt_mem f P k HNE.out
      rw [← HI.out.1] at hsucc hbm
      obtain ⟨x, hxe⟩ : ∃ x, x = P.getD k 0 := ⟨_, rfl⟩
      rw [← hxe] at hc hx hsucc
      have c1 := fun d os => cell_regrown cb d os
      have HWR := Apart0.mk hwr
      have HBW := Apart0.mk hbw
      have HX := Apart0.mk hx
      have HBM := Apart0.mk hbm
      have hcall : ∀ z, z ∈ P → ∀ d os, Calls Try.prog kf #[pl, .int .i64 (z : Int)] (grow (redrawn wr d) os) fun e W' => e = .returned (.int .i64 (f z)) ∧ Below (grow (redrawn wr d) os).heap.size (grow (redrawn wr d) os) W' :=
        fun z hz d os => HK.out z hz _ (HWR.out.trans ((below_regrown wr d os).mono HWR.out.size))
      have HC := Apart0.mk hcall
      have HSU := Apart0.mk hsucc
      clear hsucc hbm hx hxe hwr hbw hBx cb hcall HI
      have mixed : Try.prog.follows .mixedOrders = true := by kernel_rfl
      have HEK := Apart0.mk ekf
      by_cases hlx : f x < f b
      · have hdx : decide (f x < f b) = true := decide_eq_true hlx
        have HF := Apart0.mk (show bestAt f P (k + 1) = x by rw [HSU.out, if_pos hlx])
        clear HSU
        go_wp2_with fail
        refine wp_region_quiet_below mixed (by kernel_rfl) ?_
        repeat (quiet_step (refine Calls.regrown_of (HC.out _ (by first | exact HX.out | exact HBM.out) _ _)))
        refine wpQuiet_nil ?_
        rintro w' ⟨⟨d, os⟩, rfl⟩
        have HG := Apart0.mk (HBW.out.trans ((below_regrown wr d os).mono HBW.out.size))
        have c2 := c1 d os
        clear c1 HC
        generalize grow (redrawn wr d) os = W1 at *
        go_wp2_with fail
        go_roundw
        case rel => exact ⟨k + 1, x, congrArg _ (Int.natCast_succ k).symm, rfl, by omega, ⟨HF.out.symm, HG.out⟩⟩
        case measure => simp only [intOf]; omega
      · have hdx : decide (f x < f b) = false := decide_eq_false hlx
        have HF := Apart0.mk (show bestAt f P (k + 1) = b by rw [HSU.out, if_neg hlx])
        clear HSU
        go_wp2_with fail
        refine wp_region_quiet_below mixed (by kernel_rfl) ?_
        repeat (quiet_step (refine Calls.regrown_of (HC.out _ (by first | exact HX.out | exact HBM.out) _ _)))
        refine wpQuiet_nil ?_
        rintro w' ⟨⟨d, os⟩, rfl⟩
        have HG := Apart0.mk (HBW.out.trans ((below_regrown wr d os).mono HBW.out.size))
        have c2 := c1 d os
        clear c1 HC
        generalize grow (redrawn wr d) os = W1 at *
        go_wp2_with fail
        go_roundw
        case rel => exact ⟨k + 1, b, congrArg _ (Int.natCast_succ k).symm, rfl, by omega, ⟨HF.out.symm, HG.out⟩⟩
        case measure => simp only [intOf]; omega
    · have hd : decide ((k : Int) < (P.length : Int)) = false := dec_nlt k P.length hlt
      have hkL : k = P.length := by omega
      obtain rfl : b = r := by rw [HI.out.1, hkL, HRB.out]
      have hc2 := HK.out b HRM.out wr hwr
      have HC2 := Apart0.mk hc2
      have HWR := Apart0.mk hwr
      clear hc2 hwr hbw hBx HI hkL
      go_wp2_with fail
      refine HC2.out.mono ?_
      rintro e w2 ⟨rfl, hb2⟩
      have HB2 := Apart0.mk (HWR.out.trans (hb2.mono HWR.out.size))
      clear hb2
      go_wp2_with fail
      go_ret2
      exact ⟨rfl, HB2.out⟩
end Go.Proofs.Ytlplaidcdocbmaa.Srt
end
