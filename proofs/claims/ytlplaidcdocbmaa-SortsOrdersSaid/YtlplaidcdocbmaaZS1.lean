-- Cut by pack.py, a program of this session; not trusted: Lean checks it.
import Derived.Deep.Draws
import Derived.Tactics
import Derived.OwnWalk
import Derived.Outline
import Derived.Lib.Walk
import Derived.Lib.SliceRun
import Derived.Test.YtlplaidcdocbmaaZCore13
import Derived.Test.YtlplaidcdocbmaaZCore16
/- sorts: its helpers: lattice.Scan, lattice.Sort, the planner's scan and sort, slices.Index, slices.Contains. -/
namespace Go.Proofs.Ytlplaidcdocbmaa.Srt
open Go.RowKit Go.Shelf Go.Proofs.Ytlplaidcdocbmaa.Core
open Go.Proofs.YtlplaidcdocbmaaW.PrintWords (Drawn0)
set_option linter.unusedVariables false
set_option linter.unusedSimpArgs false

/-- The cards lie in memory. -/
def CardsAt (w : World) (A : Option Addr) (cs : List Int) : Prop := ∀ i : Nat, i < cs.length → ∃ ad, A = some ad ∧ w.cell? (ad.add i) = some (.int .i64 (cs.getD i 0))
theorem CardsAt.below {w w' : World} {A : Option Addr} {cs : List Int} (h : CardsAt w A cs) (hb : Below w.heap.size w w') : CardsAt w' A cs := fun i hi => by
  obtain ⟨ad, e, hc⟩ := h i hi
  exact ⟨ad, e, (hb.cell (cell_lt hc)).trans hc⟩
theorem size_at {w : World} {A : Option Addr} {c : Nat} {cs : List Int} {ms n : Int} {p : Nat} (hp : p < 16) (hok : okCards cs = true) (hn : 0 ≤ n ∧ n ≤ 1000000) (h : CardsAt w A cs) :
    Calls Try.prog 34 #[.agg #[.slice A cs.length c, .int .i64 ms], .int .i64 n, .int .i64 (p : Int)] w fun e w' => e = .returned (.int .i64 (sizeI cs n p)) ∧ Below w.heap.size w w' :=
  size_calls A c cs ms n p hp (okCards_len hok) (okCards_all hok) hn w h

theorem lscan_at {w : World} {A : Option Addr} {c : Nat} {cs : List Int} {ms n : Int} {p : Nat} (hp : p < 16) (hok : okCards cs = true) (hn : 0 ≤ n ∧ n ≤ 1000000) (h : CardsAt w A cs) :
    Calls Try.prog 47 #[.agg #[.slice A cs.length c, .int .i64 ms], .int .i64 n, .int .i64 (p : Int)] w fun e w' => e = .returned (.int .i64 (sizeI cs n p)) ∧ Below w.heap.size w w' := by
  have HZ := Apart0.mk (fun W (hW : Below w.heap.size w W) => size_at (c := c) (ms := ms) hp hok hn (h.below hW))
  clear h hok
  go_enter Try.func47, Try.ntmps47
  go_wp2_with fail
  refine (HZ.out _ ((Below.refl _ w).alloc (Nat.le_refl _) _)).mono ?_
  rintro e w' ⟨rfl, hb⟩
  go_wp2_with fail
  go_ret
  exact ⟨rfl, ((Below.refl _ w).alloc (Nat.le_refl _) _).trans (hb.mono (by simp only [World.size_alloc]; omega))⟩

/-- What it costs to sort. -/
def sortC (cs : List Int) (n : Int) (p : Nat) : Int := sortI (sizeI cs n p)
def scanC (cs : List Int) (n : Int) (p : Nat) : Int := sizeI cs n p
theorem lsort_at {w : World} {A : Option Addr} {c : Nat} {cs : List Int} {ms n : Int} {p : Nat} (hp : p < 16) (hok : okCards cs = true) (h1 : ∀ x ∈ cs, 1 ≤ x) (hn : 0 ≤ n ∧ n ≤ 300) (h : CardsAt w A cs) :
    Calls Try.prog 49 #[.agg #[.slice A cs.length c, .int .i64 ms], .int .i64 n, .int .i64 (p : Int)] w fun e w' => e = .returned (.int .i64 (sortC cs n p)) ∧ Below w.heap.size w w' := by
  have HZ := Apart0.mk (fun W (hW : Below w.heap.size w W) => size_at (c := c) (ms := ms) hp hok (by omega : 0 ≤ n ∧ n ≤ 1000000) (h.below hW))
  obtain ⟨b1, b2, _⟩ := sizeI_bd cs h1 n p hn.1
  have hsC : sortC cs n p = sortI (sizeI cs n p) := rfl
  rw [hsC]
  generalize sizeI cs n p = z at *
  obtain ⟨l1, l2, l3, l4⟩ := sort_bd b1 (by omega)
  have HL := Apart0.mk (show ∀ W, Calls Try.prog 79 #[.int .u64 (max z 0)] W fun e w' => e = .returned (.int .i64 (lenI z)) ∧ Drawn0 W w' from fun W => by rw [show max z 0 = z by omega]; exact len_K z b1 (by omega) W)
  have hq : 0 ≤ z * lenI z ∧ z * lenI z ≤ 2700 := by unfold sortI at l3 l4; omega
  have HS := Apart0.mk (show sortI z = wrap64 (z + wrap64 (z * lenI z)) by
    show z + z * lenI z = _
    generalize z * lenI z = q at *
    unfold wrap64
    omega)
  generalize lenI z = L at *
  clear h hok h1 hsC l3 l4 hq
  go_enter Try.func49, Try.ntmps49
  go_wp2_with fail
  refine (HZ.out _ ((Below.refl _ w).alloc (Nat.le_refl _) _)).mono ?_
  rintro e w' ⟨rfl, hb⟩
  have HB := Apart0.mk hb
  clear hb
  go_wp2_with fail
  refine (HL.out _).mono ?_
  rintro e w2 ⟨rfl, hd⟩
  have HB2 := Apart0.mk (HB.out.trans (hd.below.mono HB.out.size))
  clear hd
  go_wp2_with fail
  go_ret
  exact ⟨by rw [HS.out]; rfl, ((Below.refl _ w).alloc (Nat.le_refl _) _).trans (HB2.out.mono (by simp only [World.size_alloc]; omega))⟩

-- the planner's own
section
variable {w : World} {A : Option Addr} {c : Nat} {cs : List Int} {ms n : Int} {p : Nat}
theorem below_one {w w' : World} {o : Obj} (hb : Below (w.alloc o).heap.size (w.alloc o) w') : Below w.heap.size w w' :=
  ((Below.refl _ w).alloc (Nat.le_refl _) _).trans (hb.mono (by simp only [World.size_alloc]; omega))
theorem scan_at (hp : p < 16) (hok : okCards cs = true) (hn : 0 ≤ n ∧ n ≤ 1000000) (h : CardsAt w A cs) :
    Calls Try.prog 83 #[.agg #[.slice A cs.length c, .int .i64 ms, .int .i64 n], .int .i64 (p : Int)] w fun e w' => e = .returned (.int .i64 (scanC cs n p)) ∧ Below w.heap.size w w' := by
  have HZ := Apart0.mk (fun W (hW : Below w.heap.size w W) => lscan_at (c := c) (ms := ms) hp hok hn (h.below hW))
  clear h hok
  go_enter Try.func83, Try.ntmps83
  go_wp2_with fail
  refine (HZ.out _ ((Below.refl _ w).alloc (Nat.le_refl _) _)).mono ?_
  rintro e w' ⟨rfl, hb⟩
  go_wp2_with fail
  go_ret
  exact ⟨rfl, below_one hb⟩
theorem sort_at (hp : p < 16) (hok : okCards cs = true) (h1 : ∀ x ∈ cs, 1 ≤ x) (hn : 0 ≤ n ∧ n ≤ 300) (h : CardsAt w A cs) :
    Calls Try.prog 82 #[.agg #[.slice A cs.length c, .int .i64 ms, .int .i64 n], .int .i64 (p : Int)] w fun e w' => e = .returned (.int .i64 (sortC cs n p)) ∧ Below w.heap.size w w' := by
  have HZ := Apart0.mk (fun W (hW : Below w.heap.size w W) => lsort_at (c := c) (ms := ms) hp hok h1 hn (h.below hW))
  clear h hok h1
  go_enter Try.func82, Try.ntmps82
  go_wp2_with fail
  refine (HZ.out _ ((Below.refl _ w).alloc (Nat.le_refl _) _)).mono ?_
  rintro e w' ⟨rfl, hb⟩
  go_wp2_with fail
  go_ret
  exact ⟨rfl, below_one hb⟩
end

theorem getD_map' (xs : List Nat) (k : Nat) (h : k < xs.length) : (xs.map Core.encI)[k]? = some (.int .i64 ((xs.getD k 0 : Nat) : Int)) := by
  rw [List.getElem?_map, List.getElem?_eq_getElem h, List.getD_eq_getElem?_getD, List.getElem?_eq_getElem h]
  rfl
/-- Numbers lie in memory. -/
def NatsAt (w : World) (A : Option Addr) (xs : List Nat) : Prop := ∀ i : Nat, i < xs.length → ∃ ad, A = some ad ∧ w.cell? (ad.add i) = some (.int .i64 ((xs.getD i 0 : Nat) : Int))
theorem NatsAt.below {w w' : World} {A : Option Addr} {xs : List Nat} (h : NatsAt w A xs) (hb : Below w.heap.size w w') : NatsAt w' A xs := fun i hi => by
  obtain ⟨ad, e, hc⟩ := h i hi
  exact ⟨ad, e, (hb.cell (cell_lt hc)).trans hc⟩
theorem nats_own {w : World} {base g cap : Nat} {xs : List Nat} (h : w.ownsRow base 3 1 (.slice (some ⟨g, 0, none⟩) xs.length cap) xs.length (xs.map Core.encI)) : NatsAt w (some ⟨g, 0, none⟩) xs := fun i hi => by
  refine ⟨_, rfl, ?_⟩
  have h1 := h.cellAt i (by rw [Nat.mul_one]; exact hi)
  rw [getD_map' xs i hi] at h1
  rw [Addr.add_lit, Nat.zero_add]
  exact h1

/-- Where a number stands; below 0: nowhere. -/
theorem index_at (A : Option Addr) (c : Nat) (xs : List Nat) (v : Int) (hl : xs.length ≤ 1000) (w : World) (h : NatsAt w A xs) :
    Calls Try.prog 100 #[.slice A xs.length c, .int .i64 v] w fun e w' => (∃ r : Int, e = .returned (.int .i64 r) ∧ decide (0 ≤ r) = xs.any fun (x : Nat) => (x : Int) == v) ∧ w = w' := by
  have H := Apart0.mk h
  clear h
  go_enter Try.func100, Try.ntmps100
  go_wp2
  go_loop [8] (fun i => ∃ k : Nat, k ≤ xs.length ∧ i = .int .i64 k ∧ Apart0 ((xs.take k).any (fun (x : Nat) => (x : Int) == v) = false)) (fun i => xs.length - (intOf i).toNat)
  case atStart => exact ⟨0, Nat.zero_le _, rfl, ⟨rfl⟩⟩
  case round =>
    obtain ⟨k, hk, rfl, HA⟩ := hrel
    by_cases hlt : k < xs.length
    · obtain ⟨ad, eA, hc⟩ := H.out k hlt
      subst eA
      have hg : xs.getD k 0 = xs[k] := by simp [hlt]
      have htk : xs.take (k + 1) = xs.take k ++ [xs.getD k 0] := by rw [hg]; exact List.take_succ_eq_append_getElem hlt
      have hmem : xs.getD k 0 ∈ xs := by rw [hg]; exact List.getElem_mem hlt
      have HTK := Apart0.mk htk
      have HM := Apart0.mk hmem
      clear htk hg hmem
      generalize xs.getD k 0 = x at *
      by_cases hv : v = (x : Int)
      · have hb : (v == (x : Int)) = true := beq_iff_eq.2 hv
        have HF := Apart0.mk (show xs.any (fun (x : Nat) => (x : Int) == v) = true from List.any_eq_true.2 ⟨x, HM.out, beq_iff_eq.2 hv.symm⟩)
        clear hv
        go_wp2
        go_ret
        exact ⟨⟨_, rfl, by rw [HF.out]; exact decide_eq_true (by omega)⟩, rfl⟩
      · have hb : (v == (x : Int)) = false := beq_eq_false_iff_ne.2 hv
        have HF := Apart0.mk (show (xs.take (k + 1)).any (fun (x : Nat) => (x : Int) == v) = false by rw [HTK.out, List.any_append, HA.out, List.any_cons, beq_eq_false_iff_ne.2 (fun e => hv e.symm)]; rfl)
        clear hv
        go_wp2
        go_round
        case rel => exact ⟨k + 1, by omega, by go_num, HF⟩
        case measure => simp [intOf]; omega
    · have hk2 : k = xs.length := by omega
      have HF := HA.out
      rw [hk2, List.take_length] at HF
      have HG := Apart0.mk HF
      clear HF
      go_wp2
      go_ret
      exact ⟨⟨_, rfl, by rw [HG.out]; rfl⟩, rfl⟩
theorem contains_at (A : Option Addr) (c : Nat) (xs : List Nat) (v : Int) (hl : xs.length ≤ 1000) (w : World) (h : NatsAt w A xs) :
    Calls Try.prog 80 #[.slice A xs.length c, .int .i64 v] w fun e w' => e = .returned (.bool (xs.any fun (x : Nat) => (x : Int) == v)) ∧ w = w' := by
  have H := Apart0.mk h
  clear h
  go_enter Try.func80, Try.ntmps80
  go_wp2_with fail
  refine (index_at A c xs v hl _ H.out).mono ?_
  rintro e w' ⟨⟨r, rfl, hr⟩, rfl⟩
  have HR := Apart0.mk hr
  clear hr
  go_wp2_with fail
  go_ret
  exact ⟨by rw [← HR.out]; rfl, rfl⟩
end Go.Proofs.Ytlplaidcdocbmaa.Srt
