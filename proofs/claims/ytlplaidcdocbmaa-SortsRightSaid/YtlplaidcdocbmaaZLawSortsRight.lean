-- Cut by pack.py, a program of this session; not trusted: Lean checks it.
import Derived.Test.YtlplaidcdocbmaaRows
import Derived.Test.YtlplaidcdocbmaaZHead
import Derived.Test.YtlplaidcdocbmaaZPSortsRightx5
import Derived.Test.YtlplaidcdocbmaaZPureSortsRight
import Derived.WalkKit
import Derived.ProofKit
import Derived.OpenShut
import Derived.ShutString
import Derived.ChangeOld
import Derived.Below
import Derived.SizedLaws
import Derived.Deep.SlicePairs
import Derived.Test.YtlplaidcdocbmaaZV0
/- SortsRight: whether any plan is right is the document's: the law's row, whatever slice of edges is handed in. -/
namespace Go.Proofs.Ytlplaidcdocbmaa.sortsRight
open Go.ChangeShapes Go.WideShapes Go.ChangeAt Go.RowKit Go.Deep
open Go.ChangeMaps (open_string shut_string)
open Go.Proofs.YtlplaidcdocbmaaW.PrintWords
open Go.Proofs.Ytlplaidcdocbmaa.PSortsRight (S49 z49 k49 k49_mk)
set_option linter.unusedVariables false
set_option linter.unusedSimpArgs false
theorem own : ownKnob Try.prog.godebug = none := by kernel_rfl
theorem laidOut : laidOutB Try.prog = true := by kernel_rfl
def IsRow (k : IntKind) (w : World) (a : Option Addr) (len cap : Nat) (zs : List Int) : Prop :=
  (a = none ∧ len = 0 ∧ cap = 0 ∧ zs = []) ∨
  ∃ x, a = some x ∧ len ≤ cap ∧ cap ≤ maxLen ∧ zs.length = cap ∧ (∀ i, i < zs.length → w.cell? (x.add i) = some (.int k (zs.getD i 0))) ∧ ∀ n ∈ zs, (Lit.int k n).wf = true
theorem cells49 : Try.prog.cellsOf 49 = 3 := by kernel_rfl
theorem cells3 : Try.prog.cellsOf 3 = 1 := by kernel_rfl
theorem cells4 : Try.prog.cellsOf 4 = 1 := by kernel_rfl
/-- One edge, read. -/
theorem edge_open {H : Type} {enc : TypeId × Value → H} {W : World} {fuel : Nat} {cs : List Value} {x : DataW H × List MemPlace} (h : DataW.trod enc Try.prog W 0 (fun _ => true) true fuel 49 cs = some x) (hl : cs.length = 3) :
    ∃ e : S49, cs = [.int .i64 e.f0, .int .i64 e.f1, .bool e.f2] ∧ (Lit.int .i64 e.f1).wf = true := by
  obtain ⟨xs, n, _, _, _, hxl, hf⟩ := DataW.trod_struct Try.underlying49 h
  match cs, hl with
  | [u0, u1, u2], _ =>
    have g0 := hf 0 _ rfl
    have g1 := hf 1 _ rfl
    have g2 := hf 2 _ rfl
    match xs, hxl with
    | [y0, y1, y2], _ =>
      simp [cells3, cells4] at g0 g1 g2
      obtain ⟨a, e0, _, w0⟩ := DataW.trod_int Try.underlying3 g0
      obtain ⟨b, e1, _, w1⟩ := DataW.trod_int Try.underlying3 g1
      obtain ⟨c, e2, _⟩ := DataW.trod_bool Try.underlying4 g2
      simp only [List.cons.injEq, and_true] at e0 e1 e2
      subst e0 e1 e2
      exact ⟨⟨a, b, c⟩, rfl, w1⟩
/-- A slice of edges, read. -/
theorem edges_open {H : Type} {enc : TypeId × Value → H} {W : World} {fuel : Nat} {cs : List Value} {x : DataW H × List MemPlace} (h : DataW.trod enc Try.prog W 0 (fun _ => true) true fuel 43 cs = some x) :
    ∃ (A : Option Addr) (len cap : Nat) (L : List S49), cs = [.slice A len cap] ∧ len ≤ cap ∧ L.length = len ∧ Kd.C k49 W A len L ∧ ∀ e ∈ L, (Lit.int .i64 e.f1).wf = true := by
  rcases open_slice Try.underlying43 h with ⟨hcs, _⟩ | ⟨a, len, cap, m, n, D, Pl, hcs, _, hl, hm, hmm, _, hx⟩
  · exact ⟨none, 0, 0, [], hcs, Nat.le_refl _, rfl, ⟨rfl, by omega, fun h => absurd h (by omega)⟩, by simp⟩
  · have hml : len ≤ m := by rw [hmm]; split <;> omega
    haveI : Inhabited S49 := ⟨z49⟩
    obtain ⟨f, hf⟩ := choose_lt (α := S49) (n := len) (p := fun i e => (∀ (j : Nat) (u : Value), ([.int .i64 e.f0, .int .i64 e.f1, .bool e.f2] : List Value)[j]? = some u → W.cell? (a.add (i * 3 + j)) = some u) ∧ (Lit.int .i64 e.f1).wf = true) (fun i hi => by
      obtain ⟨cs', h1, h2⟩ := hx i (by omega)
      rw [cells49] at h1
      obtain ⟨_, hlen, hcell⟩ := World.cells?_some h1
      obtain ⟨e, rfl, hw⟩ := edge_open h2 hlen
      refine ⟨e, fun j u hj => ?_, hw⟩
      have hj3 : j < 3 := by
        rcases Nat.lt_or_ge j 3 with hh | hh
        · exact hh
        · rw [List.getElem?_eq_none (by simpa using hh)] at hj; cases hj
      have := hcell j hj3
      rw [Go.Deep.add_add, hj] at this
      exact this)
    refine ⟨some a, len, cap, (List.range len).map f, hcs, hl, by simp, ⟨by simp, by unfold maxLen at hm; omega, fun _ => ⟨a, rfl, ?_⟩⟩, ?_⟩
    · intro j p hp
      have hjl : j < len := by
        rcases Nat.lt_or_ge j len with hh | hh
        · exact hh
        · rw [List.getElem?_eq_none (by simpa using hh)] at hp; cases hp
      have e : p = f j := by
        rw [List.getElem?_map, List.getElem?_range hjl] at hp
        exact (Option.some.inj hp).symm
      subst e
      exact ⟨_, rfl, k49_mk W (f j), (hf j hjl).1⟩
    · intro e he
      obtain ⟨i, hi, rfl⟩ := List.mem_map.1 he
      exact (hf i (List.mem_range.1 hi)).2
theorem walk (A0 : Option Addr) (c0 : Nat) (l0 : List S49) (a1 : Int) (a2 : Option Addr) (len2 cap2 : Nat) (z2 : List Int) (a3 a4 a5 : Int) (w : World) (hr0 : Kd.C k49 w A0 l0.length l0) (hc0 : l0.length ≤ c0) (hw0 : ∀ e ∈ l0, (Lit.int .i64 e.f1).wf = true)
    (w2 : (a2 = none ∧ len2 = 0 ∧ cap2 = 0 ∧ z2 = []) ∨ ∃ x, a2 = some x ∧ len2 ≤ cap2 ∧ cap2 ≤ maxLen ∧ z2.length = cap2 ∧ (∀ i, i < z2.length → w.cell? (x.add i) = some (.int .i64 (z2.getD i 0))) ∧ ∀ n ∈ z2, (Lit.int .i64 n).wf = true) :
    Calls Try.prog 18 #[.slice A0 l0.length c0, .int .i64 a1, .slice a2 len2 cap2, .int .i64 a3, .int .i64 a4, .int .i64 a5] w fun e w' => e = .returned (.bool true) ∧ Below w.heap.size w w' := by
  obtain ⟨l2, rfl, hr2, hm2, hw2, hc2⟩ := ReadsInt.ofRowC w2
  obtain ⟨k, h⟩ := Pure.SortsRight l0 hw0 a1 l2 a3 a4 a5
  refine (PSortsRight.hypercubelaw10_SortsRight.calls k A0 c0 l0 a1 _ _ l2 a3 a4 a5 true w hr0 hc0 (Kd.C_of_reads (d := (0 : Int)) (h1 := fun _ => rfl) hr2) hc2 h).mono ?_
  rintro e w' ⟨rfl, hd⟩
  exact ⟨rfl, hd⟩
set_option maxRecDepth 100000 in
theorem lifted (os : Os) (started : os.Started) (H : Type) (enc : TypeId × Value → H) :
    ReturnsInHanded {} Try.checked os 18 .any (Rows.sortsRightSpec.pre6 enc Try.prog Try.f18 Rows.sortsRightRow.domain false) (Rows.sortsRightSpec.post enc Try.prog Try.f18 false true false false) := by
  refine returnsInHanded_of_change_sized (C := Try.checked) own started (by kernel_rfl) Try.func18
    (ChangeSpec.witness6 (enc := enc) (C := Try.checked) false ⟨#[], #[.slice none 0 0, .int .i64 0, .slice none 0 0, .int .i64 0, .int .i64 0, .int .i64 0], []⟩ 8 (by kernel_rfl) (by kernel_rfl) (by kernel_rfl) (by kernel_rfl)) ?_
  intro W base args ds gs before hval0 hW hcnd hsz0 _
  have hval : ∀ (j : Nat) t v, Try.f18.params[j]? = some t → args[j]? = some v → Value.okWide Try.prog W .any base t v := hval0
  have hW' := hW
  obtain ⟨p, q, hA0, hV, rfl, hfz, hnd⟩ := hW
  have hA : DataW.TrodAll enc Try.prog W 0 (fun _ => true) true Try.f18.params.toList args.toList ds p := hA0
  rw [Try.params18] at hA hval
  obtain ⟨v0, vs0, d0, ds0, p0, q0, hargs, rfl, rfl, h0, r0⟩ := trodAll_cons hA
  obtain ⟨v1, vs1, d1, ds1, p1, q1, rfl, rfl, rfl, h1, r1⟩ := trodAll_cons r0
  obtain ⟨v2, vs2, d2, ds2, p2, q2, rfl, rfl, rfl, h2, r2⟩ := trodAll_cons r1
  obtain ⟨v3, vs3, d3, ds3, p3, q3, rfl, rfl, rfl, h3, r3⟩ := trodAll_cons r2
  obtain ⟨v4, vs4, d4, ds4, p4, q4, rfl, rfl, rfl, h4, r4⟩ := trodAll_cons r3
  obtain ⟨v5, vs5, d5, ds5, p5, q5, rfl, rfl, rfl, h5, r5⟩ := trodAll_cons r4
  obtain ⟨rfl, rfl, rfl⟩ := trodAll_nil r5
  obtain rfl : args = #[v0, v1, v2, v3, v4, v5] := by cases args; simp_all
  obtain ⟨rfl, rfl⟩ := trodVars_none hV
  obtain ⟨a0, len0, cap0, rfl⟩ := okWide_slice Try.underlying43 (hval 0 43 v0 rfl rfl)
  have k0 := h0
  have lt0 : ∀ x ∈ p0, x.block < W.heap.size := by obtain ⟨m, hm⟩ := k0; exact DataW.trod_lt m _ _ _ hm
  obtain ⟨l0, e0, hc0, hr0, hw0⟩ : ∃ l0 : List S49, l0.length = len0 ∧ len0 ≤ cap0 ∧ Kd.C k49 W a0 len0 l0 ∧ ∀ e ∈ l0, (Lit.int .i64 e.f1).wf = true := by
    obtain ⟨fuel, hf⟩ := h0
    obtain ⟨A, len, cap, L, hcs, g1, g2, g3, g4⟩ := edges_open hf
    simp [Value.cells] at hcs
    obtain ⟨rfl, rfl, rfl⟩ := hcs
    exact ⟨L, g2, g1, g3, g4⟩
  subst e0
  obtain ⟨a1, rfl, rfl, rfl, w1⟩ := open_int Try.underlying3 (hval 1 3 v1 rfl rfl) h1
  obtain ⟨a2, len2, cap2, rfl⟩ := okWide_slice Try.underlying24 (hval 2 24 v2 rfl rfl)
  have k2 := h2
  have lt2 : ∀ x ∈ p2, x.block < W.heap.size := by obtain ⟨m, hm⟩ := k2; exact DataW.trod_lt m _ _ _ hm
  obtain ⟨z2, w2⟩ : ∃ zs, IsRow .i64 W a2 len2 cap2 zs := by
    obtain ⟨fuel, hf⟩ := h2
    rcases open_ints Try.underlying24 Try.underlying3 (by kernel_rfl) hf with ⟨hcs, _⟩ | ⟨x, l, c, zs, hcs, _, hl, hm, hz, _, hcell, hwz⟩
    · simp [Value.cells] at hcs
      obtain ⟨rfl, rfl, rfl⟩ := hcs
      exact ⟨[], .inl ⟨rfl, rfl, rfl, rfl⟩⟩
    · simp [Value.cells] at hcs
      obtain ⟨rfl, rfl, rfl⟩ := hcs
      exact ⟨zs, .inr ⟨_, rfl, hl, hm, by simpa using hz, hcell, hwz⟩⟩
  obtain ⟨a3, rfl, rfl, rfl, w3⟩ := open_int Try.underlying3 (hval 3 3 v3 rfl rfl) h3
  obtain ⟨a4, rfl, rfl, rfl, w4⟩ := open_int Try.underlying3 (hval 4 3 v4 rfl rfl) h4
  obtain ⟨a5, rfl, rfl, rfl, w5⟩ := open_int Try.underlying3 (hval 5 3 v5 rfl rfl) h5
  clear hA0 hval0 hsz0
  refine (walk a0 cap0 l0 a1 a2 len2 cap2 z2 a3 a4 a5 W hr0 hc0 hw0 w2).mono fun e W' ⟨he, bel⟩ => ?_
  subst he
  exact ⟨_, rfl, _, _, _, [], _, [], hW', trodAll_mk1 (shut_bool Try.underlying4 _), (trodAll_cons_mk (Below.trod laidOut (by kernel_rfl) (of_decide_eq_true (by kernel_rfl)) k0 bel lt0) (trodAll_cons_mk (shut_int Try.underlying3 w1) (trodAll_cons_mk (Below.trod laidOut (by kernel_rfl) (of_decide_eq_true (by kernel_rfl)) k2 bel lt2) (trodAll_cons_mk (shut_int Try.underlying3 w3) (trodAll_cons_mk (shut_int Try.underlying3 w4) (trodAll_cons_mk (shut_int Try.underlying3 w5) trodAll_mk0)))))), rfl, bel.frame _, fun h => by cases h⟩
theorem over : Rows.sortsRightRow.holds Try.pinned (OpenSpec.ofChange Rows.sortsRightSpec) :=
  OpenClaim.holds_of_wide 18 Try.f18 rfl rfl rfl rfl rfl rfl rfl ⟨rfl, rfl, rfl, rfl, rfl⟩ rfl rfl rfl rfl rfl (by kernel_rfl) Try.func18 (Head.closed 18 Try.f18 Rows.sortsRightSpec Rows.sortsRightRow (by kernel_rfl))
    (of_decide_eq_true (by kernel_rfl)) (by unfold Func.isWrapper; first | (rw [if_pos (by decide +kernel)]; kernel_rfl) | (rw [if_neg (by decide +kernel)]; exact ⟨rfl, rfl⟩))
    (fun os started H enc _ => lifted os started H enc)
theorem proved : Rows.SortsRightSaid := over
#print axioms proved
end Go.Proofs.Ytlplaidcdocbmaa.sortsRight
namespace Go.Proofs.Ytlplaidcdocbmaa
/-- The row, under a short name, for the claim. -/
theorem sortsRight_holds : Rows.SortsRightSaid := sortsRight.proved
end Go.Proofs.Ytlplaidcdocbmaa
