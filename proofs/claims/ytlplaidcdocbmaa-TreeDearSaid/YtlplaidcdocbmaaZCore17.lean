-- Cut by pack.py, a program of this session; not trusted: Lean checks it.
import Derived.RangeFuncNested
import Derived.RangeFuncBound
import Derived.RangeFuncCalls
import Derived.RangeFuncLeaves
import Derived.Shelf.Abstract
import Derived.Shelf.RegionOpen
import Derived.WalkKit
import Derived.OwnWalkIn
import Derived.TacticsInMore
import Derived.LoopNIn
import Derived.LoopIn
import Derived.Maps.AppendAt
import Derived.Test.YtlplaidcdocbmaaProg
import Derived.Test.YtlplaidcdocbmaaZCore1
import Derived.Test.YtlplaidcdocbmaaZPlainA
import Derived.Deep.Draws
import Derived.Tactics
import Derived.Lib.Walk
import Derived.Lib.SliceRun
import Derived.Test.YtlplaidcdocbmaaZCore13
import Derived.Test.YtlplaidcdocbmaaZCore16
/- tree.Plan: its closure, its clone. -/
namespace Go.Proofs.Ytlplaidcdocbmaa.Core
open Go.RowKit Go.Shelf
set_option linter.unusedVariables false
set_option linter.unusedSimpArgs false

theorem info49 : (Try.prog.info? 49).map (fun i => (i.zero, i.size, i.bytes)) = some (some (.agg #[.int .i64 0, .int .i64 0, .bool false]), 3, 24) := by kernel_rfl

set_option maxHeartbeats 2000000 in
theorem clone_edges {base n : Nat} {v : Value} {news : List Value} {w : World} (h : w.ownsRow base 49 3 v n news) (hn : n ≤ 1000) (h1 : ∀ u ∈ news, u.oneCell' = true) :
    Calls Try.prog 75 #[v] w fun e w' => ∃ v' : Value, e = .returned v' ∧ w'.ownsRow w.heap.size 49 3 v' n news ∧ Below w.heap.size w w' := by
  obtain ⟨i0, hi, hz0, hz1, hz2⟩ := info_parts info49
  have q43 : ∀ (w : World) (a : Option Addr) (n c n' c' : Nat), (binOp .eql 43 (.slice a n c) (.slice none n' c')).run Try.prog w = .ok (.bool a.isNone) w := fun w a n c n' c' => Lib.run_eql_slice_nil w _ _ a n c n' c' Try.underlying43
  rcases h.2 with ⟨rfl, h0⟩ | ⟨g, cap, cur, rfl, hb, hg, hnc, hcm, hcs, htake⟩
  · subst h0
    have hx : news = [] := by have := h.1; simpa using this
    subst hx
    clear h h1
    go_enter Try.func75, Try.ntmps75
    go_wp2
    go_ret
    exact ⟨_, rfl, World.ownsRow_nil _ _ _ _, Below.refl _ _⟩
  · have HC := Apart0.mk h
    have hnl := h.1
    have HG := Apart0.mk hg
    clear hg h htake hcs hb
    go_enter Try.func75, Try.ntmps75
    go_wp2_with (at_builtin; refine wpList_append_own _ rfl _ _ 43 rfl w.heap.size 49 i0 (.agg #[.int .i64 0, .int .i64 0, .bool false]) 3 24 Try.underlying43 hi hz0 hz1 hz2 rfl (by decide) _ _ _ rfl (World.ownsRow_made w #[] 0 (Nat.le_refl _) (Nat.zero_le _) rfl) ⟨g, 0, none⟩ n cap news rfl ?qc1 ?qc2 ?qc3 ?qc4 ?qc5 ?qc6 ?_)
    case qc1 => exact hnl
    case qc2 =>
      intro j u hj
      have hjn : j < n * 3 := by
        have := (List.getElem?_eq_some_iff.1 hj).1
        omega
      rw [Addr.add_lit, Nat.zero_add]
      exact Lib.cell?_alloc_some _ ((HC.out.cellAt j hjn).trans hj)
    case qc3 => exact h1
    case qc4 => unfold maxLen; omega
    case qc5 => omega
    case qc6 => simp
    intro v' w1 hown hgrow hnil
    go_wp2
    go_ret
    exact ⟨v', rfl, by simpa using hown, ((Below.refl _ w).alloc (Nat.le_refl _) _).grown hgrow (by simp) (by intro k hk; simp [Value.ownBlock] at hk; omega)⟩

/-- The blocks that a schema's box and its row and the rows' box are. -/
def fpS (A : Option Addr) (Bs Br : Nat) (k : Nat) : Prop := k = Bs ∨ k = Br ∨ ∃ ad, A = some ad ∧ k = ad.block

theorem cost_calls (A : Option Addr) (c : Nat) (cs : List Int) (ms n : Int) (Bs Br p : Nat) (hp : p < 16) (hok : okCards cs = true) (hn : 0 ≤ n ∧ n ≤ 1000000) (w W : World)
    (hs : w.heap[Bs]? = some (.cells #[.slice A cs.length c, .int .i64 ms] 33 (0, 0))) (hr : w.heap[Br]? = some (.cells #[.int .i64 n] 3 (0, 0)))
    (hcell : ∀ i : Nat, i < cs.length → ∃ ad, A = some ad ∧ w.cell? (ad.add i) = some (.int .i64 (cs.getD i 0))) (hW : Same (fpS A Bs Br) w W) :
    Calls Try.prog 74 #[.int .i64 (p : Int), .pointer (some ⟨Bs, 0, none⟩), .pointer (some ⟨Br, 0, none⟩)] W fun e W' => e = .returned (.int .i64 (sizeI cs n p)) ∧ Below W.heap.size W W' := by
  have hS := (hW.2 Bs (Or.inl rfl)).trans hs
  have hR := (hW.2 Br (Or.inr (Or.inl rfl))).trans hr
  have c0 : W.cell? ⟨Bs, 0, none⟩ = some (.slice A cs.length c) := by simp [World.cell?, hS]
  have c1 : W.cell? ⟨Bs, 1, none⟩ = some (.int .i64 ms) := by simp [World.cell?, hS]
  have c2 : W.cell? ⟨Br, 0, none⟩ = some (.int .i64 n) := by simp [World.cell?, hR]
  have hz := size_calls A c cs ms n p hp (okCards_len hok) (okCards_all hok) hn W (fun i hi => by
    obtain ⟨ad, e, h⟩ := hcell i hi
    exact ⟨ad, e, (World.cell?_of_block (w := w) (w' := W) (a := ad.add i) (hW.2 _ (Or.inr (Or.inr ⟨ad, e, by cases ad; simp only [Addr.add]; split <;> rfl⟩)))).trans h⟩)
  have HZ := Apart0.mk hz
  have e : min (prodL cs ((List.range cs.length).filter fun i => p.testBit i)) n = sizeI cs n p := rfl
  have HE := Apart0.mk e
  clear hz e hcell hS hR hs hr hW
  go_enter Try.func74, Try.ntmps74
  go_wp2_with fail
  refine HZ.out.mono ?_
  rintro e w' ⟨rfl, hb⟩
  go_wp2_with fail
  go_ret
  exact ⟨rfl, hb⟩
theorem enters74 : ∀ args w, (callFunc 74 args).run Try.prog w = .ok (.enter 74 args) w := enters_of Try.func74 (by kernel_rfl) rfl
end Go.Proofs.Ytlplaidcdocbmaa.Core
