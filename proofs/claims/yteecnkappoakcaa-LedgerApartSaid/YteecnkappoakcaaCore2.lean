/- Laws of ledgers without a loop over numbers: LedgerNone, LedgerBack. -/
import Derived.Test.YteecnkappoakcaaCore1
namespace Go.Proofs.Yteecnkappoakcaa.Core
open Go.RowKit Go.Proofs.YteecnkappoakcaaW.PrintWords Go.Proofs.YteecnkappoakcaaW.PrintLast Go.Proofs.YteecnkappoakcaaW.PrintMore

theorem take_zero (g : Nat) (w : World) (n : Int) (h : Led g 0 0 0 w) :
    Calls Try.prog 15 #[.pointer (some ⟨g, 0, none⟩), .int .i64 n] w fun e w' => e = .returned (.bool (n == 0)) ∧ Led g 0 0 0 w' ∧ Step g w w' := by
  by_cases hn : n = 0
  · subst hn
    refine (take_yes g 0 0 0 0 w h (by decide) (by decide) (by decide) (by decide) (by decide)).mono ?_
    rintro e w' ⟨rfl, hl, hs⟩
    exact ⟨rfl, hl, hs⟩
  · refine (take_no g 0 0 0 n w h (by decide) (by decide) (by decide) (by omega)).mono ?_
    rintro e w' ⟨rfl, hl, hs⟩
    exact ⟨by rw [beq_eq_false_iff_ne.2 hn], hl, hs⟩
theorem give_zero (g : Nat) (w : World) (n : Int) (h : Led g 0 0 0 w) :
    Calls Try.prog 17 #[.pointer (some ⟨g, 0, none⟩), .int .i64 n] w fun e w' => e = .returned (.bool (n == 0)) ∧ Led g 0 0 0 w' ∧ Step g w w' := by
  by_cases hn : n = 0
  · subst hn
    refine (give_yes g 0 0 0 0 w h (by decide) (by decide) (by decide) (by decide) (by decide)).mono ?_
    rintro e w' ⟨rfl, hl, hs⟩
    exact ⟨rfl, hl, hs⟩
  · refine (give_no g 0 0 0 n w h (by decide) (by decide) (by decide) (by omega)).mono ?_
    rintro e w' ⟨rfl, hl, hs⟩
    exact ⟨by rw [beq_eq_false_iff_ne.2 hn], hl, hs⟩

theorem ledgerNone_walk (a0 a1 : Int) (w : World) (_w0 : (Lit.int .i64 a0).wf = true) (_w1 : (Lit.int .i64 a1).wf = true) :
    Calls Try.prog 8 #[.int .i64 a0, .int .i64 a1] w fun e w' => e = .returned (.bool true) ∧ Below w.heap.size w w' := by
  go_enter Try.func8, Try.ntmps8
  go_wp2_with (first | (go_at_call 11; refine (known_calls _).mono ?_; rintro e w1 ⟨rfl, hb⟩; have HB := Aside0.mk hb; clear hb))
  go_wp2_with fail
  refine (new_calls 0 _ (by decide)).mono ?_
  rintro e w2 ⟨g, hg, rfl, hl, hB⟩
  have HL := Aside0.mk hl
  have HB2 := Aside0.mk hB
  have HG := Aside0.mk hg
  clear hl hB hg
  go_wp2_with fail
  refine (rnew_calls 0 _).mono ?_
  rintro e w3 ⟨g2, hg, rfl, hl, hB⟩
  have HR := Aside0.mk hl
  have HB3 := Aside0.mk hB
  have HL3 : Aside0 (Led g 0 0 0 w3) := ⟨blk_below HL.out HB3.out⟩
  have HG2 : Aside0 (g2 ≠ g) := ⟨by have := blk_lt HL.out; omega⟩
  clear hl hB hg HL
  go_wp2_with fail
  refine (take_zero g _ a0 HL3.out).mono ?_
  rintro e w4 ⟨rfl, hl, hs⟩
  have HL4 := Aside0.mk hl
  have HS4 := Aside0.mk hs
  clear hl hs
  go_wp2_with fail
  refine (give_zero g _ a1 HL4.out).mono ?_
  rintro e w5 ⟨rfl, hl, hs⟩
  have HL5 := Aside0.mk hl
  have HS5 := Aside0.mk hs
  clear hl hs
  go_wp2_with fail
  refine (take_zero g _ 0 HL5.out).mono ?_
  rintro e w6 ⟨rfl, hl, hs⟩
  have HL6 := Aside0.mk hl
  have HS6 := Aside0.mk hs
  clear hl hs
  go_wp2_with fail
  refine (used_calls g 0 0 0 _ HL6.out).mono ?_
  rintro e w7 ⟨rfl, rfl⟩
  go_wp2_with fail
  refine (high_calls g 0 0 0 _ HL6.out).mono ?_
  rintro e w8 ⟨rfl, rfl⟩
  go_wp2_with fail
  refine (rhigh_calls g2 0 0 0 _ (show Ref g2 0 0 0 _ from (((HS4.out.trans HS5.out).trans HS6.out).1).blk HR.out HG2.out (by simp))).mono ?_
  rintro e w9 ⟨rfl, rfl⟩
  go_wp2
  go_ret
  exact ⟨rfl, ((HB.out.trans (HB2.out.mono HB.out.size)).trans (HB3.out.mono (Nat.le_trans HB.out.size HB2.out.size))).trans (((HS4.out.trans HS5.out).trans HS6.out).2 _ (Nat.le_trans HB.out.size HG.out))⟩
end Go.Proofs.Yteecnkappoakcaa.Core
