/- The law LedgerHigh, walked. -/
import Derived.Test.YteecnkappoakcaaCore5
namespace Go.Proofs.Yteecnkappoakcaa.Core
open Go.RowKit Go.Proofs.YteecnkappoakcaaW.PrintWords Go.Proofs.YteecnkappoakcaaW.PrintLast Go.Proofs.YteecnkappoakcaaW.PrintMore
attribute [local go_sem] max2_int min2_int max_two min_two max_three min_three max_four min_four

theorem ledgerHigh_walk (a0 : Option Addr) (len0 cap0 : Nat) (z0 : List Int) (a1 : Int) (w : World) (w0 : IsInts w a0 len0 cap0 z0) (y0 : len0 * 8 ≤ 140737488351232) (_w1 : (Lit.int .i64 a1).wf = true) :
    Calls Try.prog 7 #[.slice a0 len0 cap0, .int .i64 a1] w fun e w' => e = .returned (.bool true) ∧ Below w.heap.size w w' := by
  obtain ⟨l0, rfl, hr0, hm0, hw0, hc0⟩ := ReadsInt.ofRowC w0
  have hr0 : Kd.C (Kd.int .i64) w a0 l0.length l0 := Kd.C_of_reads (d := (0 : Int)) (h1 := fun _ => rfl) hr0
  have HR := Aside0.mk hr0
  have hlen : l0.length ≤ 9223372036854775807 := by omega
  clear hr0 hw0 hc0 hm0 w0 _w1
  go_enter Try.func7, Try.ntmps7
  go_wp2_with (first | (go_at_call 11; refine (known_calls _).mono ?_; rintro e w1 ⟨rfl, hb⟩; have HB := Aside0.mk hb; clear hb))
  go_wp2_with fail
  refine (new_calls 1000 _ (by decide)).mono ?_
  rintro e wn ⟨g, hg, rfl, hl, hB⟩
  have HL0 := Aside0.mk hl
  have HB2 : Aside0 (Below w.heap.size w wn) := ⟨HB.out.trans (hB.mono HB.out.size)⟩
  have HG : Aside0 (w.heap.size ≤ g) := ⟨Nat.le_trans HB.out.size hg⟩
  clear hl hB hg HB
  go_wp2_with fail
  refine (new_calls 1000 _ (by decide)).mono ?_
  rintro e wm ⟨g2, hg, rfl, hl, hB⟩
  have HL2 := Aside0.mk hl
  have HL : Aside0 (Led g 0 0 1000 wm) := ⟨blk_below HL0.out hB⟩
  have HNE : Aside0 (g ≠ g2) := ⟨by have := blk_lt HL0.out; omega⟩
  have HG2 : Aside0 (w.heap.size ≤ g2) := ⟨Nat.le_trans HB2.out.size hg⟩
  have HB3 : Aside0 (Below w.heap.size w wm) := ⟨HB2.out.trans (hB.mono HB2.out.size)⟩
  clear hl hB hg HB2 HL0
  go_wp2
  go_loopw [7, 8] (fun us i wr => ∃ (k : Nat) (sm : Int), k ≤ l0.length ∧ i = .int .i64 k ∧ us = .int .i64 sm ∧ 0 ≤ sm ∧ sm ≤ 39 * k ∧ k ≤ 20 ∧ Aside0 (Led g sm sm 1000 wr) ∧ Aside0 (Led g2 0 0 1000 wr) ∧ Aside0 (Below w.heap.size w wr)) (fun _ i _ => l0.length - (intOf i).toNat)
  case atStart => exact ⟨0, 0, Nat.zero_le _, rfl, rfl, by decide, by decide, by decide, HL, HL2, HB3⟩
  case round =>
    clear HL HL2 HB3
    obtain ⟨k, sm, hk, rfl, rfl, hu0, hu1, hk20, HL, HL2, HB⟩ := hrel
    by_cases hlt : k < l0.length
    · have c1 : decide (k < l0.length) = true := decide_eq_true hlt
      by_cases h60 : k < 20
      · have c2 : decide ((k : Int) < 20) = true := decide_eq_true (by omega)
        have HC := Aside0.mk (Kd.C_below HR.out HB.out)
        obtain ⟨ad, x, rfl, hcx, hxm⟩ := cell_int HC.out k hlt
        clear hxm
        go_wp2_with fail
        refine (within_some _ 40 _ (by decide) (by decide)).mono ?_
        rintro e w' ⟨z, rfl, hy0, hy1, rfl⟩
        go_wp2_with fail
        refine (take_yes g sm sm 1000 z _ HL.out (by omega) (by omega) (by omega) (by omega) (by omega)).mono ?_
        rintro e w' ⟨rfl, hl, hs⟩
        have HL1 : Aside0 (Led g (sm + z) (sm + z) 1000 w') := ⟨by rw [mx_le (show sm ≤ sm + z by omega)] at hl; exact hl⟩
        have HS1 := Aside0.mk hs
        clear hl hs
        go_wp2
        go_roundw
        case rel => exact ⟨k + 1, sm + z, by omega, by go_num, rfl, by omega, by omega, by omega, HL1, ⟨HS1.out.1.blk HL2.out (Ne.symm HNE.out) (by simp)⟩, ⟨HB.out.trans (HS1.out.2 _ HG.out)⟩⟩
        case measure => simp [intOf]; omega
      · have c2 : decide ((k : Int) < 20) = false := decide_eq_false (by omega)
        go_wp2_with fail
        refine (take_yes g2 0 0 1000 sm _ HL2.out (by omega) (by omega) (by omega) (by omega) (by omega)).mono ?_
        rintro e wa ⟨rfl, hl, hs⟩
        have HM2 : Aside0 (Led g2 sm sm 1000 wa) := ⟨by rw [mx_le (show (0 : Int) ≤ 0 + sm by omega), show (0 : Int) + sm = sm from by omega] at hl; exact hl⟩
        have HM1 : Aside0 (Led g sm sm 1000 wa) := ⟨hs.1.blk HL.out HNE.out (by simp)⟩
        have HBa : Aside0 (Below w.heap.size w wa) := ⟨HB.out.trans (hs.2 _ HG2.out)⟩
        clear hl hs HB HL HL2
        go_wp2_with fail
        refine (high_calls g sm sm 1000 _ HM1.out).mono ?_
        rintro e w'' ⟨rfl, rfl⟩
        go_wp2_with fail
        refine (high_calls g2 sm sm 1000 _ HM2.out).mono ?_
        rintro e w'' ⟨rfl, rfl⟩
        go_wp2_with fail
        refine (used_calls g sm sm 1000 _ HM1.out).mono ?_
        rintro e w'' ⟨rfl, rfl⟩
        go_wp2_with fail
        refine (within_some _ (sm + 1) _ (by omega) (by omega)).mono ?_
        rintro e w' ⟨q, rfl, hq0, hq1, rfl⟩
        go_wp2_with fail
        refine (give_yes g sm sm 1000 q _ HM1.out (by omega) (by omega) (by omega) (by omega) (by omega)).mono ?_
        rintro e wb ⟨rfl, hl, hs⟩
        have HL3 := Aside0.mk hl
        have HS3 := Aside0.mk hs
        clear hl hs
        go_wp2_with fail
        refine (high_calls g (sm - q) sm 1000 _ HL3.out).mono ?_
        rintro e w'' ⟨rfl, rfl⟩
        go_wp2_with fail
        refine (take_yes g (sm - q) sm 1000 q _ HL3.out (by omega) (by omega) (by omega) (by omega) (by omega)).mono ?_
        rintro e wc ⟨rfl, hl, hs⟩
        have HL4 : Aside0 (Led g sm sm 1000 wc) := ⟨by rw [show sm - q + q = sm from by omega, mx_le (show sm ≤ sm by omega)] at hl; exact hl⟩
        have HS4 := Aside0.mk hs
        clear hl hs
        go_wp2_with fail
        refine (high_calls g sm sm 1000 _ HL4.out).mono ?_
        rintro e w'' ⟨rfl, rfl⟩
        go_wp2
        go_ret
        exact ⟨rfl, HBa.out.trans ((HS3.out.trans HS4.out).2 _ HG.out)⟩
    · have c1 : decide (k < l0.length) = false := decide_eq_false hlt
      go_wp2_with fail
      refine (take_yes g2 0 0 1000 sm _ HL2.out (by omega) (by omega) (by omega) (by omega) (by omega)).mono ?_
      rintro e wa ⟨rfl, hl, hs⟩
      have HM2 : Aside0 (Led g2 sm sm 1000 wa) := ⟨by rw [mx_le (show (0 : Int) ≤ 0 + sm by omega), show (0 : Int) + sm = sm from by omega] at hl; exact hl⟩
      have HM1 : Aside0 (Led g sm sm 1000 wa) := ⟨hs.1.blk HL.out HNE.out (by simp)⟩
      have HBa : Aside0 (Below w.heap.size w wa) := ⟨HB.out.trans (hs.2 _ HG2.out)⟩
      clear hl hs HB HL HL2
      go_wp2_with fail
      refine (high_calls g sm sm 1000 _ HM1.out).mono ?_
      rintro e w'' ⟨rfl, rfl⟩
      go_wp2_with fail
      refine (high_calls g2 sm sm 1000 _ HM2.out).mono ?_
      rintro e w'' ⟨rfl, rfl⟩
      go_wp2_with fail
      refine (used_calls g sm sm 1000 _ HM1.out).mono ?_
      rintro e w'' ⟨rfl, rfl⟩
      go_wp2_with fail
      refine (within_some _ (sm + 1) _ (by omega) (by omega)).mono ?_
      rintro e w' ⟨q, rfl, hq0, hq1, rfl⟩
      go_wp2_with fail
      refine (give_yes g sm sm 1000 q _ HM1.out (by omega) (by omega) (by omega) (by omega) (by omega)).mono ?_
      rintro e wb ⟨rfl, hl, hs⟩
      have HL3 := Aside0.mk hl
      have HS3 := Aside0.mk hs
      clear hl hs
      go_wp2_with fail
      refine (high_calls g (sm - q) sm 1000 _ HL3.out).mono ?_
      rintro e w'' ⟨rfl, rfl⟩
      go_wp2_with fail
      refine (take_yes g (sm - q) sm 1000 q _ HL3.out (by omega) (by omega) (by omega) (by omega) (by omega)).mono ?_
      rintro e wc ⟨rfl, hl, hs⟩
      have HL4 : Aside0 (Led g sm sm 1000 wc) := ⟨by rw [show sm - q + q = sm from by omega, mx_le (show sm ≤ sm by omega)] at hl; exact hl⟩
      have HS4 := Aside0.mk hs
      clear hl hs
      go_wp2_with fail
      refine (high_calls g sm sm 1000 _ HL4.out).mono ?_
      rintro e w'' ⟨rfl, rfl⟩
      go_wp2
      go_ret
      exact ⟨rfl, HBa.out.trans ((HS3.out.trans HS4.out).2 _ HG.out)⟩
end Go.Proofs.Yteecnkappoakcaa.Core
