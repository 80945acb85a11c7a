/- The law LedgerBounds, walked. -/
import Derived.Test.YteecnkappoakcaaCore4
namespace Go.Proofs.Yteecnkappoakcaa.Core
open Go.RowKit Go.Proofs.YteecnkappoakcaaW.PrintWords Go.Proofs.YteecnkappoakcaaW.PrintLast Go.Proofs.YteecnkappoakcaaW.PrintMore
attribute [local go_sem] max2_int min2_int max_two min_two max_three min_three max_four min_four

theorem ledgerBounds_walk (a0 : Int) (a1 : Option Addr) (len1 cap1 : Nat) (z1 : List Int) (w : World) (_w0 : (Lit.int .i64 a0).wf = true) (w1 : IsInts w a1 len1 cap1 z1) (y1 : len1 * 8 ≤ 140737488351232) :
    Calls Try.prog 4 #[.int .i64 a0, .slice a1 len1 cap1] w fun e w' => e = .returned (.bool true) ∧ Below w.heap.size w w' := by
  obtain ⟨l0, rfl, hr0, hm0, hw0, hc0⟩ := ReadsInt.ofRowC w1
  have hr0 : Kd.C (Kd.int .i64) w a1 l0.length l0 := Kd.C_of_reads (d := (0 : Int)) (h1 := fun _ => rfl) hr0
  have HR := Aside0.mk hr0
  have HW := Aside0.mk hw0
  have hlen : l0.length ≤ 9223372036854775807 := by omega
  clear hr0 hw0 hc0 hm0 w1 _w0
  go_enter Try.func4, Try.ntmps4
  go_wp2_with (first | (go_at_call 11; refine (known_calls _).mono ?_; rintro e w1 ⟨rfl, hb⟩; have HB := Aside0.mk hb; clear hb))
  go_wp2_with fail
  refine (within_some _ 1099511627776 _ (by decide) (by decide)).mono ?_
  rintro e w' ⟨kk, rfl, hk0, hk1, rfl⟩
  go_wp2_with fail
  refine (new_calls kk _ hk0).mono ?_
  rintro e wn ⟨g, hg, rfl, hl, hB⟩
  have HL := Aside0.mk hl
  have HB2 : Aside0 (Below w.heap.size w wn) := ⟨HB.out.trans (hB.mono HB.out.size)⟩
  have HG : Aside0 (w.heap.size ≤ g) := ⟨Nat.le_trans HB.out.size hg⟩
  clear hl hB hg HB
  go_wp2
  go_loopw [7, 8] (fun us i wr => ∃ (k : Nat) (u h : Int), k ≤ l0.length ∧ i = .int .i64 k ∧ us = .int .i64 h ∧ 0 ≤ u ∧ u ≤ kk ∧ u ≤ h ∧ Aside0 (Led g u h kk wr) ∧ Aside0 (Below w.heap.size w wr)) (fun _ i _ => l0.length - (intOf i).toNat)
  case atStart => exact ⟨0, 0, 0, Nat.zero_le _, rfl, rfl, by decide, by omega, by decide, HL, HB2⟩
  case round =>
    clear HL HB2
    obtain ⟨k, u, h, hk, rfl, rfl, hu0, hu1, huh, HL, HB⟩ := hrel
    by_cases hlt : k < l0.length
    · have c1 : decide (k < l0.length) = true := decide_eq_true hlt
      by_cases h60 : k < 60
      · have c2 : decide ((k : Int) < 60) = true := decide_eq_true (by omega)
        have HC := Aside0.mk (Kd.C_below HR.out HB.out)
        obtain ⟨ad, x, rfl, hcx, hxm⟩ := cell_int HC.out k hlt
        clear hxm
        go_wp2_with fail
        refine (within_some _ 3 _ (by decide) (by decide)).mono ?_
        rintro e w' ⟨z2, rfl, hy0, hy1, rfl⟩
        by_cases e2 : z2 = 0
        · have c3 : (z2 == 0) = true := beq_iff_eq.2 e2
          by_cases ht : 0 ≤ x ∧ x ≤ u
          · obtain ⟨ht0, ht1⟩ := ht
            have m1 : decide (h < u - x) = false := decide_eq_false (by omega)
            have n1 : decide (u - x < 0) = false := decide_eq_false (by omega)
            have n2 : decide (kk < u - x) = false := decide_eq_false (by omega)
            go_wp2_with fail
            refine (give_yes g u h kk x _ HL.out (by omega) (by omega) (by omega) (by omega) (by omega)).mono ?_
            rintro e w' ⟨rfl, hl, hs⟩
            have HL1 := Aside0.mk hl
            have HS1 := Aside0.mk hs
            clear hl hs

            go_wp2_with fail
            refine (used_calls g (u - x) h kk _ HL1.out).mono ?_
            rintro e w'' ⟨rfl, rfl⟩
            go_wp2_with fail
            refine (used_calls g (u - x) h kk _ HL1.out).mono ?_
            rintro e w'' ⟨rfl, rfl⟩
            go_wp2_with fail
            refine (used_calls g (u - x) h kk _ HL1.out).mono ?_
            rintro e w'' ⟨rfl, rfl⟩
            go_wp2_with fail
            refine (high_calls g (u - x) h kk _ HL1.out).mono ?_
            rintro e w'' ⟨rfl, rfl⟩
            go_wp2
            go_roundw
            case rel => exact ⟨k + 1, (u - x), h, by omega, by go_num, rfl, by omega, by omega, by omega, HL1, ⟨HB.out.trans (HS1.out.2 _ HG.out)⟩⟩
            case measure => simp [intOf]; omega
          · have m1 : decide (h < u) = false := decide_eq_false (by omega)
            have n1 : decide (u < 0) = false := decide_eq_false (by omega)
            have n2 : decide (kk < u) = false := decide_eq_false (by omega)
            go_wp2_with fail
            refine (give_no g u h kk x _ HL.out (by omega) (by omega) (by omega) (by omega)).mono ?_
            rintro e w' ⟨rfl, hl, hs⟩
            have HL1 := Aside0.mk hl
            have HS1 := Aside0.mk hs
            clear hl hs

            go_wp2_with fail
            refine (used_calls g u h kk _ HL1.out).mono ?_
            rintro e w'' ⟨rfl, rfl⟩
            go_wp2_with fail
            refine (used_calls g u h kk _ HL1.out).mono ?_
            rintro e w'' ⟨rfl, rfl⟩
            go_wp2_with fail
            refine (used_calls g u h kk _ HL1.out).mono ?_
            rintro e w'' ⟨rfl, rfl⟩
            go_wp2_with fail
            refine (high_calls g u h kk _ HL1.out).mono ?_
            rintro e w'' ⟨rfl, rfl⟩
            go_wp2
            go_roundw
            case rel => exact ⟨k + 1, u, h, by omega, by go_num, rfl, by omega, by omega, by omega, HL1, ⟨HB.out.trans (HS1.out.2 _ HG.out)⟩⟩
            case measure => simp [intOf]; omega
        · have c3 : (z2 == 0) = false := beq_eq_false_iff_ne.2 e2
          by_cases ht : 0 ≤ x ∧ x ≤ kk - u
          · obtain ⟨ht0, ht1⟩ := ht
            have n1 : decide (u + x < 0) = false := decide_eq_false (by omega)
            have n2 : decide (kk < u + x) = false := decide_eq_false (by omega)
            by_cases hx : h < u + x
            · have m1 : decide (h < u + x) = true := decide_eq_true (by omega)
              have HM : Aside0 (mx h (u + x) = u + x) := ⟨mx_le (by omega)⟩
              go_wp2_with fail
              refine (take_yes g u h kk x _ HL.out (by omega) (by omega) (by omega) (by omega) (by omega)).mono ?_
              rintro e w' ⟨rfl, hl, hs⟩
              have HL1 := Aside0.mk hl
              have HS1 := Aside0.mk hs
              clear hl hs
              rw [HM.out] at HL1
              go_wp2_with fail
              refine (used_calls g (u + x) (u + x) kk _ HL1.out).mono ?_
              rintro e w'' ⟨rfl, rfl⟩
              go_wp2_with fail
              refine (used_calls g (u + x) (u + x) kk _ HL1.out).mono ?_
              rintro e w'' ⟨rfl, rfl⟩
              go_wp2_with fail
              refine (used_calls g (u + x) (u + x) kk _ HL1.out).mono ?_
              rintro e w'' ⟨rfl, rfl⟩
              go_wp2_with fail
              refine (high_calls g (u + x) (u + x) kk _ HL1.out).mono ?_
              rintro e w'' ⟨rfl, rfl⟩
              go_wp2
              go_roundw
              case rel => exact ⟨k + 1, (u + x), (u + x), by omega, by go_num, rfl, by omega, by omega, by omega, HL1, ⟨HB.out.trans (HS1.out.2 _ HG.out)⟩⟩
              case measure => simp [intOf]; omega
            · have m1 : decide (h < u + x) = false := decide_eq_false (by omega)
              have HM : Aside0 (mx h (u + x) = h) := ⟨mx_ge (by omega)⟩
              go_wp2_with fail
              refine (take_yes g u h kk x _ HL.out (by omega) (by omega) (by omega) (by omega) (by omega)).mono ?_
              rintro e w' ⟨rfl, hl, hs⟩
              have HL1 := Aside0.mk hl
              have HS1 := Aside0.mk hs
              clear hl hs
              rw [HM.out] at HL1
              go_wp2_with fail
              refine (used_calls g (u + x) h kk _ HL1.out).mono ?_
              rintro e w'' ⟨rfl, rfl⟩
              go_wp2_with fail
              refine (used_calls g (u + x) h kk _ HL1.out).mono ?_
              rintro e w'' ⟨rfl, rfl⟩
              go_wp2_with fail
              refine (used_calls g (u + x) h kk _ HL1.out).mono ?_
              rintro e w'' ⟨rfl, rfl⟩
              go_wp2_with fail
              refine (high_calls g (u + x) h kk _ HL1.out).mono ?_
              rintro e w'' ⟨rfl, rfl⟩
              go_wp2
              go_roundw
              case rel => exact ⟨k + 1, (u + x), h, by omega, by go_num, rfl, by omega, by omega, by omega, HL1, ⟨HB.out.trans (HS1.out.2 _ HG.out)⟩⟩
              case measure => simp [intOf]; omega
          · have m1 : decide (h < u) = false := decide_eq_false (by omega)
            have n1 : decide (u < 0) = false := decide_eq_false (by omega)
            have n2 : decide (kk < u) = false := decide_eq_false (by omega)
            go_wp2_with fail
            refine (take_no g u h kk x _ HL.out (by omega) (by omega) (by omega) (by omega)).mono ?_
            rintro e w' ⟨rfl, hl, hs⟩
            have HL1 := Aside0.mk hl
            have HS1 := Aside0.mk hs
            clear hl hs

            go_wp2_with fail
            refine (used_calls g u h kk _ HL1.out).mono ?_
            rintro e w'' ⟨rfl, rfl⟩
            go_wp2_with fail
            refine (used_calls g u h kk _ HL1.out).mono ?_
            rintro e w'' ⟨rfl, rfl⟩
            go_wp2_with fail
            refine (used_calls g u h kk _ HL1.out).mono ?_
            rintro e w'' ⟨rfl, rfl⟩
            go_wp2_with fail
            refine (high_calls g u h kk _ HL1.out).mono ?_
            rintro e w'' ⟨rfl, rfl⟩
            go_wp2
            go_roundw
            case rel => exact ⟨k + 1, u, h, by omega, by go_num, rfl, by omega, by omega, by omega, HL1, ⟨HB.out.trans (HS1.out.2 _ HG.out)⟩⟩
            case measure => simp [intOf]; omega
      · have c2 : decide ((k : Int) < 60) = false := decide_eq_false (by omega)
        go_wp2
        go_ret
        exact ⟨rfl, HB.out⟩
    · have c1 : decide (k < l0.length) = false := decide_eq_false hlt
      go_wp2
      go_ret
      exact ⟨rfl, HB.out⟩
end Go.Proofs.Yteecnkappoakcaa.Core
