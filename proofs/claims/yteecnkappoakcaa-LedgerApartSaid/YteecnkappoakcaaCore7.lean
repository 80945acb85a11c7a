/- The law LedgerPlays, walked. -/
import Derived.Test.YteecnkappoakcaaCore6
namespace Go.Proofs.Yteecnkappoakcaa.Core
open Go.RowKit Go.Proofs.YteecnkappoakcaaW.PrintWords Go.Proofs.YteecnkappoakcaaW.PrintLast Go.Proofs.YteecnkappoakcaaW.PrintMore
attribute [local go_sem] max2_int min2_int max_two min_two max_three min_three max_four min_four

theorem rtake_yes (g : Nat) (now high k n : Int) (w : World) (h : Ref g k now high w) (h0 : 0 ≤ now) (h1 : now ≤ k) (h2 : k ≤ 4611686018427387904) (hn : 0 ≤ n) (hk : n ≤ k - now) :
    Calls Try.prog 16 #[.pointer (some ⟨g, 0, none⟩), .int .i64 n] w fun e w' => e = .returned (.bool true) ∧ Ref g k (now + n) (mx high (now + n)) w' ∧ Step g w w' := by
  have HT : tk now k n = true := by unfold tk; rw [decide_eq_true hn, decide_eq_true hk]; rfl
  refine (rtake_calls g now high k n w h h0 h1 h2).mono fun e w' hp => ?_
  unfold RTakePost at hp
  rw [HT] at hp
  exact hp
theorem rtake_no (g : Nat) (now high k n : Int) (w : World) (h : Ref g k now high w) (h0 : 0 ≤ now) (h1 : now ≤ k) (h2 : k ≤ 4611686018427387904) (hn : n < 0 ∨ k - now < n) :
    Calls Try.prog 16 #[.pointer (some ⟨g, 0, none⟩), .int .i64 n] w fun e w' => e = .returned (.bool false) ∧ Ref g k now high w' ∧ Step g w w' := by
  have HT : tk now k n = false := by
    unfold tk
    rcases hn with hn | hn
    · rw [decide_eq_false (show ¬ 0 ≤ n by omega)]; rfl
    · rw [decide_eq_false (show ¬ n ≤ k - now by omega)]; simp
  refine (rtake_calls g now high k n w h h0 h1 h2).mono fun e w' hp => ?_
  unfold RTakePost at hp
  rw [HT] at hp
  exact hp
theorem rgive_yes (g : Nat) (now high k n : Int) (w : World) (h : Ref g k now high w) (h0 : 0 ≤ now) (h2 : now ≤ 4611686018427387904) (hn : 0 ≤ n) (hk : n ≤ now) :
    Calls Try.prog 18 #[.pointer (some ⟨g, 0, none⟩), .int .i64 n] w fun e w' => e = .returned (.bool true) ∧ Ref g k (now - n) high w' ∧ Step g w w' := by
  have HT : gv now n = true := by unfold gv; rw [decide_eq_true hn, decide_eq_true hk]; rfl
  refine (rgive_calls g now high k n w h h0 h2).mono fun e w' hp => ?_
  unfold RGivePost at hp
  rw [HT] at hp
  exact hp
theorem rgive_no (g : Nat) (now high k n : Int) (w : World) (h : Ref g k now high w) (h0 : 0 ≤ now) (h2 : now ≤ 4611686018427387904) (hn : n < 0 ∨ now < n) :
    Calls Try.prog 18 #[.pointer (some ⟨g, 0, none⟩), .int .i64 n] w fun e w' => e = .returned (.bool false) ∧ Ref g k now high w' ∧ Step g w w' := by
  have HT : gv now n = false := by
    unfold gv
    rcases hn with hn | hn
    · rw [decide_eq_false (show ¬ 0 ≤ n by omega)]; rfl
    · rw [decide_eq_false (show ¬ n ≤ now by omega)]; simp
  refine (rgive_calls g now high k n w h h0 h2).mono fun e w' hp => ?_
  unfold RGivePost at hp
  rw [HT] at hp
  exact hp

theorem ledgerPlays_walk (a0 : Int) (a1 : Option Addr) (len1 cap1 : Nat) (z1 : List Int) (a2 : Int) (w : World) (_w0 : (Lit.int .i64 a0).wf = true) (w1 : IsInts w a1 len1 cap1 z1) (y1 : len1 * 8 ≤ 140737488351232) (_w2 : (Lit.int .i64 a2).wf = true) :
    Calls Try.prog 3 #[.int .i64 a0, .slice a1 len1 cap1, .int .i64 a2] w fun e w' => e = .returned (.bool true) ∧ Below w.heap.size w w' := by
  obtain ⟨l0, rfl, hr0, hm0, hw0, hc0⟩ := ReadsInt.ofRowC w1
  have hr0 : Kd.C (Kd.int .i64) w a1 l0.length l0 := Kd.C_of_reads (d := (0 : Int)) (h1 := fun _ => rfl) hr0
  have HR := Aside0.mk hr0
  have hlen : l0.length ≤ 9223372036854775807 := by omega
  clear hr0 hw0 hc0 hm0 w1 _w0 _w2
  go_enter Try.func3, Try.ntmps3
  go_wp2_with (first | (go_at_call 11; refine (known_calls _).mono ?_; rintro e w1 ⟨rfl, hb⟩; have HB := Aside0.mk hb; clear hb))
  go_wp2_with fail
  refine (within_some _ 60 _ (by decide) (by decide)).mono ?_
  rintro e w' ⟨kk, rfl, hk0, hk1, rfl⟩
  go_wp2_with fail
  refine (new_calls kk _ hk0).mono ?_
  rintro e wn ⟨g, hg, rfl, hl, hB⟩
  have HL0 := Aside0.mk hl
  have HB2 : Aside0 (Below w.heap.size w wn) := ⟨HB.out.trans (hB.mono HB.out.size)⟩
  have HG : Aside0 (w.heap.size ≤ g) := ⟨Nat.le_trans HB.out.size hg⟩
  clear hl hB hg HB
  go_wp2_with fail
  refine (rnew_calls kk _).mono ?_
  rintro e wm ⟨g2, hg, rfl, hl, hB⟩
  have HRf := Aside0.mk hl
  have HL : Aside0 (Led g 0 0 kk wm) := ⟨blk_below HL0.out hB⟩
  have HNE : Aside0 (g ≠ g2) := ⟨by have := blk_lt HL0.out; omega⟩
  have HG2 : Aside0 (w.heap.size ≤ g2) := ⟨Nat.le_trans HB2.out.size hg⟩
  have HB3 : Aside0 (Below w.heap.size w wm) := ⟨HB2.out.trans (hB.mono HB2.out.size)⟩
  clear hl hB hg HB2 HL0
  go_wp2
  go_loopw [10] (fun i wr => ∃ (k : Nat) (u h : Int), k ≤ l0.length ∧ i = .int .i64 k ∧ 0 ≤ u ∧ u ≤ kk ∧ u ≤ h ∧ Aside0 (Led g u h kk wr) ∧ Aside0 (Ref g2 kk u h wr) ∧ Aside0 (Below w.heap.size w wr)) (fun i _ => l0.length - (intOf i).toNat)
  case atStart => exact ⟨0, 0, 0, Nat.zero_le _, rfl, by decide, by omega, by decide, HL, HRf, HB3⟩
  case round =>
    clear HL HRf HB3
    obtain ⟨k, u, h, hk, rfl, hu0, hu1, huh, HL, HRf, HB⟩ := hrel
    by_cases hlt : k < l0.length
    · have c1 : decide (k < l0.length) = true := decide_eq_true hlt
      by_cases h60 : k < 80
      · have c2 : decide ((k : Int) < 80) = true := decide_eq_true (by omega)
        have HC := Aside0.mk (Kd.C_below HR.out HB.out)
        obtain ⟨ad, x, rfl, hcx, hxm⟩ := cell_int HC.out k hlt
        clear hxm
        go_wp2_with fail
        refine (within_some _ 30 _ (by decide) (by decide)).mono ?_
        rintro e w' ⟨z, rfl, hz0, hz1, rfl⟩
        go_wp2_with fail
        refine (within_some _ 23 _ (by decide) (by decide)).mono ?_
        rintro e w' ⟨z3, rfl, hv0, hv1, rfl⟩
        by_cases e3 : z3 = 0
        · have c4 : (z3 == 0) = true := beq_iff_eq.2 e3
          go_wp2_with fail
          refine (within_some _ 2 _ (by decide) (by decide)).mono ?_
          rintro e w' ⟨z2, rfl, hy0, hy1, rfl⟩
          by_cases e2 : z2 = 0
          · have c3 : (z2 == 0) = true := beq_iff_eq.2 e2
            by_cases ht : 0 ≤ a2 ∧ a2 ≤ kk - u
            · obtain ⟨ht0, ht1⟩ := ht
              by_cases hx : h < u + a2
              · have HM : Aside0 (mx h (u + a2) = u + a2) := ⟨mx_le (by omega)⟩
                go_wp2_with fail
                refine (take_yes g u h kk a2 _ HL.out (by omega) (by omega) (by omega) (by omega) (by omega)).mono ?_
                rintro e wa ⟨rfl, hl, hs⟩
                have HL1 := Aside0.mk hl
                have HR1 : Aside0 (Ref g2 kk u h wa) := ⟨hs.1.blk HRf.out (Ne.symm HNE.out) (by simp)⟩
                have HS1 := Aside0.mk hs
                clear hl hs
                go_wp2_with fail
                refine (rtake_yes g2 u h kk a2 _ HR1.out (by omega) (by omega) (by omega) (by omega) (by omega)).mono ?_
                rintro e wb ⟨rfl, hl, hs⟩
                have HR2 := Aside0.mk hl
                rw [HM.out] at HL1 HR2
                have HL2 : Aside0 (Led g (u + a2) (u + a2) kk wb) := ⟨hs.1.blk HL1.out HNE.out (by simp)⟩
                have HS2 := Aside0.mk hs
                clear hl hs
                go_wp2_with fail
                refine (used_calls g (u + a2) (u + a2) kk _ HL2.out).mono ?_
                rintro e w'' ⟨rfl, rfl⟩
                go_wp2_with fail
                refine (rused_calls g2 (u + a2) (u + a2) kk _ HR2.out).mono ?_
                rintro e w'' ⟨rfl, rfl⟩
                go_wp2_with fail
                refine (high_calls g (u + a2) (u + a2) kk _ HL2.out).mono ?_
                rintro e w'' ⟨rfl, rfl⟩
                go_wp2_with fail
                refine (rhigh_calls g2 (u + a2) (u + a2) kk _ HR2.out).mono ?_
                rintro e w'' ⟨rfl, rfl⟩
                go_wp2
                go_roundw
                case rel => exact ⟨k + 1, (u + a2), (u + a2), by omega, by go_num, by omega, by omega, by omega, HL2, HR2, ⟨(HB.out.trans (HS1.out.2 _ HG.out)).trans (HS2.out.2 _ HG2.out)⟩⟩
                case measure => simp [intOf]; omega
              · have HM : Aside0 (mx h (u + a2) = h) := ⟨mx_ge (by omega)⟩
                go_wp2_with fail
                refine (take_yes g u h kk a2 _ HL.out (by omega) (by omega) (by omega) (by omega) (by omega)).mono ?_
                rintro e wa ⟨rfl, hl, hs⟩
                have HL1 := Aside0.mk hl
                have HR1 : Aside0 (Ref g2 kk u h wa) := ⟨hs.1.blk HRf.out (Ne.symm HNE.out) (by simp)⟩
                have HS1 := Aside0.mk hs
                clear hl hs
                go_wp2_with fail
                refine (rtake_yes g2 u h kk a2 _ HR1.out (by omega) (by omega) (by omega) (by omega) (by omega)).mono ?_
                rintro e wb ⟨rfl, hl, hs⟩
                have HR2 := Aside0.mk hl
                rw [HM.out] at HL1 HR2
                have HL2 : Aside0 (Led g (u + a2) h kk wb) := ⟨hs.1.blk HL1.out HNE.out (by simp)⟩
                have HS2 := Aside0.mk hs
                clear hl hs
                go_wp2_with fail
                refine (used_calls g (u + a2) h kk _ HL2.out).mono ?_
                rintro e w'' ⟨rfl, rfl⟩
                go_wp2_with fail
                refine (rused_calls g2 (u + a2) h kk _ HR2.out).mono ?_
                rintro e w'' ⟨rfl, rfl⟩
                go_wp2_with fail
                refine (high_calls g (u + a2) h kk _ HL2.out).mono ?_
                rintro e w'' ⟨rfl, rfl⟩
                go_wp2_with fail
                refine (rhigh_calls g2 (u + a2) h kk _ HR2.out).mono ?_
                rintro e w'' ⟨rfl, rfl⟩
                go_wp2
                go_roundw
                case rel => exact ⟨k + 1, (u + a2), h, by omega, by go_num, by omega, by omega, by omega, HL2, HR2, ⟨(HB.out.trans (HS1.out.2 _ HG.out)).trans (HS2.out.2 _ HG2.out)⟩⟩
                case measure => simp [intOf]; omega
            · have ht' : a2 < 0 ∨ kk - u < a2 := by omega
              clear ht
              go_wp2_with fail
              refine (take_no g u h kk a2 _ HL.out (by omega) (by omega) (by omega) ht').mono ?_
              rintro e wa ⟨rfl, hl, hs⟩
              have HL1 := Aside0.mk hl
              have HR1 : Aside0 (Ref g2 kk u h wa) := ⟨hs.1.blk HRf.out (Ne.symm HNE.out) (by simp)⟩
              have HS1 := Aside0.mk hs
              clear hl hs
              go_wp2_with fail
              refine (rtake_no g2 u h kk a2 _ HR1.out (by omega) (by omega) (by omega) ht').mono ?_
              rintro e wb ⟨rfl, hl, hs⟩
              have HR2 := Aside0.mk hl
              have HL2 : Aside0 (Led g u h kk wb) := ⟨hs.1.blk HL1.out HNE.out (by simp)⟩
              have HS2 := Aside0.mk hs
              clear hl hs
              go_wp2_with fail
              refine (used_calls g u h kk _ HL2.out).mono ?_
              rintro e w'' ⟨rfl, rfl⟩
              go_wp2_with fail
              refine (rused_calls g2 u h kk _ HR2.out).mono ?_
              rintro e w'' ⟨rfl, rfl⟩
              go_wp2_with fail
              refine (high_calls g u h kk _ HL2.out).mono ?_
              rintro e w'' ⟨rfl, rfl⟩
              go_wp2_with fail
              refine (rhigh_calls g2 u h kk _ HR2.out).mono ?_
              rintro e w'' ⟨rfl, rfl⟩
              go_wp2
              go_roundw
              case rel => exact ⟨k + 1, u, h, by omega, by go_num, by omega, by omega, by omega, HL2, HR2, ⟨(HB.out.trans (HS1.out.2 _ HG.out)).trans (HS2.out.2 _ HG2.out)⟩⟩
              case measure => simp [intOf]; omega
          · have c3 : (z2 == 0) = false := beq_eq_false_iff_ne.2 e2
            by_cases ht : 0 ≤ a2 ∧ a2 ≤ u
            · obtain ⟨ht0, ht1⟩ := ht
              go_wp2_with fail
              refine (give_yes g u h kk a2 _ HL.out (by omega) (by omega) (by omega) (by omega) (by omega)).mono ?_
              rintro e wa ⟨rfl, hl, hs⟩
              have HL1 := Aside0.mk hl
              have HR1 : Aside0 (Ref g2 kk u h wa) := ⟨hs.1.blk HRf.out (Ne.symm HNE.out) (by simp)⟩
              have HS1 := Aside0.mk hs
              clear hl hs
              go_wp2_with fail
              refine (rgive_yes g2 u h kk a2 _ HR1.out (by omega) (by omega) (by omega) (by omega)).mono ?_
              rintro e wb ⟨rfl, hl, hs⟩
              have HR2 := Aside0.mk hl
              have HL2 : Aside0 (Led g (u - a2) h kk wb) := ⟨hs.1.blk HL1.out HNE.out (by simp)⟩
              have HS2 := Aside0.mk hs
              clear hl hs
              go_wp2_with fail
              refine (used_calls g (u - a2) h kk _ HL2.out).mono ?_
              rintro e w'' ⟨rfl, rfl⟩
              go_wp2_with fail
              refine (rused_calls g2 (u - a2) h kk _ HR2.out).mono ?_
              rintro e w'' ⟨rfl, rfl⟩
              go_wp2_with fail
              refine (high_calls g (u - a2) h kk _ HL2.out).mono ?_
              rintro e w'' ⟨rfl, rfl⟩
              go_wp2_with fail
              refine (rhigh_calls g2 (u - a2) h kk _ HR2.out).mono ?_
              rintro e w'' ⟨rfl, rfl⟩
              go_wp2
              go_roundw
              case rel => exact ⟨k + 1, (u - a2), h, by omega, by go_num, by omega, by omega, by omega, HL2, HR2, ⟨(HB.out.trans (HS1.out.2 _ HG.out)).trans (HS2.out.2 _ HG2.out)⟩⟩
              case measure => simp [intOf]; omega
            · have ht' : a2 < 0 ∨ u < a2 := by omega
              clear ht
              go_wp2_with fail
              refine (give_no g u h kk a2 _ HL.out (by omega) (by omega) (by omega) ht').mono ?_
              rintro e wa ⟨rfl, hl, hs⟩
              have HL1 := Aside0.mk hl
              have HR1 : Aside0 (Ref g2 kk u h wa) := ⟨hs.1.blk HRf.out (Ne.symm HNE.out) (by simp)⟩
              have HS1 := Aside0.mk hs
              clear hl hs
              go_wp2_with fail
              refine (rgive_no g2 u h kk a2 _ HR1.out (by omega) (by omega) ht').mono ?_
              rintro e wb ⟨rfl, hl, hs⟩
              have HR2 := Aside0.mk hl
              have HL2 : Aside0 (Led g u h kk wb) := ⟨hs.1.blk HL1.out HNE.out (by simp)⟩
              have HS2 := Aside0.mk hs
              clear hl hs
              go_wp2_with fail
              refine (used_calls g u h kk _ HL2.out).mono ?_
              rintro e w'' ⟨rfl, rfl⟩
              go_wp2_with fail
              refine (rused_calls g2 u h kk _ HR2.out).mono ?_
              rintro e w'' ⟨rfl, rfl⟩
              go_wp2_with fail
              refine (high_calls g u h kk _ HL2.out).mono ?_
              rintro e w'' ⟨rfl, rfl⟩
              go_wp2_with fail
              refine (rhigh_calls g2 u h kk _ HR2.out).mono ?_
              rintro e w'' ⟨rfl, rfl⟩
              go_wp2
              go_roundw
              case rel => exact ⟨k + 1, u, h, by omega, by go_num, by omega, by omega, by omega, HL2, HR2, ⟨(HB.out.trans (HS1.out.2 _ HG.out)).trans (HS2.out.2 _ HG2.out)⟩⟩
              case measure => simp [intOf]; omega
        · have c4 : (z3 == 0) = false := beq_eq_false_iff_ne.2 e3
          go_wp2_with fail
          refine (within_some _ 2 _ (by decide) (by decide)).mono ?_
          rintro e w' ⟨z2, rfl, hy0, hy1, rfl⟩
          by_cases e2 : z2 = 0
          · have c3 : (z2 == 0) = true := beq_iff_eq.2 e2
            by_cases ht : 0 ≤ (z - 2) ∧ (z - 2) ≤ kk - u
            · obtain ⟨ht0, ht1⟩ := ht
              by_cases hx : h < u + (z - 2)
              · have HM : Aside0 (mx h (u + (z - 2)) = u + (z - 2)) := ⟨mx_le (by omega)⟩
                go_wp2_with fail
                refine (take_yes g u h kk (z - 2) _ HL.out (by omega) (by omega) (by omega) (by omega) (by omega)).mono ?_
                rintro e wa ⟨rfl, hl, hs⟩
                have HL1 := Aside0.mk hl
                have HR1 : Aside0 (Ref g2 kk u h wa) := ⟨hs.1.blk HRf.out (Ne.symm HNE.out) (by simp)⟩
                have HS1 := Aside0.mk hs
                clear hl hs
                go_wp2_with fail
                refine (rtake_yes g2 u h kk (z - 2) _ HR1.out (by omega) (by omega) (by omega) (by omega) (by omega)).mono ?_
                rintro e wb ⟨rfl, hl, hs⟩
                have HR2 := Aside0.mk hl
                rw [HM.out] at HL1 HR2
                have HL2 : Aside0 (Led g (u + (z - 2)) (u + (z - 2)) kk wb) := ⟨hs.1.blk HL1.out HNE.out (by simp)⟩
                have HS2 := Aside0.mk hs
                clear hl hs
                go_wp2_with fail
                refine (used_calls g (u + (z - 2)) (u + (z - 2)) kk _ HL2.out).mono ?_
                rintro e w'' ⟨rfl, rfl⟩
                go_wp2_with fail
                refine (rused_calls g2 (u + (z - 2)) (u + (z - 2)) kk _ HR2.out).mono ?_
                rintro e w'' ⟨rfl, rfl⟩
                go_wp2_with fail
                refine (high_calls g (u + (z - 2)) (u + (z - 2)) kk _ HL2.out).mono ?_
                rintro e w'' ⟨rfl, rfl⟩
                go_wp2_with fail
                refine (rhigh_calls g2 (u + (z - 2)) (u + (z - 2)) kk _ HR2.out).mono ?_
                rintro e w'' ⟨rfl, rfl⟩
                go_wp2
                go_roundw
                case rel => exact ⟨k + 1, (u + (z - 2)), (u + (z - 2)), by omega, by go_num, by omega, by omega, by omega, HL2, HR2, ⟨(HB.out.trans (HS1.out.2 _ HG.out)).trans (HS2.out.2 _ HG2.out)⟩⟩
                case measure => simp [intOf]; omega
              · have HM : Aside0 (mx h (u + (z - 2)) = h) := ⟨mx_ge (by omega)⟩
                go_wp2_with fail
                refine (take_yes g u h kk (z - 2) _ HL.out (by omega) (by omega) (by omega) (by omega) (by omega)).mono ?_
                rintro e wa ⟨rfl, hl, hs⟩
                have HL1 := Aside0.mk hl
                have HR1 : Aside0 (Ref g2 kk u h wa) := ⟨hs.1.blk HRf.out (Ne.symm HNE.out) (by simp)⟩
                have HS1 := Aside0.mk hs
                clear hl hs
                go_wp2_with fail
                refine (rtake_yes g2 u h kk (z - 2) _ HR1.out (by omega) (by omega) (by omega) (by omega) (by omega)).mono ?_
                rintro e wb ⟨rfl, hl, hs⟩
                have HR2 := Aside0.mk hl
                rw [HM.out] at HL1 HR2
                have HL2 : Aside0 (Led g (u + (z - 2)) h kk wb) := ⟨hs.1.blk HL1.out HNE.out (by simp)⟩
                have HS2 := Aside0.mk hs
                clear hl hs
                go_wp2_with fail
                refine (used_calls g (u + (z - 2)) h kk _ HL2.out).mono ?_
                rintro e w'' ⟨rfl, rfl⟩
                go_wp2_with fail
                refine (rused_calls g2 (u + (z - 2)) h kk _ HR2.out).mono ?_
                rintro e w'' ⟨rfl, rfl⟩
                go_wp2_with fail
                refine (high_calls g (u + (z - 2)) h kk _ HL2.out).mono ?_
                rintro e w'' ⟨rfl, rfl⟩
                go_wp2_with fail
                refine (rhigh_calls g2 (u + (z - 2)) h kk _ HR2.out).mono ?_
                rintro e w'' ⟨rfl, rfl⟩
                go_wp2
                go_roundw
                case rel => exact ⟨k + 1, (u + (z - 2)), h, by omega, by go_num, by omega, by omega, by omega, HL2, HR2, ⟨(HB.out.trans (HS1.out.2 _ HG.out)).trans (HS2.out.2 _ HG2.out)⟩⟩
                case measure => simp [intOf]; omega
            · have ht' : (z - 2) < 0 ∨ kk - u < (z - 2) := by omega
              clear ht
              go_wp2_with fail
              refine (take_no g u h kk (z - 2) _ HL.out (by omega) (by omega) (by omega) ht').mono ?_
              rintro e wa ⟨rfl, hl, hs⟩
              have HL1 := Aside0.mk hl
              have HR1 : Aside0 (Ref g2 kk u h wa) := ⟨hs.1.blk HRf.out (Ne.symm HNE.out) (by simp)⟩
              have HS1 := Aside0.mk hs
              clear hl hs
              go_wp2_with fail
              refine (rtake_no g2 u h kk (z - 2) _ HR1.out (by omega) (by omega) (by omega) ht').mono ?_
              rintro e wb ⟨rfl, hl, hs⟩
              have HR2 := Aside0.mk hl
              have HL2 : Aside0 (Led g u h kk wb) := ⟨hs.1.blk HL1.out HNE.out (by simp)⟩
              have HS2 := Aside0.mk hs
              clear hl hs
              go_wp2_with fail
              refine (used_calls g u h kk _ HL2.out).mono ?_
              rintro e w'' ⟨rfl, rfl⟩
              go_wp2_with fail
              refine (rused_calls g2 u h kk _ HR2.out).mono ?_
              rintro e w'' ⟨rfl, rfl⟩
              go_wp2_with fail
              refine (high_calls g u h kk _ HL2.out).mono ?_
              rintro e w'' ⟨rfl, rfl⟩
              go_wp2_with fail
              refine (rhigh_calls g2 u h kk _ HR2.out).mono ?_
              rintro e w'' ⟨rfl, rfl⟩
              go_wp2
              go_roundw
              case rel => exact ⟨k + 1, u, h, by omega, by go_num, by omega, by omega, by omega, HL2, HR2, ⟨(HB.out.trans (HS1.out.2 _ HG.out)).trans (HS2.out.2 _ HG2.out)⟩⟩
              case measure => simp [intOf]; omega
          · have c3 : (z2 == 0) = false := beq_eq_false_iff_ne.2 e2
            by_cases ht : 0 ≤ (z - 2) ∧ (z - 2) ≤ u
            · obtain ⟨ht0, ht1⟩ := ht
              go_wp2_with fail
              refine (give_yes g u h kk (z - 2) _ HL.out (by omega) (by omega) (by omega) (by omega) (by omega)).mono ?_
              rintro e wa ⟨rfl, hl, hs⟩
              have HL1 := Aside0.mk hl
              have HR1 : Aside0 (Ref g2 kk u h wa) := ⟨hs.1.blk HRf.out (Ne.symm HNE.out) (by simp)⟩
              have HS1 := Aside0.mk hs
              clear hl hs
              go_wp2_with fail
              refine (rgive_yes g2 u h kk (z - 2) _ HR1.out (by omega) (by omega) (by omega) (by omega)).mono ?_
              rintro e wb ⟨rfl, hl, hs⟩
              have HR2 := Aside0.mk hl
              have HL2 : Aside0 (Led g (u - (z - 2)) h kk wb) := ⟨hs.1.blk HL1.out HNE.out (by simp)⟩
              have HS2 := Aside0.mk hs
              clear hl hs
              go_wp2_with fail
              refine (used_calls g (u - (z - 2)) h kk _ HL2.out).mono ?_
              rintro e w'' ⟨rfl, rfl⟩
              go_wp2_with fail
              refine (rused_calls g2 (u - (z - 2)) h kk _ HR2.out).mono ?_
              rintro e w'' ⟨rfl, rfl⟩
              go_wp2_with fail
              refine (high_calls g (u - (z - 2)) h kk _ HL2.out).mono ?_
              rintro e w'' ⟨rfl, rfl⟩
              go_wp2_with fail
              refine (rhigh_calls g2 (u - (z - 2)) h kk _ HR2.out).mono ?_
              rintro e w'' ⟨rfl, rfl⟩
              go_wp2
              go_roundw
              case rel => exact ⟨k + 1, (u - (z - 2)), h, by omega, by go_num, by omega, by omega, by omega, HL2, HR2, ⟨(HB.out.trans (HS1.out.2 _ HG.out)).trans (HS2.out.2 _ HG2.out)⟩⟩
              case measure => simp [intOf]; omega
            · have ht' : (z - 2) < 0 ∨ u < (z - 2) := by omega
              clear ht
              go_wp2_with fail
              refine (give_no g u h kk (z - 2) _ HL.out (by omega) (by omega) (by omega) ht').mono ?_
              rintro e wa ⟨rfl, hl, hs⟩
              have HL1 := Aside0.mk hl
              have HR1 : Aside0 (Ref g2 kk u h wa) := ⟨hs.1.blk HRf.out (Ne.symm HNE.out) (by simp)⟩
              have HS1 := Aside0.mk hs
              clear hl hs
              go_wp2_with fail
              refine (rgive_no g2 u h kk (z - 2) _ HR1.out (by omega) (by omega) ht').mono ?_
              rintro e wb ⟨rfl, hl, hs⟩
              have HR2 := Aside0.mk hl
              have HL2 : Aside0 (Led g u h kk wb) := ⟨hs.1.blk HL1.out HNE.out (by simp)⟩
              have HS2 := Aside0.mk hs
              clear hl hs
              go_wp2_with fail
              refine (used_calls g u h kk _ HL2.out).mono ?_
              rintro e w'' ⟨rfl, rfl⟩
              go_wp2_with fail
              refine (rused_calls g2 u h kk _ HR2.out).mono ?_
              rintro e w'' ⟨rfl, rfl⟩
              go_wp2_with fail
              refine (high_calls g u h kk _ HL2.out).mono ?_
              rintro e w'' ⟨rfl, rfl⟩
              go_wp2_with fail
              refine (rhigh_calls g2 u h kk _ HR2.out).mono ?_
              rintro e w'' ⟨rfl, rfl⟩
              go_wp2
              go_roundw
              case rel => exact ⟨k + 1, u, h, by omega, by go_num, by omega, by omega, by omega, HL2, HR2, ⟨(HB.out.trans (HS1.out.2 _ HG.out)).trans (HS2.out.2 _ HG2.out)⟩⟩
              case measure => simp [intOf]; omega
      · have c2 : decide ((k : Int) < 80) = false := decide_eq_false (by omega)
        go_wp2
        go_ret
        exact ⟨rfl, HB.out⟩
    · have c1 : decide (k < l0.length) = false := decide_eq_false hlt
      go_wp2
      go_ret
      exact ⟨rfl, HB.out⟩
end Go.Proofs.Yteecnkappoakcaa.Core
