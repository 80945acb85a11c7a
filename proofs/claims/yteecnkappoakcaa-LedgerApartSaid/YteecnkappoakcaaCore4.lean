/- The law LedgerSums, walked. -/
import Derived.Test.YteecnkappoakcaaCore3
namespace Go.Proofs.Yteecnkappoakcaa.Core
open Go.RowKit Go.Proofs.YteecnkappoakcaaW.PrintWords Go.Proofs.YteecnkappoakcaaW.PrintLast Go.Proofs.YteecnkappoakcaaW.PrintMore

theorem cell_int {w : World} {A : Option Addr} {l : List Int} (hr : Kd.C (Kd.int .i64) w A l.length l) (k : Nat) (hk : k < l.length) :
    ∃ ad x, A = some ad ∧ w.cell? (ad.add k) = some (.int .i64 x) ∧ x ∈ l := by
  obtain ⟨ad, c, e, hc, hK, hcell⟩ := Kd.C_get hr (0 : Int) (k : Int) (by omega) (by omega)
  have hc1 : c = [.int .i64 (l.getD k 0)] := by
    have := hK
    simpa [Kd.int, Kd.scalar] using this
  have h := hcell 0 _ (by rw [hc1]; rfl)
  refine ⟨ad, l.getD k 0, e, by simpa [Kd.int, Kd.scalar] using h, ?_⟩
  rw [List.getD_eq_getElem?_getD, List.getElem?_eq_getElem hk]
  exact List.getElem_mem hk

theorem within_some (a n : Int) (w : World) (hn : 0 < n) (hn2 : n ≤ 4611686018427387904) :
    Calls Try.prog 12 #[.int .i64 a, .int .i64 n] w fun e w' => ∃ z, e = .returned (.int .i64 z) ∧ 0 ≤ z ∧ z < n ∧ w = w' := by
  refine (within_calls a n w hn hn2).mono ?_
  rintro e w' ⟨rfl, rfl⟩
  exact ⟨_, rfl, (within_range a n hn).1, (within_range a n hn).2, rfl⟩

abbrev IsInts (w : World) (a1 : Option Addr) (len1 cap1 : Nat) (z1 : List Int) : Prop := (a1 = none ∧ len1 = 0 ∧ cap1 = 0 ∧ z1 = []) ∨ ∃ x, a1 = some x ∧ len1 ≤ cap1 ∧ cap1 ≤ maxLen ∧ z1.length = cap1 ∧ (∀ i, i < z1.length → w.cell? (x.add i) = some (.int .i64 (z1.getD i 0))) ∧ ∀ n ∈ z1, (Lit.int .i64 n).wf = true

theorem ledgerSums_walk (a0 : Option Addr) (len0 cap0 : Nat) (z0 : List Int) (w : World) (w0 : IsInts w a0 len0 cap0 z0) (y0 : len0 * 8 ≤ 140737488351232) :
    Calls Try.prog 9 #[.slice a0 len0 cap0] w fun e w' => e = .returned (.bool true) ∧ Below w.heap.size w w' := by
  obtain ⟨l0, rfl, hr0, hm0, hw0, hc0⟩ := ReadsInt.ofRowC w0
  have hr0 : Kd.C (Kd.int .i64) w a0 l0.length l0 := Kd.C_of_reads (d := (0 : Int)) (h1 := fun _ => rfl) hr0
  have HR := Aside0.mk hr0
  have hlen : l0.length ≤ 9223372036854775807 := by omega
  clear hr0 hw0 hc0 hm0 w0
  go_enter Try.func9, Try.ntmps9
  go_wp2_with (first | (go_at_call 11; refine (known_calls _).mono ?_; rintro e w1 ⟨rfl, hb⟩; have HB := Aside0.mk hb; clear hb))
  go_wp2_with fail
  refine (new_calls 100 _ (by decide)).mono ?_
  rintro e wn ⟨g, hg, rfl, hl, hB⟩
  have HL := Aside0.mk hl
  have HB2 : Aside0 (Below w.heap.size w wn) := ⟨HB.out.trans (hB.mono HB.out.size)⟩
  have HG : Aside0 (w.heap.size ≤ g) := ⟨Nat.le_trans HB.out.size hg⟩
  clear hl hB hg HB
  go_wp2
  go_loopw [4, 5] (fun us i wr => ∃ (k : Nat) (u h : Int), k ≤ l0.length ∧ i = .int .i64 k ∧ us = .int .i64 u ∧ 0 ≤ u ∧ u ≤ 100 ∧ u ≤ h ∧ Aside0 (Led g u h 100 wr) ∧ Aside0 (Below w.heap.size w wr)) (fun _ i _ => l0.length - (intOf i).toNat)
  case atStart => exact ⟨0, 0, 0, Nat.zero_le _, rfl, rfl, by decide, by decide, by decide, HL, HB2⟩
  case round =>
    clear HL HB2
    obtain ⟨k, u, h, hk, rfl, rfl, hu0, hu1, huh, HL, HB⟩ := hrel
    by_cases hlt : k < l0.length
    · have c1 : decide (k < l0.length) = true := decide_eq_true hlt
      by_cases h60 : k < 60
      · have c2 : decide ((k : Int) < 60) = true := decide_eq_true (by omega)
        have HC := Aside0.mk (Kd.C_below HR.out HB.out)
        obtain ⟨ad, x, rfl, hcx, hxm⟩ := cell_int HC.out k hlt
        clear hxm
        go_wp2_with fail
        refine (within_some _ 70 _ (by decide) (by decide)).mono ?_
        rintro e w' ⟨z, rfl, hz0, hz1, rfl⟩
        go_wp2_with fail
        refine (within_some _ 2 _ (by decide) (by decide)).mono ?_
        rintro e w' ⟨z2, rfl, hy0, hy1, rfl⟩
        by_cases e2 : z2 = 0
        · have c3 : (z2 == 0) = true := beq_iff_eq.2 e2
          by_cases ht : u + z ≤ 100
          · have c4 : decide (u + z ≤ 100) = true := decide_eq_true ht
            go_wp2_with fail
            refine (take_yes g u h 100 z _ HL.out (by omega) (by omega) (by omega) (by omega) (by omega)).mono ?_
            rintro e w' ⟨rfl, hl, hs⟩
            have HL1 := Aside0.mk hl
            have HS1 := Aside0.mk hs
            clear hl hs
            go_wp2_with fail
            refine (used_calls g (u + z) (mx h (u + z)) 100 _ HL1.out).mono ?_
            rintro e w'' ⟨rfl, rfl⟩
            go_wp2
            go_roundw
            case rel => exact ⟨k + 1, u + z, mx h (u + z), by omega, by go_num, rfl, by omega, by omega, (by unfold mx; split <;> omega), HL1, ⟨HB.out.trans (HS1.out.2 _ HG.out)⟩⟩
            case measure => simp [intOf]; omega
          · have c4 : decide (u + z ≤ 100) = false := decide_eq_false ht
            go_wp2_with fail
            refine (take_no g u h 100 z _ HL.out (by omega) (by omega) (by omega) (by omega)).mono ?_
            rintro e w' ⟨rfl, hl, hs⟩
            have HL1 := Aside0.mk hl
            have HS1 := Aside0.mk hs
            clear hl hs
            go_wp2_with fail
            refine (used_calls g u h 100 _ HL1.out).mono ?_
            rintro e w'' ⟨rfl, rfl⟩
            go_wp2
            go_roundw
            case rel => exact ⟨k + 1, u, h, by omega, by go_num, rfl, by omega, by omega, by omega, HL1, ⟨HB.out.trans (HS1.out.2 _ HG.out)⟩⟩
            case measure => simp [intOf]; omega
        · have c3 : (z2 == 0) = false := beq_eq_false_iff_ne.2 e2
          by_cases ht : z ≤ u
          · have c4 : decide (z ≤ u) = true := decide_eq_true ht
            go_wp2_with fail
            refine (give_yes g u h 100 z _ HL.out (by omega) (by omega) (by omega) (by omega) (by omega)).mono ?_
            rintro e w' ⟨rfl, hl, hs⟩
            have HL1 := Aside0.mk hl
            have HS1 := Aside0.mk hs
            clear hl hs
            go_wp2_with fail
            refine (used_calls g (u - z) h 100 _ HL1.out).mono ?_
            rintro e w'' ⟨rfl, rfl⟩
            go_wp2
            go_roundw
            case rel => exact ⟨k + 1, u - z, h, by omega, by go_num, rfl, by omega, by omega, by omega, HL1, ⟨HB.out.trans (HS1.out.2 _ HG.out)⟩⟩
            case measure => simp [intOf]; omega
          · have c4 : decide (z ≤ u) = false := decide_eq_false ht
            go_wp2_with fail
            refine (give_no g u h 100 z _ HL.out (by omega) (by omega) (by omega) (by omega)).mono ?_
            rintro e w' ⟨rfl, hl, hs⟩
            have HL1 := Aside0.mk hl
            have HS1 := Aside0.mk hs
            clear hl hs
            go_wp2_with fail
            refine (used_calls g u h 100 _ HL1.out).mono ?_
            rintro e w'' ⟨rfl, rfl⟩
            go_wp2
            go_roundw
            case rel => exact ⟨k + 1, u, h, by omega, by go_num, rfl, by omega, by omega, by omega, HL1, ⟨HB.out.trans (HS1.out.2 _ HG.out)⟩⟩
            case measure => simp [intOf]; omega
      · have c2 : decide ((k : Int) < 60) = false := decide_eq_false (by omega)
        go_wp2
        go_ret
        exact ⟨rfl, HB.out⟩
    · have c1 : decide (k < l0.length) = false := decide_eq_false hlt
      go_wp2
      go_ret
      exact ⟨rfl, HB.out⟩
end Go.Proofs.Yteecnkappoakcaa.Core
