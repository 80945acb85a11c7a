/- The law LedgerBack, walked. -/
import Derived.Test.YteecnkappoakcaaCore2
namespace Go.Proofs.Yteecnkappoakcaa.Core
open Go.RowKit Go.Proofs.YteecnkappoakcaaW.PrintWords Go.Proofs.YteecnkappoakcaaW.PrintLast Go.Proofs.YteecnkappoakcaaW.PrintMore

theorem mx_le {a b : Int} (h : a ≤ b) : mx a b = b := by
  unfold mx
  split
  · rfl
  · omega
theorem mx_ge {a b : Int} (h : b ≤ a) : mx a b = a := by
  unfold mx
  split
  · omega
  · rfl

/-- The law's start: known is true. -/
theorem ledgerBack_walk (a0 a1 a2 : Int) (w : World) (_w0 : (Lit.int .i64 a0).wf = true) (_w1 : (Lit.int .i64 a1).wf = true) (_w2 : (Lit.int .i64 a2).wf = true) :
    Calls Try.prog 5 #[.int .i64 a0, .int .i64 a1, .int .i64 a2] w fun e w' => e = .returned (.bool true) ∧ Below w.heap.size w w' := by
  go_enter Try.func5, Try.ntmps5
  go_wp2_with (first | (go_at_call 11; refine (known_calls _).mono ?_; rintro e w1 ⟨rfl, hb⟩; have HB := Aside0.mk hb; clear hb))
  go_wp2_with fail
  refine (within_calls a0 1000 _ (by decide) (by decide)).mono ?_
  rintro e w4 ⟨rfl, rfl⟩
  have hqk := within_range a0 1000 (by decide)
  generalize within a0 1000 = k at hqk ⊢
  obtain ⟨hk0, hk1⟩ := hqk
  go_wp2_with fail
  refine (new_calls k _ hk0).mono ?_
  rintro e wn ⟨g, hg, rfl, hl, hB⟩
  have HL := Aside0.mk hl
  have HB2 := Aside0.mk hB
  have HG := Aside0.mk hg
  clear hl hB hg
  go_wp2_with fail
  refine (within_calls a1 (k + 1) _ (by omega) (by omega)).mono ?_
  rintro e w5 ⟨rfl, rfl⟩
  have hqa := within_range a1 (k + 1) (by omega)
  generalize within a1 (k + 1) = a at hqa ⊢
  obtain ⟨ha0, ha1⟩ := hqa
  go_wp2_with fail
  refine (within_calls a2 (a + 1) _ (by omega) (by omega)).mono ?_
  rintro e w6 ⟨rfl, rfl⟩
  have hqb := within_range a2 (a + 1) (by omega)
  generalize within a2 (a + 1) = b at hqb ⊢
  obtain ⟨hb0, hb1⟩ := hqb
  go_wp2_with fail
  refine (take_yes g 0 0 k a _ HL.out (by omega) (by omega) (by omega) (by omega) (by omega)).mono ?_
  rintro e w7 ⟨rfl, hl, hs⟩
  have HL1 := Aside0.mk hl
  have HS1 := Aside0.mk hs
  clear hl hs
  have HM1 : Aside0 (Led g a a k _) := ⟨by have h := HL1.out; rw [mx_le (show (0 : Int) ≤ 0 + a by omega), show (0 : Int) + a = a from by omega] at h; exact h⟩
  go_wp2_with fail
  refine (give_no g a a k (a + 1) _ HM1.out (by omega) (by omega) (by omega) (by omega)).mono ?_
  rintro e w8 ⟨rfl, hl, hs⟩
  have HL2 := Aside0.mk hl
  have HS2 := Aside0.mk hs
  clear hl hs
  go_wp2_with fail
  refine (give_yes g a a k b _ HL2.out (by omega) (by omega) (by omega) (by omega) (by omega)).mono ?_
  rintro e w9 ⟨rfl, hl, hs⟩
  have HL3 := Aside0.mk hl
  have HS3 := Aside0.mk hs
  clear hl hs
  go_wp2_with fail
  refine (used_calls g (a - b) a k _ HL3.out).mono ?_
  rintro e w10 ⟨rfl, rfl⟩
  go_wp2_with fail
  refine (take_yes g (a - b) a k (k - a + b) _ HL3.out (by omega) (by omega) (by omega) (by omega) (by omega)).mono ?_
  rintro e w11 ⟨rfl, hl, hs⟩
  have HL4 := Aside0.mk hl
  have HS4 := Aside0.mk hs
  clear hl hs
  have HM4 : Aside0 (Led g k k k _) := ⟨by have h := HL4.out; rw [show a - b + (k - a + b) = k from by omega, mx_le (show a ≤ k by omega)] at h; exact h⟩
  go_wp2_with fail
  refine (used_calls g k k k _ HM4.out).mono ?_
  rintro e w12 ⟨rfl, rfl⟩
  go_wp2_with fail
  refine (take_no g k k k 1 _ HM4.out (by omega) (by omega) (by omega) (by omega)).mono ?_
  rintro e w13 ⟨rfl, hl, hs⟩
  have HL5 := Aside0.mk hl
  have HS5 := Aside0.mk hs
  clear hl hs
  go_wp2_with fail
  refine (take_yes g k k k 0 _ HL5.out (by omega) (by omega) (by omega) (by omega) (by omega)).mono ?_
  rintro e w14 ⟨rfl, hl, hs⟩
  have HL6 := Aside0.mk hl
  have HS6 := Aside0.mk hs
  clear hl hs
  have HM6 : Aside0 (Led g k k k _) := ⟨by have h := HL6.out; rw [show k + 0 = k from by omega, mx_le (show k ≤ k by omega)] at h; exact h⟩
  go_wp2_with fail
  refine (give_yes g k k k k _ HM6.out (by omega) (by omega) (by omega) (by omega) (by omega)).mono ?_
  rintro e w15 ⟨rfl, hl, hs⟩
  have HL7 := Aside0.mk hl
  have HS7 := Aside0.mk hs
  clear hl hs
  have HM7 : Aside0 (Led g 0 k k _) := ⟨by have h := HL7.out; rw [show k - k = 0 from by omega] at h; exact h⟩
  go_wp2_with fail
  refine (used_calls g 0 k k _ HM7.out).mono ?_
  rintro e w16 ⟨rfl, rfl⟩
  go_wp2_with fail
  refine (high_calls g 0 k k _ HM7.out).mono ?_
  rintro e w17 ⟨rfl, rfl⟩
  go_wp2
  go_ret
  exact ⟨rfl, (HB.out.trans (HB2.out.mono HB.out.size)).trans (((((((HS1.out.trans HS2.out).trans HS3.out).trans HS4.out).trans HS5.out).trans HS6.out).trans HS7.out).2 _ (Nat.le_trans HB.out.size HG.out))⟩
end Go.Proofs.Yteecnkappoakcaa.Core
