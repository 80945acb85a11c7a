/- The contracts of the reference's ledger, and of known, within. -/
import Derived.Test.YteecnkappoakcaaCore0
namespace Go.Proofs.Yteecnkappoakcaa.Core
open Go.RowKit Go.Proofs.YteecnkappoakcaaW.PrintWords Go.Proofs.YteecnkappoakcaaW.PrintLast Go.Proofs.YteecnkappoakcaaW.PrintMore
attribute [local go_sem] max2_int min2_int max_two min_two max_three min_three max_four min_four

def RTakePost (g : Nat) (now high k n : Int) (w : World) (e : Ending) (w' : World) : Prop :=
  e = .returned (.bool (tk now k n)) ∧ Ref g k (if tk now k n then now + n else now) (if tk now k n then mx high (now + n) else high) w' ∧ Step g w w'
def RGivePost (g : Nat) (now high k n : Int) (w : World) (e : Ending) (w' : World) : Prop :=
  e = .returned (.bool (gv now n)) ∧ Ref g k (if gv now n then now - n else now) high w' ∧ Step g w w'

theorem ref_set {g : Nat} {now high k : Int} {w : World} (h : Ref g k now high w) (a b : Int) (n m : Nat) : Ref g k a b ((((w.drewN n).setCell ⟨g, 1, none⟩ (.int .i64 a)).drewN m).setCell ⟨g, 2, none⟩ (.int .i64 b)) := by
  refine blk_put (cs := #[.int .i64 k, .int .i64 a, .int .i64 high]) ?_ 2 _ rfl
  refine blk_drewN ?_ m
  exact blk_put (blk_drewN h n) 1 _ rfl

theorem rtake_calls (g : Nat) (now high k n : Int) (w : World) (h : Ref g k now high w) (h0 : 0 ≤ now) (h1 : now ≤ k) (h2 : k ≤ 4611686018427387904) :
    Calls Try.prog 16 #[.pointer (some ⟨g, 0, none⟩), .int .i64 n] w (RTakePost g now high k n w) := by
  have hc0 : w.cell? ⟨g, 0, none⟩ = some (.int .i64 k) := (blk_cell h 0).trans rfl
  have hc1 : w.cell? ⟨g, 1, none⟩ = some (.int .i64 now) := (blk_cell h 1).trans rfl
  have hc2 : w.cell? ⟨g, 2, none⟩ = some (.int .i64 high) := (blk_cell h 2).trans rfl
  have hf1 := blk_frozen h 1
  have hf2 := blk_frozen h 2
  have H := Aside0.mk h
  clear h
  by_cases hn : n < 0
  · have hb : decide (n < 0) = true := decide_eq_true hn
    have HT : Aside0 (tk now k n = false) := ⟨by unfold tk; rw [decide_eq_false (show ¬ 0 ≤ n by omega)]; rfl⟩
    go_enter Try.func16, Try.ntmps16
    go_wp2
    go_quiet (fail)
    go_wp2
    go_ret
    exact ⟨by rw [HT.out]; rfl, by rw [HT.out]; exact H.out, (Step.refl g w).drewN _⟩
  · have hb : decide (n < 0) = false := decide_eq_false hn
    by_cases hk : k - now < n
    · have hb2 : decide (k - now < n) = true := decide_eq_true hk
      have HT : Aside0 (tk now k n = false) := ⟨by unfold tk; rw [decide_eq_false (show ¬ n ≤ k - now by omega)]; simp⟩
      go_enter Try.func16, Try.ntmps16
      go_wp2
      go_quiet (fail)
      go_wp2
      go_ret
      exact ⟨by rw [HT.out]; rfl, by rw [HT.out]; exact H.out, (Step.refl g w).drewN _⟩
    · have hb2 : decide (k - now < n) = false := decide_eq_false hk
      have HT : Aside0 (tk now k n = true) := ⟨by unfold tk; rw [decide_eq_true (show 0 ≤ n by omega), decide_eq_true (show n ≤ k - now by omega)]; rfl⟩
      have hs0 : 0 ≤ now + n := by omega
      have hs1 : now + n ≤ 4611686018427387904 := by omega
      by_cases hx : high < now + n
      · have hxb : decide (high < now + n) = true := decide_eq_true hx
        have HM : Aside0 (mx high (now + n) = now + n) := ⟨by unfold mx; rw [if_pos hx]⟩
        go_enter Try.func16, Try.ntmps16
        go_wp2
        go_quiet (fail)
        go_wp2
        go_region
        all_goals (go_wp2; go_ret; exact ⟨by rw [HT.out]; rfl, by rw [HT.out, if_pos rfl, if_pos rfl, HM.out]; exact ref_set H.out _ _ _ 1, ((((((Step.refl g w).drewN _).set 1 _)).drew).set 2 _)⟩)
      · have hxb : decide (high < now + n) = false := decide_eq_false hx
        have HM : Aside0 (mx high (now + n) = high) := ⟨by unfold mx; rw [if_neg hx]⟩
        go_enter Try.func16, Try.ntmps16
        go_wp2
        go_quiet (fail)
        go_wp2
        go_region
        all_goals (go_wp2; go_ret; exact ⟨by rw [HT.out]; rfl, by rw [HT.out, if_pos rfl, if_pos rfl, HM.out]; exact ref_set H.out _ _ _ 1, ((((((Step.refl g w).drewN _).set 1 _)).drew).set 2 _)⟩)

theorem rgive_calls (g : Nat) (now high k n : Int) (w : World) (h : Ref g k now high w) (h0 : 0 ≤ now) (h2 : now ≤ 4611686018427387904) :
    Calls Try.prog 18 #[.pointer (some ⟨g, 0, none⟩), .int .i64 n] w (RGivePost g now high k n w) := by
  have hc0 : w.cell? ⟨g, 0, none⟩ = some (.int .i64 k) := (blk_cell h 0).trans rfl
  have hc1 : w.cell? ⟨g, 1, none⟩ = some (.int .i64 now) := (blk_cell h 1).trans rfl
  have hf1 := blk_frozen h 1
  have H := Aside0.mk h
  clear h
  by_cases hn : n < 0
  · have hb : decide (n < 0) = true := decide_eq_true hn
    have HT : Aside0 (gv now n = false) := ⟨by unfold gv; rw [decide_eq_false (show ¬ 0 ≤ n by omega)]; rfl⟩
    go_enter Try.func18, Try.ntmps18
    go_wp2
    go_ret
    exact ⟨by rw [HT.out]; rfl, by rw [HT.out]; exact H.out, (Step.refl g w)⟩
  · have hb : decide (n < 0) = false := decide_eq_false hn
    by_cases hk : now < n
    · have hb2 : decide (now < n) = true := decide_eq_true hk
      have HT : Aside0 (gv now n = false) := ⟨by unfold gv; rw [decide_eq_false (show ¬ n ≤ now by omega)]; simp⟩
      go_enter Try.func18, Try.ntmps18
      go_wp2
      go_ret
      exact ⟨by rw [HT.out]; rfl, by rw [HT.out]; exact H.out, (Step.refl g w)⟩
    · have hb2 : decide (now < n) = false := decide_eq_false hk
      have HT : Aside0 (gv now n = true) := ⟨by unfold gv; rw [decide_eq_true (show 0 ≤ n by omega), decide_eq_true (show n ≤ now by omega)]; rfl⟩
      have hbn : n ≤ 4611686018427387904 := by omega
      go_enter Try.func18, Try.ntmps18
      go_wp2
      go_ret
      exact ⟨by rw [HT.out]; rfl, by rw [HT.out]; exact (blk_put H.out 1 _ rfl : Ref g k (now - n) high _), (Step.refl g w).set 1 _⟩

theorem rused_calls (g : Nat) (now high k : Int) (w : World) (h : Ref g k now high w) :
    Calls Try.prog 20 #[.pointer (some ⟨g, 0, none⟩)] w fun e w' => e = .returned (.int .i64 now) ∧ w = w' := by
  have hc0 : w.cell? ⟨g, 1, none⟩ = some (.int .i64 now) := (blk_cell h 1).trans rfl
  clear h
  go_enter Try.func20, Try.ntmps20
  go_wp2
  go_ret
  exact ⟨rfl, rfl⟩
theorem rhigh_calls (g : Nat) (now high k : Int) (w : World) (h : Ref g k now high w) :
    Calls Try.prog 22 #[.pointer (some ⟨g, 0, none⟩)] w fun e w' => e = .returned (.int .i64 high) ∧ w = w' := by
  have hc0 : w.cell? ⟨g, 2, none⟩ = some (.int .i64 high) := (blk_cell h 2).trans rfl
  clear h
  go_enter Try.func22, Try.ntmps22
  go_wp2
  go_ret
  exact ⟨rfl, rfl⟩
theorem rnew_calls (k : Int) (w : World) :
    Calls Try.prog 14 #[.int .i64 k] w fun e w' => ∃ g, w.heap.size ≤ g ∧ e = .returned (.pointer (some ⟨g, 0, none⟩)) ∧ Ref g k 0 0 w' ∧ Below w.heap.size w w' := by
  go_enter Try.func14, Try.ntmps14
  go_wp2
  go_ret
  exact ⟨_, Nat.le_refl _, rfl, by simpa [Ref] using heap_alloc_new w _, below_alloc (Below.refl _ _) _⟩

/-- A number from 0 to n - 1. -/
def within (a n : Int) : Int := if Int.tmod a n < 0 then Int.tmod a n + n else Int.tmod a n
theorem tmod_bounds (a n : Int) (hn : 0 < n) : -n < Int.tmod a n ∧ Int.tmod a n < n := by
  have h1 := Int.tmod_lt_of_pos a hn
  have h2 := Int.tmod_lt_of_pos (-a) hn
  rw [Int.neg_tmod] at h2
  omega
theorem within_range (a n : Int) (hn : 0 < n) : 0 ≤ within a n ∧ within a n < n := by
  have h := tmod_bounds a n hn
  unfold within
  split <;> omega
theorem within_calls (a n : Int) (w : World) (hn : 0 < n) (hn2 : n ≤ 4611686018427387904) :
    Calls Try.prog 12 #[.int .i64 a, .int .i64 n] w fun e w' => e = .returned (.int .i64 (within a n)) ∧ w = w' := by
  obtain ⟨h1, h2⟩ := tmod_bounds a n hn
  have hb0 : (n == 0) = false := beq_eq_false_iff_ne.2 (by omega)
  by_cases h : Int.tmod a n < 0
  · have hb : decide (Int.tmod a n < 0) = true := decide_eq_true h
    have HF : Aside0 (within a n = Int.tmod a n + n) := ⟨by unfold within; rw [if_pos h]⟩
    go_enter Try.func12, Try.ntmps12
    go_wp2
    go_ret
    exact ⟨by rw [HF.out]; rfl, rfl⟩
  · have hb : decide (Int.tmod a n < 0) = false := decide_eq_false h
    have HF : Aside0 (within a n = Int.tmod a n) := ⟨by unfold within; rw [if_neg h]⟩
    go_enter Try.func12, Try.ntmps12
    go_wp2
    go_ret
    exact ⟨by rw [HF.out]; rfl, rfl⟩

theorem take_yes (g : Nat) (now high k n : Int) (w : World) (h : Led g now high k w) (h0 : 0 ≤ now) (h1 : now ≤ k) (h2 : k ≤ 4611686018427387904) (hn : 0 ≤ n) (hk : n ≤ k - now) :
    Calls Try.prog 15 #[.pointer (some ⟨g, 0, none⟩), .int .i64 n] w fun e w' => e = .returned (.bool true) ∧ Led g (now + n) (mx high (now + n)) k w' ∧ Step g w w' := by
  have HT : tk now k n = true := by unfold tk; rw [decide_eq_true hn, decide_eq_true hk]; rfl
  refine (take_calls g now high k n w h h0 h1 h2).mono fun e w' hp => ?_
  unfold TakePost at hp
  rw [HT] at hp
  exact hp
theorem take_no (g : Nat) (now high k n : Int) (w : World) (h : Led g now high k w) (h0 : 0 ≤ now) (h1 : now ≤ k) (h2 : k ≤ 4611686018427387904) (hn : n < 0 ∨ k - now < n) :
    Calls Try.prog 15 #[.pointer (some ⟨g, 0, none⟩), .int .i64 n] w fun e w' => e = .returned (.bool false) ∧ Led g now high k w' ∧ Step g w w' := by
  have HT : tk now k n = false := by
    unfold tk
    rcases hn with hn | hn
    · rw [decide_eq_false (show ¬ 0 ≤ n by omega)]; rfl
    · rw [decide_eq_false (show ¬ n ≤ k - now by omega)]; simp
  refine (take_calls g now high k n w h h0 h1 h2).mono fun e w' hp => ?_
  unfold TakePost at hp
  rw [HT] at hp
  exact hp
theorem give_yes (g : Nat) (now high k n : Int) (w : World) (h : Led g now high k w) (h0 : 0 ≤ now) (h1 : now ≤ high) (h2 : now ≤ 4611686018427387904) (hn : 0 ≤ n) (hk : n ≤ now) :
    Calls Try.prog 17 #[.pointer (some ⟨g, 0, none⟩), .int .i64 n] w fun e w' => e = .returned (.bool true) ∧ Led g (now - n) high k w' ∧ Step g w w' := by
  have HT : gv now n = true := by unfold gv; rw [decide_eq_true hn, decide_eq_true hk]; rfl
  refine (give_calls g now high k n w h h0 h1 h2).mono fun e w' hp => ?_
  unfold GivePost at hp
  rw [HT] at hp
  exact hp
theorem give_no (g : Nat) (now high k n : Int) (w : World) (h : Led g now high k w) (h0 : 0 ≤ now) (h1 : now ≤ high) (h2 : now ≤ 4611686018427387904) (hn : n < 0 ∨ now < n) :
    Calls Try.prog 17 #[.pointer (some ⟨g, 0, none⟩), .int .i64 n] w fun e w' => e = .returned (.bool false) ∧ Led g now high k w' ∧ Step g w w' := by
  have HT : gv now n = false := by
    unfold gv
    rcases hn with hn | hn
    · rw [decide_eq_false (show ¬ 0 ≤ n by omega)]; rfl
    · rw [decide_eq_false (show ¬ n ≤ now by omega)]; simp
  refine (give_calls g now high k n w h h0 h1 h2).mono fun e w' hp => ?_
  unfold GivePost at hp
  rw [HT] at hp
  exact hp

/-- known comes to true; whatever lay before lies as it lay. -/
theorem known_calls (w : World) : Calls Try.prog 11 #[] w fun e w' => e = .returned (.bool true) ∧ Below w.heap.size w w' := by
  go_enter Try.func11, Try.ntmps11
  go_wp2_with (first | (go_at_call 13; refine (new_calls 10 _ (by decide)).mono ?_; rintro e w1 ⟨g, hg, rfl, hl, hB⟩; have HL := Aside0.mk hl; have HB := Aside0.mk hB; have HG := Aside0.mk hg; clear hl hB hg))
  refine (used_calls g 0 0 10 _ HL.out).mono ?_
  rintro e w2 ⟨rfl, rfl⟩
  go_wp2_with fail
  refine (take_yes g 0 0 10 7 _ HL.out (by decide) (by decide) (by decide) (by decide) (by decide)).mono ?_
  rintro e w2 ⟨rfl, hl, hs⟩
  have HL2 := Aside0.mk hl
  have HS2 := Aside0.mk hs
  clear hl hs
  go_wp2_with fail
  refine (used_calls g 7 7 10 _ HL2.out).mono ?_
  rintro e w3 ⟨rfl, rfl⟩
  go_wp2_with fail
  refine (take_no g 7 7 10 4 _ HL2.out (by decide) (by decide) (by decide) (by decide)).mono ?_
  rintro e w3 ⟨rfl, hl, hs⟩
  have HL3 := Aside0.mk hl
  have HS3 := Aside0.mk hs
  clear hl hs
  go_wp2_with fail
  refine (give_yes g 7 7 10 3 _ HL3.out (by decide) (by decide) (by decide) (by decide) (by decide)).mono ?_
  rintro e w4 ⟨rfl, hl, hs⟩
  have HL4 := Aside0.mk hl
  have HS4 := Aside0.mk hs
  clear hl hs
  go_wp2_with fail
  refine (high_calls g 4 7 10 _ HL4.out).mono ?_
  rintro e w5 ⟨rfl, rfl⟩
  go_wp2
  go_ret
  exact ⟨rfl, (HB.out).trans (((HS2.out.trans HS3.out).trans HS4.out).2 _ HG.out)⟩
end Go.Proofs.Yteecnkappoakcaa.Core
