/- The ledgers' contracts: what each call of a ledger, of the program's and of the reference's, does to its block. -/
import Derived.Test.YteecnkappoakcaaProg
import Derived.Below
import Derived.Deep.Draws
import Derived.Deep.AppendLies
import Derived.Maps.AppendAt
import Derived.OwnWalk
import Derived.Laws.BytesArg
import Derived.Laws.MakeOwn
import Derived.Laws.OwnMore
import Derived.Deep.OwnRows
import Derived.Tactics
import Derived.Lib.ConvBytes
import Derived.Laws.Slices
import Derived.WalkKit
import Derived.KernelRfl
import Derived.RowKit3
import Derived.Deep.LoopGhost
import Derived.Deep.QuietTactic
import Derived.BigQuiet
import Derived.WideLaws
import Derived.Deep.DeepCutAuto
import Derived.Deep.CutBlock
import Derived.Deep.RegionHeld3
import Derived.Laws.Rows
import Derived.Lib.AppendStr
import Derived.ArgAppend
import Derived.Laws.IdiomCopy
import Derived.OrdersHeld
import Derived.Laws.BitsLemmas
import Derived.RowKit
import Derived.Test.YteecnkappoakcaaWWords
import Derived.Test.YteecnkappoakcaaWLast
import Derived.Test.YteecnkappoakcaaWTab
import Derived.Test.YteecnkappoakcaaWFour
import Derived.Test.YteecnkappoakcaaWQPut
import Derived.Test.YteecnkappoakcaaWApart
import Derived.Test.YteecnkappoakcaaWArr
import Derived.Test.YteecnkappoakcaaWZeros
import Derived.Test.YteecnkappoakcaaWFoot
import Derived.Test.YteecnkappoakcaaWKept
import Derived.Test.YteecnkappoakcaaWShare
import Derived.Test.YteecnkappoakcaaWN
import Derived.Test.YteecnkappoakcaaWFootNe
import Derived.Test.YteecnkappoakcaaWAt
import Derived.Test.YteecnkappoakcaaWEqStruct
import Derived.Test.YteecnkappoakcaaWRepsOne
import Derived.Test.YteecnkappoakcaaWInv
import Derived.Test.YteecnkappoakcaaWInvWords
import Derived.Test.YteecnkappoakcaaWGuard
import Derived.Test.YteecnkappoakcaaWNEv
import Derived.Test.YteecnkappoakcaaWMore
namespace Go.Proofs.Yteecnkappoakcaa.Core
open Go.RowKit Go.Proofs.YteecnkappoakcaaW.PrintWords Go.Proofs.YteecnkappoakcaaW.PrintLast Go.Proofs.YteecnkappoakcaaW.PrintMore
attribute [local go_sem] max2_int min2_int max_two min_two max_three min_three max_four min_four

def Led (g : Nat) (now high k : Int) (w : World) : Prop := w.heap[g]? = some (.cells #[.int .i64 now, .int .i64 high, .int .i64 k] 47 (0, 0))
def Ref (g : Nat) (k now high : Int) (w : World) : Prop := w.heap[g]? = some (.cells #[.int .i64 k, .int .i64 now, .int .i64 high] 49 (0, 0))
/-- A step that turns block g alone. -/
def Step (g : Nat) (w w' : World) : Prop := KeepBut w w' g none ∧ ∀ n0, n0 ≤ g → Below n0 w w'
theorem Step.refl (g : Nat) (w : World) : Step g w w := ⟨KeepBut.refl _ _ _, fun n0 _ => Below.refl n0 w⟩
theorem Step.drewN {g : Nat} {w w' : World} (h : Step g w w') (n : Nat) : Step g w (w'.drewN n) := ⟨keep_drewN h.1 n, fun n0 hn => pw_below_drewN (h.2 n0 hn) n⟩
theorem Step.drew {g : Nat} {w w' : World} (h : Step g w w') : Step g w w'.drew := h.drewN 1
theorem Step.set {g : Nat} {w w' : World} (h : Step g w w') (j : Nat) (u : Value) : Step g w (w'.setCell ⟨g, j, none⟩ u) := ⟨h.1.set_ j u, fun n0 hn => (h.2 n0 hn).setCell hn _⟩

theorem Step.trans {g : Nat} {w w1 w2 : World} (h : Step g w w1) (k : Step g w1 w2) : Step g w w2 := ⟨h.1.trans k.1 (.inl rfl), fun n0 hn => (h.2 n0 hn).trans (k.2 n0 hn)⟩
theorem led_set {g : Nat} {now high k : Int} {w : World} (h : Led g now high k w) (a b : Int) (m : Nat) : Led g a b k ((((w.setCell ⟨g, 0, none⟩ (.int .i64 a)).drewN m)).setCell ⟨g, 1, none⟩ (.int .i64 b)) := by
  refine blk_put (cs := #[.int .i64 a, .int .i64 high, .int .i64 k]) ?_ 1 _ rfl
  refine blk_drewN ?_ m
  exact blk_put h 0 _ rfl

theorem add_calls (g : Nat) (now high k n : Int) (w : World) (h : Led g now high k w) (hb0 : 0 ≤ now + n) (hb1 : now + n ≤ 4611686018427387904) :
    Calls Try.prog 26 #[.pointer (some ⟨g, 0, none⟩), .int .i64 n] w fun e w' => e = .returned (.tuple #[]) ∧ Led g (now + n) (mx high (now + n)) k w' ∧ Step g w w' := by
  have hc0 : w.cell? ⟨g, 0, none⟩ = some (.int .i64 now) := (blk_cell h 0).trans rfl
  have hc1 : w.cell? ⟨g, 1, none⟩ = some (.int .i64 high) := (blk_cell h 1).trans rfl
  have hf0 := blk_frozen h 0
  have hf1 := blk_frozen h 1
  have H := Aside0.mk h
  clear h
  by_cases hx : high < now + n
  · have hxb : decide (high < now + n) = true := decide_eq_true hx
    have HM : Aside0 (mx high (now + n) = now + n) := ⟨by unfold mx; rw [if_pos hx]⟩
    go_enter Try.func26, Try.ntmps26
    go_wp2
    go_region
    all_goals (go_end0; exact ⟨rfl, by rw [HM.out]; exact led_set H.out _ _ 1, ((((Step.refl g w).set 0 _).drew).set 1 _)⟩)
  · have hxb : decide (high < now + n) = false := decide_eq_false hx
    have HM : Aside0 (mx high (now + n) = high) := ⟨by unfold mx; rw [if_neg hx]⟩
    go_enter Try.func26, Try.ntmps26
    go_wp2
    go_region
    all_goals (go_end0; exact ⟨rfl, by rw [HM.out]; exact led_set H.out _ _ 1, ((((Step.refl g w).set 0 _).drew).set 1 _)⟩)

/-- Taking: whether n more go in. -/
def tk (now k n : Int) : Bool := decide (0 ≤ n) && decide (n ≤ k - now)
def gv (now n : Int) : Bool := decide (0 ≤ n) && decide (n ≤ now)

def TakePost (g : Nat) (now high k n : Int) (w : World) (e : Ending) (w' : World) : Prop :=
  e = .returned (.bool (tk now k n)) ∧ Led g (if tk now k n then now + n else now) (if tk now k n then mx high (now + n) else high) k w' ∧ Step g w w'
def GivePost (g : Nat) (now high k n : Int) (w : World) (e : Ending) (w' : World) : Prop :=
  e = .returned (.bool (gv now n)) ∧ Led g (if gv now n then now - n else now) high k w' ∧ Step g w w'
theorem take_calls (g : Nat) (now high k n : Int) (w : World) (h : Led g now high k w) (h0 : 0 ≤ now) (h1 : now ≤ k) (h2 : k ≤ 4611686018427387904) :
    Calls Try.prog 15 #[.pointer (some ⟨g, 0, none⟩), .int .i64 n] w (TakePost g now high k n w) := by
  have hc0 : w.cell? ⟨g, 0, none⟩ = some (.int .i64 now) := (blk_cell h 0).trans rfl
  have hc1 : w.cell? ⟨g, 1, none⟩ = some (.int .i64 high) := (blk_cell h 1).trans rfl
  have hc2 : w.cell? ⟨g, 2, none⟩ = some (.int .i64 k) := (blk_cell h 2).trans rfl
  have hf0 := blk_frozen h 0
  have hf1 := blk_frozen h 1
  have H := Aside0.mk h
  clear h
  by_cases hn : n < 0
  · have hb : decide (n < 0) = true := decide_eq_true hn
    have HT : Aside0 (tk now k n = false) := ⟨by unfold tk; rw [decide_eq_false (show ¬ 0 ≤ n by omega)]; rfl⟩
    go_enter Try.func15, Try.ntmps15
    go_wp2
    go_quiet (fail)
    go_wp2
    go_ret
    exact ⟨by rw [HT.out]; rfl, by rw [HT.out]; exact H.out, (Step.refl g w).drewN _⟩
  · have hb : decide (n < 0) = false := decide_eq_false hn
    by_cases hk : k - now < n
    · have hb2 : decide (k - now < n) = true := decide_eq_true hk
      have HT : Aside0 (tk now k n = false) := ⟨by unfold tk; rw [decide_eq_false (show ¬ n ≤ k - now by omega)]; simp⟩
      go_enter Try.func15, Try.ntmps15
      go_wp2
      go_quiet (fail)
      go_wp2
      go_ret
      exact ⟨by rw [HT.out]; rfl, by rw [HT.out]; exact H.out, (Step.refl g w).drewN _⟩
    · have hb2 : decide (k - now < n) = false := decide_eq_false hk
      have HT : Aside0 (tk now k n = true) := ⟨by unfold tk; rw [decide_eq_true (show 0 ≤ n by omega), decide_eq_true (show n ≤ k - now by omega)]; rfl⟩
      go_enter Try.func15, Try.ntmps15
      go_wp2
      go_quiet (fail)
      go_wp2_with (first | (go_at_call 26; refine (add_calls g now high k n _ (show Led g now high k _ from blk_drewN H.out _) (by omega) (by omega)).mono ?_; rintro e w' ⟨rfl, hl, hs⟩; have HL := Aside0.mk hl; have HS := Aside0.mk hs; clear hl hs))
      go_ret
      exact ⟨by rw [HT.out]; rfl, by rw [HT.out]; exact HL.out, ((Step.refl g w).drewN _).trans HS.out⟩

theorem give_calls (g : Nat) (now high k n : Int) (w : World) (h : Led g now high k w) (h0 : 0 ≤ now) (h1 : now ≤ high) (h2 : now ≤ 4611686018427387904) :
    Calls Try.prog 17 #[.pointer (some ⟨g, 0, none⟩), .int .i64 n] w (GivePost g now high k n w) := by
  have hc0 : w.cell? ⟨g, 0, none⟩ = some (.int .i64 now) := (blk_cell h 0).trans rfl
  have hc1 : w.cell? ⟨g, 1, none⟩ = some (.int .i64 high) := (blk_cell h 1).trans rfl
  have hc2 : w.cell? ⟨g, 2, none⟩ = some (.int .i64 k) := (blk_cell h 2).trans rfl
  have hf0 := blk_frozen h 0
  have hf1 := blk_frozen h 1
  have H := Aside0.mk h
  clear h
  by_cases hn : n < 0
  · have hb : decide (n < 0) = true := decide_eq_true hn
    have HT : Aside0 (gv now n = false) := ⟨by unfold gv; rw [decide_eq_false (show ¬ 0 ≤ n by omega)]; rfl⟩
    go_enter Try.func17, Try.ntmps17
    go_wp2
    go_ret
    exact ⟨by rw [HT.out]; rfl, by rw [HT.out]; exact H.out, (Step.refl g w)⟩
  · have hb : decide (n < 0) = false := decide_eq_false hn
    by_cases hk : now < n
    · have hb2 : decide (now < n) = true := decide_eq_true hk
      have HT : Aside0 (gv now n = false) := ⟨by unfold gv; rw [decide_eq_false (show ¬ n ≤ now by omega)]; simp⟩
      go_enter Try.func17, Try.ntmps17
      go_wp2
      go_ret
      exact ⟨by rw [HT.out]; rfl, by rw [HT.out]; exact H.out, (Step.refl g w)⟩
    · have hb2 : decide (now < n) = false := decide_eq_false hk
      have HT : Aside0 (gv now n = true) := ⟨by unfold gv; rw [decide_eq_true (show 0 ≤ n by omega), decide_eq_true (show n ≤ now by omega)]; rfl⟩
      have HX : Aside0 (mx high (now + -n) = high) := ⟨by unfold mx; rw [if_neg (by omega)]⟩
      have hbn : n ≤ 4611686018427387904 := by omega
      go_enter Try.func17, Try.ntmps17
      go_wp2_with (first | (go_at_call 26; refine (add_calls g now high k (-n) _ H.out (by omega) (by omega)).mono ?_; rintro e w' ⟨rfl, hl, hs⟩; rw [HX.out] at hl; have HL := Aside0.mk hl; have HS := Aside0.mk hs; clear hl hs))
      go_ret
      exact ⟨by rw [HT.out]; rfl, by rw [HT.out]; exact HL.out, HS.out⟩

theorem used_calls (g : Nat) (now high k : Int) (w : World) (h : Led g now high k w) :
    Calls Try.prog 19 #[.pointer (some ⟨g, 0, none⟩)] w fun e w' => e = .returned (.int .i64 now) ∧ w = w' := by
  have hc0 : w.cell? ⟨g, 0, none⟩ = some (.int .i64 now) := (blk_cell h 0).trans rfl
  clear h
  go_enter Try.func19, Try.ntmps19
  go_wp2
  go_ret
  exact ⟨rfl, rfl⟩
theorem high_calls (g : Nat) (now high k : Int) (w : World) (h : Led g now high k w) :
    Calls Try.prog 21 #[.pointer (some ⟨g, 0, none⟩)] w fun e w' => e = .returned (.int .i64 high) ∧ w = w' := by
  have hc0 : w.cell? ⟨g, 1, none⟩ = some (.int .i64 high) := (blk_cell h 1).trans rfl
  clear h
  go_enter Try.func21, Try.ntmps21
  go_wp2
  go_ret
  exact ⟨rfl, rfl⟩
theorem new_calls (k : Int) (w : World) (hk : 0 ≤ k) :
    Calls Try.prog 13 #[.int .i64 k] w fun e w' => ∃ g, w.heap.size ≤ g ∧ e = .returned (.pointer (some ⟨g, 0, none⟩)) ∧ Led g 0 0 k w' ∧ Below w.heap.size w w' := by
  have hb : decide (k < 0) = false := decide_eq_false (by omega)
  go_enter Try.func13, Try.ntmps13
  go_wp2
  go_ret
  exact ⟨_, Nat.le_refl _, rfl, by simpa [Led] using heap_alloc_new w _, below_alloc (Below.refl _ _) _⟩
end Go.Proofs.Yteecnkappoakcaa.Core
