-- Cut by pack.py, a program of this session; not trusted: Lean checks it.
import Derived.RangeFuncNested
import Derived.RangeFuncBound
import Derived.RangeFuncCalls
import Derived.RangeFuncLeaves
import Derived.Shelf.Abstract
import Derived.Shelf.RegionOpen
import Derived.WalkKit
import Derived.OwnWalkIn
import Derived.TacticsInMore
import Derived.LoopNIn
import Derived.LoopIn
import Derived.Maps.AppendAt
import Derived.Test.YtlplaidcdocbmaaProg
import Derived.Test.YtlplaidcdocbmaaZCore1
import Derived.Test.YtlplaidcdocbmaaZPlainA
import Derived.Test.YtlplaidcdocbmaaZCore10
import Derived.Test.YtlplaidcdocbmaaZV0
/- The contracts of lattice.Sets, lattice.Parents, lattice.Size in the words of the printed laws. -/
namespace Go.Proofs.Ytlplaidcdocbmaa.Core
open Go.RowKit Go.Shelf Go.Proofs.YtlplaidcdocbmaaW.PrintWords
set_option linter.unusedVariables false
set_option linter.unusedSimpArgs false

def ofN (l : List Nat) : List Int := l.map fun (n : Nat) => (n : Int)
def setsI (d : Int) : List Int := ofN (sets d.toNat)
def parI (s d : Int) : List Int := ofN (parents s.toNat d.toNat)
def sizeI (cs : List Int) (n s : Int) : Int := min (prodL cs ((List.range cs.length).filter fun i => s.toNat.testBit i)) n
def okCards (cs : List Int) : Bool := decide (cs.length ≤ 4) && cs.all fun x => decide (0 ≤ x) && decide (x ≤ 16)
theorem okCards_len {cs : List Int} (h : okCards cs = true) : cs.length ≤ 4 := by
  unfold okCards at h; rw [Bool.and_eq_true, decide_eq_true_eq] at h; exact h.1
theorem okCards_all {cs : List Int} (h : okCards cs = true) : ∀ x ∈ cs, 0 ≤ x ∧ x ≤ 16 := by
  unfold okCards at h; rw [Bool.and_eq_true, List.all_eq_true] at h
  intro x hx
  have := h.2 x hx
  simpa using this
theorem encs_ofN (l : List Nat) : encs (Value.int .i64) (ofN l) = l.map encI := by simp [encs, ofN, encI]
theorem R_of_nats {w : World} {base : Nat} {v : Value} {l : List Nat} (h : w.ownsRow base 3 1 v l.length (l.map encI)) : Kd.R (Kd.int .i64) 3 w base (fun _ => True) v (ofN l) :=
  Kd.R_of_own (by rw [encs_ofN]; simpa [ofN] using h) (fun _ _ => trivial)

theorem sets_R (a0 : Int) (h0 : 0 ≤ a0) (h4 : a0 ≤ 4) (w : World) : Calls Try.prog 29 #[.int .i64 a0] w fun e w' => ∃ v0_ : Value, e = .returned (v0_) ∧ Kd.R (Kd.int .i64) 3 w' w.heap.size (fun _ => True) v0_ (setsI a0) ∧ Below w.heap.size w w' := by
  obtain ⟨d, rfl⟩ := Int.eq_ofNat_of_zero_le h0
  refine (sets_calls d (by omega) w).mono ?_
  rintro e w' ⟨v, he, hr, hb⟩
  exact ⟨v, he, R_of_nats hr, hb⟩
theorem parents_R (a0 a1 : Int) (h0 : 0 ≤ a0) (h16 : a0 < 16) (h1 : 0 ≤ a1) (h4 : a1 ≤ 4) (w : World) : Calls Try.prog 30 #[.int .i64 a0, .int .i64 a1] w fun e w' => ∃ v0_ : Value, e = .returned (v0_) ∧ Kd.R (Kd.int .i64) 3 w' w.heap.size (fun _ => True) v0_ (parI a0 a1) ∧ Below w.heap.size w w' := by
  obtain ⟨s, rfl⟩ := Int.eq_ofNat_of_zero_le h0
  obtain ⟨d, rfl⟩ := Int.eq_ofNat_of_zero_le h1
  refine (parents_calls s d (by omega) (by omega) w).mono ?_
  rintro e w' ⟨v, he, hr, hb⟩
  exact ⟨v, he, R_of_nats hr, hb⟩

theorem level_K (a0 : Int) (h0 : 0 ≤ a0) (h16 : a0 < 16) (w : World) : Calls Try.prog 31 #[.int .i64 a0] w fun e w' => e = .returned (.int .i64 ((lev a0.toNat : Nat) : Int)) ∧ Drawn0 w w' := by
  obtain ⟨s, rfl⟩ := Int.eq_ofNat_of_zero_le h0
  refine (level_calls s (by omega) w).mono ?_
  rintro e w' ⟨he, rfl⟩
  exact ⟨he, Drawn0.refl _⟩

theorem cell_int {w : World} {A : Option Addr} {l : List Int} (hr : Kd.C (Kd.int .i64) w A l.length l) (k : Nat) (hk : k < l.length) :
    ∃ ad, A = some ad ∧ w.cell? (ad.add k) = some (.int .i64 (l.getD k 0)) := by
  obtain ⟨ad, c, e, hc, hK, hcell⟩ := Kd.C_get hr (0 : Int) (k : Int) (by omega) (by omega)
  refine ⟨ad, e, ?_⟩
  have hc1 : c = [.int .i64 (l.getD k 0)] := by
    have := hK
    simpa [Kd.int, Kd.scalar, rd] using this
  have h := hcell 0 _ (by rw [hc1]; rfl)
  simpa [Kd.int, Kd.scalar] using h

theorem size_K (A : Option Addr) (c : Nat) (l : List Int) (m n s : Int) (w : World) (hr : Kd.C (Kd.int .i64) w A l.length l) (hok : okCards l = true) (hn : 0 ≤ n ∧ n ≤ 1000000) (hs : 0 ≤ s ∧ s < 16) :
    Calls Try.prog 34 #[.agg #[.slice A l.length c, .int .i64 m], .int .i64 n, .int .i64 s] w fun e w' => e = .returned (.int .i64 (sizeI l n s)) ∧ Below w.heap.size w w' := by
  obtain ⟨k, rfl⟩ := Int.eq_ofNat_of_zero_le hs.1
  exact size_calls A c l m n k (by omega) (okCards_len hok) (okCards_all hok) hn w (fun i hi => cell_int hr i hi)
end Go.Proofs.Ytlplaidcdocbmaa.Core
