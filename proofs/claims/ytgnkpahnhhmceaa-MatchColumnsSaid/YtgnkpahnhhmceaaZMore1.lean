-- Cut by pack.py, a program of this session; not trusted: Lean checks it.
import Derived.Deep.Draws
import Derived.Tactics
import Derived.Tactics2
import Derived.OwnWalk
import Derived.Outline
import Derived.Lib.Walk
import Derived.Test.YtgnkpahnhhmceaaZPlainM
import Derived.Test.YtgnkpahnhhmceaaZCore12
import Derived.Test.YtgnkpahnhhmceaaZCore11
/- MatchMore's walk: three grids of costs; one row of the second is made dearer, each row of the third gets one more cell. -/
namespace Go.Proofs.Ytgnkpahnhhmceaa.Core
open Go.RowKit Go.Proofs.YtgnkpahnhhmceaaW.PrintWords Go.Proofs.YtgnkpahnhhmceaaW.PrintLast Go.Proofs.YtgnkpahnhhmceaaW.PrintMore
set_option linter.unusedVariables false
set_option linter.unusedSimpArgs false
abbrev Gd : Kd (List Int) := Kd.slice 3 (Kd.int .i64)
/-- The blocks outside lo .. hi (below the size of then) are as they were. -/
structure KeepO (lo hi : Nat) (w w' : World) : Prop where
  os : w'.os = w.os
  tape : w'.tape = w.tape
  output : w'.output = w.output
  size : w.heap.size ≤ w'.heap.size
  block : ∀ k, k < w.heap.size → ¬ (lo ≤ k ∧ k < hi) → w'.heap[k]? = w.heap[k]?
theorem KeepO.refl (lo hi : Nat) (w : World) : KeepO lo hi w w := ⟨rfl, rfl, rfl, Nat.le_refl _, fun _ _ _ => rfl⟩
theorem KeepO.drewN {lo hi : Nat} {w w' : World} (h : KeepO lo hi w w') (n : Nat) : KeepO lo hi w (w'.drewN n) := ⟨h.os, h.tape, h.output, h.size, h.block⟩
theorem KeepO.drew {lo hi : Nat} {w w' : World} (h : KeepO lo hi w w') : KeepO lo hi w w'.drew := ⟨h.os, h.tape, h.output, h.size, h.block⟩
theorem KeepO.set {lo hi : Nat} {w w' : World} (h : KeepO lo hi w w') {g j : Nat} {v : Value} (h1 : lo ≤ g) (h2 : g < hi) : KeepO lo hi w (w'.setCell ⟨g, j, none⟩ v) := by
  have hb := below_set (w := w') (W := w') (g := w'.heap.size) (j := j) (v := v) (Below.refl _ _) (Nat.le_refl _)
  refine ⟨h.os, h.tape, h.output, ?_, fun k hk hn => ?_⟩
  · have : (w'.setCell ⟨g, j, none⟩ v).heap.size = w'.heap.size := by simp [World.setCell]
    rw [this]; exact h.size
  · rw [Below.heap_setCell w' ⟨g, j, none⟩ v k (fun e => hn (by subst e; exact ⟨h1, h2⟩))]
    exact h.block k hk hn
theorem KeepO.below {lo hi : Nat} {w w' : World} (h : KeepO lo hi w w') (hlo : lo ≤ w.heap.size) : Below lo w w' := ⟨h.os, h.tape, h.output, h.size, fun k hk => h.block k (by omega) (by omega)⟩
theorem withinM (a n : Int) (hn : 0 < n) (h2 : n ≤ 4611686018427387904) (w : World) : Calls Try.prog 18 #[.int .i64 a, .int .i64 n] w fun e w' => ∃ z : Nat, (z : Int) < n ∧ e = .returned (.int .i64 (z : Int)) ∧ Below w.heap.size w w' := by
  obtain ⟨z, hz, h0, h1⟩ := within_f a n hn h2
  obtain ⟨m, rfl⟩ := Int.eq_ofNat_of_zero_le h0
  refine (hypercubelaw9_within.calls a n _ w hz).mono ?_
  rintro e w' ⟨rfl, hb⟩
  exact ⟨m, h1, rfl, below_drawn hb⟩
/-- One number of one row: read, and written. -/
theorem S_put {w : World} {base : Nat} {ok : Nat → Prop} {g n cap : Nat} {xs : List (List Int)} (h : Kd.S Gd 22 w base ok (.slice (some ⟨g, 0, none⟩) n cap) xs) (k : Nat) (hk : k < n) (i : Nat) (hi : i < (xs.getD k []).length) :
    ∃ gk ck, base ≤ gk ∧ gk < w.heap.size ∧ ok gk ∧ w.cell? ⟨g, k, none⟩ = some (.slice (some ⟨gk, 0, none⟩) (xs.getD k []).length ck) ∧ w.cell? ⟨gk, i, none⟩ = some (.int .i64 ((xs.getD k []).getD i 0)) ∧ w.frozen? ⟨gk, i, none⟩ = false ∧
      ∀ v, Kd.S Gd 22 (w.setCell ⟨gk, i, none⟩ (.int .i64 v)) base ok (.slice (some ⟨g, 0, none⟩) n cap) (xs.set k ((xs.getD k []).set i v)) := by
  obtain ⟨oki, c, hcl, hM, hcc, hok, hbk⟩ := Kd.S_borrow h [] (k : Int) (by omega) (by omega)
  rw [Int.toNat_natCast] at hM hcc hbk
  obtain ⟨ve, rfl, ge⟩ := hM
  generalize xs.getD k [] = r at *
  obtain ⟨gk, ck, rfl, hb, hl, cl, hG⟩ := Kd.R_form ge (by omega)
  have hv := hcc 0 _ rfl
  rw [Nat.add_zero, show Gd.sz = 1 from rfl, Nat.mul_one, add_plain] at hv
  obtain ⟨hc1, hf1⟩ := Kd.R_celln 0 ge (i : Int) (by omega) (by omega)
  rw [Int.toNat_natCast] at hc1 hf1
  refine ⟨gk, ck, hb, hl, (hok gk (ge.1 gk rfl)).1, hv, ?_, hf1, fun v => ?_⟩
  · simpa [rdOf] using hc1
  · have HP := Kd.R_putg ge (i : Int) v
    rw [Int.toNat_natCast] at HP
    exact hbk HP.2 (fun k_ e_ => by injection e_ with e_; subst e_; exact ge.1 _ rfl) (x' := r.set i v) (Kd.M_row HP.1)
/-- match.Assign of costs that are right. -/
theorem asgM (A0 : Option Addr) (c0 : Nat) (l0 : List (List Int)) (w : World) (hr : right l0 = true) (hr0 : Kd.C Gd w A0 l0.length l0) (hc0 : l0.length ≤ c0) :
    Calls Try.prog 15 #[.slice A0 l0.length c0] w fun e w' => ∃ A c, e = .returned (.tuple #[.slice A (pick l0 0).length c, .int .i64 (best l0 0), .bool true]) ∧ Kd.C (Kd.int .i64) w' A (pick l0 0).length (pick l0 0) ∧ (pick l0 0).length ≤ c ∧ Below w.heap.size w w' := by
  refine (assign_calls A0 c0 l0 w hr0 hc0).mono ?_
  have ha : assign l0 = (pick l0 0, best l0 0, true) := by unfold assign; rw [if_pos hr]
  rw [ha]
  rintro e w' ⟨v, rfl, hv, hb⟩
  obtain ⟨A, c, rfl⟩ := Kd.R_slice hv
  have h := Kd.R_reads' hv
  exact ⟨A, c, rfl, h.2.2, h.2.1, hb⟩
theorem below_set3 {B : Nat} {w W : World} {g j : Nat} {v : Value} (h : Below B w W) (hg : B ≤ g) : Below B w (W.setCell ⟨g, j, none⟩ v) := h.setCell hg _
end Go.Proofs.Ytgnkpahnhhmceaa.Core
