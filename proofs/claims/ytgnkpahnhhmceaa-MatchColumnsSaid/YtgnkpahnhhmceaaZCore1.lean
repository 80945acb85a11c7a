-- Cut by pack.py, a program of this session; not trusted: Lean checks it.
import Derived.Test.YtgnkpahnhhmceaaZCore0
/- The closure inside match.right. -/
namespace Go.Proofs.Ytgnkpahnhhmceaa.Core
open Go.RowKit Go.Proofs.YtgnkpahnhhmceaaW.PrintWords Go.Proofs.YtgnkpahnhhmceaaW.PrintLast Go.Proofs.YtgnkpahnhhmceaaW.PrintMore
set_option linter.unusedVariables false
set_option linter.unusedSimpArgs false

def rdL (xs : List (List Int)) (i : Int) : List Int := xs.getD i.toNat []
def rowOk (cost : List (List Int)) (row : List Int) : Bool := decide (row.length = (rdL cost 0).length) && decide (row.length ≤ 12) && decide (cost.length ≤ row.length) && row.all okc

theorem cell_row {w : World} {A : Option Addr} {l : List (List Int)} (hr : Kd.C (Kd.slice 3 (Kd.int .i64)) w A l.length l) (k : Nat) (hk : k < l.length) :
    ∃ ad A0 c0, A = some ad ∧ w.cell? (ad.add k) = some (.slice A0 (rdL l k).length c0) ∧ Kd.C (Kd.int .i64) w A0 (rdL l k).length (rdL l k) := by
  obtain ⟨ad, c, e, _, hK, hc0⟩ := Kd.C_get hr ([] : List Int) (k : Int) (by omega) (by omega)
  have hc : ∀ j u, c[j]? = some u → w.cell? (ad.add ((k : Int).toNat * 1 + j)) = some u := hc0
  obtain ⟨A0, c0, rfl, l0, g0⟩ := hK
  exact ⟨ad, A0, c0, e, by have hq := hc 0 _ rfl; simpa [rdL] using hq, g0⟩

theorem closure_calls (b : Nat) (A0 : Option Addr) (c0 : Nat) (cost : List (List Int)) (Ar : Option Addr) (cr : Nat) (row : List Int) (w : World)
    (hcell : w.cell? ⟨b, 0, none⟩ = some (.slice A0 cost.length c0)) (hC : Kd.C (Kd.slice 3 (Kd.int .i64)) w A0 cost.length cost)
    (hne : 0 < cost.length) (hr : Kd.C (Kd.int .i64) w Ar row.length row) :
    Calls Try.prog 24 #[.slice Ar row.length cr, .pointer (some ⟨b, 0, none⟩)] w fun e w' => e = .returned (.bool (rowOk cost row)) ∧ w = w' := by
  obtain ⟨ad, A1, c1, rfl, hc1, _⟩ := cell_row hC 0 hne
  have HC := Aside0.mk hC
  have HR := Aside0.mk hr
  clear hC hr
  rw [Addr.add_zero'] at hc1
  simp only [Int.natCast_zero] at hc1
  have p0 : ((0 : Int) < (cost.length : Int)) = True := eq_true (by omega)
  have p1 : (0 < cost.length) = True := eq_true hne
  by_cases h1 : row.length = (rdL cost 0).length
  · by_cases h2 : row.length ≤ 12
    · by_cases h3 : cost.length ≤ row.length
      · have HF : Aside0 (rowOk cost row = row.all okc) := ⟨by unfold rowOk; rw [decide_eq_true h1, decide_eq_true h2, decide_eq_true h3]; rfl⟩
        have b1 : ((row.length : Int) == ((rdL cost 0).length : Int)) = true := beq_iff_eq.2 (by omega)
        have b2 : decide (row.length ≤ 12) = true := decide_eq_true h2
        have b3 : decide (cost.length ≤ row.length) = true := decide_eq_true h3
        have h12 : row.length ≤ 9223372036854775807 := by omega
        clear h1
        go_enter Try.func24, Try.ntmps24
        go_wp2_with (first | (go_at_call 25; refine (each_int_calls Ar cr row _ HR.out h12).mono ?_; rintro e w' ⟨rfl, rfl⟩))
        go_ret
        exact ⟨by rw [HF.out]; rfl, rfl⟩
      · have HF : Aside0 (rowOk cost row = false) := ⟨by unfold rowOk; rw [decide_eq_false h3]; simp⟩
        have b1 : ((row.length : Int) == ((rdL cost 0).length : Int)) = true := beq_iff_eq.2 (by omega)
        have b2 : decide (row.length ≤ 12) = true := decide_eq_true h2
        have b3 : decide (cost.length ≤ row.length) = false := decide_eq_false h3
        clear h1
        go_enter Try.func24, Try.ntmps24
        go_wp2
        go_ret
        exact ⟨by rw [HF.out]; rfl, rfl⟩
    · have HF : Aside0 (rowOk cost row = false) := ⟨by unfold rowOk; rw [decide_eq_false h2]; simp⟩
      have b1 : ((row.length : Int) == ((rdL cost 0).length : Int)) = true := beq_iff_eq.2 (by omega)
      have b2 : decide (row.length ≤ 12) = false := decide_eq_false h2
      clear h1
      go_enter Try.func24, Try.ntmps24
      go_wp2
      go_ret
      exact ⟨by rw [HF.out]; rfl, rfl⟩
  · have HF : Aside0 (rowOk cost row = false) := ⟨by unfold rowOk; rw [decide_eq_false h1]; simp⟩
    have b1 : ((row.length : Int) == ((rdL cost 0).length : Int)) = false := beq_eq_false_iff_ne.2 (by omega)
    clear h1
    go_enter Try.func24, Try.ntmps24
    go_wp2
    go_ret
    exact ⟨by rw [HF.out]; rfl, rfl⟩

theorem all_take_succ' {α : Type} (d : α) (p : α → Bool) (l : List α) (k : Nat) (hk : k < l.length) (h : (l.take k).all p = true) (h2 : p (l.getD k d) = true) : (l.take (k + 1)).all p = true := by
  have hg : l.take (k + 1) = l.take k ++ [l.getD k d] := by
    rw [List.take_succ_eq_append_getElem hk]
    simp [hk]
  rw [hg, List.all_append, h]
  simpa using h2
theorem all_false_at' {α : Type} (d : α) (p : α → Bool) (l : List α) (k : Nat) (hk : k < l.length) (h2 : p (l.getD k d) = false) : l.all p = false := by
  rw [List.all_eq_false]
  refine ⟨l[k], List.getElem_mem hk, ?_⟩
  have : l.getD k d = l[k] := by simp [hk]
  rw [← this, h2]
  simp

theorem each_rows_calls (b : Nat) (A0 : Option Addr) (c0 : Nat) (cost : List (List Int)) (w : World)
    (hcell : w.cell? ⟨b, 0, none⟩ = some (.slice A0 cost.length c0)) (hC : Kd.C (Kd.slice 3 (Kd.int .i64)) w A0 cost.length cost) (h12 : cost.length ≤ 12) :
    Calls Try.prog 23 #[.slice A0 cost.length c0, .func (.func 24) #[] #[.pointer (some ⟨b, 0, none⟩)]] w fun e w' => e = .returned (.bool (cost.all (rowOk cost))) ∧ w = w' := by
  have HC := Aside0.mk hC
  have HE := Aside0.mk hcell
  clear hC hcell
  go_enter Try.func23, Try.ntmps23
  go_wp2
  go_loop [9] (fun i => ∃ k : Nat, k ≤ cost.length ∧ i = .int .i64 k ∧ Aside0 ((cost.take k).all (rowOk cost) = true)) (fun i => cost.length - (intOf i).toNat)
  case atStart => exact ⟨0, Nat.zero_le _, rfl, ⟨rfl⟩⟩
  case round =>
    obtain ⟨k, hk, rfl, HA⟩ := hrel
    by_cases hlt : k < cost.length
    · obtain ⟨ad, A1, c1, rfl, hc1, hk1⟩ := cell_row HC.out k hlt
      have HK := Aside0.mk hk1
      have hne : 0 < cost.length := by omega
      clear hk1
      have hp : (0 : Int) ≤ (k : Int) := by omega
      cases hb : rowOk cost (rdL cost k)
      · have HF := Aside0.mk (all_false_at' [] (rowOk cost) cost k hlt hb)
        have HB := Aside0.mk hb
        clear hb
        go_wp2_with (first | (go_at_call 24; refine (closure_calls b _ c0 cost A1 c1 (rdL cost k) _ HE.out HC.out hne HK.out).mono ?_; rintro e w' ⟨rfl, rfl⟩; rw [HB.out]))
        go_ret
        exact ⟨by rw [HF.out]; rfl, rfl⟩
      · have HF := Aside0.mk (all_take_succ' [] (rowOk cost) cost k hlt HA.out hb)
        have HB := Aside0.mk hb
        clear hb
        go_wp2_with (first | (go_at_call 24; refine (closure_calls b _ c0 cost A1 c1 (rdL cost k) _ HE.out HC.out hne HK.out).mono ?_; rintro e w' ⟨rfl, rfl⟩; rw [HB.out]))
        go_round
        case rel => exact ⟨k + 1, by omega, by go_num, HF⟩
        case measure => simp [intOf]; omega
    · have hk2 : k = cost.length := by omega
      have HF := HA.out
      rw [hk2, List.take_length] at HF
      have HG := Aside0.mk HF
      clear HF
      go_wp2
      go_ret
      exact ⟨by first | rfl | (rw [HG.out]; rfl), rfl⟩

/-- What match.right tells. -/
def right (cost : List (List Int)) : Bool := decide (cost.length ≤ 12) && cost.all (rowOk cost)

theorem right_calls (A0 : Option Addr) (c0 : Nat) (cost : List (List Int)) (w : World) (hC : Kd.C (Kd.slice 3 (Kd.int .i64)) w A0 cost.length cost) :
    Calls Try.prog 20 #[.slice A0 cost.length c0] w fun e w' => e = .returned (.bool (right cost)) ∧ Below w.heap.size w w' := by
  have HC := Aside0.mk (Kd.C_alloc hC (.cells #[.slice A0 cost.length c0] 24))
  have HC0 := Aside0.mk hC
  clear hC
  by_cases h12 : cost.length ≤ 12
  · have HF : Aside0 (right cost = cost.all (rowOk cost)) := ⟨by unfold right; rw [decide_eq_true h12]; rfl⟩
    have b1 : decide (12 < cost.length) = false := decide_eq_false (by omega)
    have b2 : decide ((12 : Int) < (cost.length : Int)) = false := decide_eq_false (by omega)
    go_enter Try.func20, Try.ntmps20
    go_wp2_with (first | (go_at_call 23; refine (each_rows_calls _ A0 c0 cost _ (by simp) HC.out h12).mono ?_; rintro e w' ⟨rfl, rfl⟩))
    go_ret
    exact ⟨by rw [HF.out]; rfl, by exact below_alloc (Below.refl _ _) _⟩
  · have HF : Aside0 (right cost = false) := ⟨by unfold right; rw [decide_eq_false h12]; rfl⟩
    have b1 : decide (12 < cost.length) = true := decide_eq_true (by omega)
    have b2 : decide ((12 : Int) < (cost.length : Int)) = true := decide_eq_true (by omega)
    go_enter Try.func20, Try.ntmps20
    go_wp2
    go_ret
    exact ⟨by rw [HF.out]; rfl, by exact below_alloc (Below.refl _ _) _⟩
end Go.Proofs.Ytgnkpahnhhmceaa.Core
