-- Cut by pack.py, a program of this session; not trusted: Lean checks it.
import Derived.Test.YtlplaidcdocbmaaZPlainS
/- Whether a plan may be; orders of dimensions. -/
namespace Go.Proofs.Ytlplaidcdocbmaa.Srt
open Go.Proofs.Ytlplaidcdocbmaa.Core Go.Proofs.Ytlplaidcdocbmaa.Mat
set_option linter.unusedVariables false
set_option linter.unusedSimpArgs false

/-- Whether an edge may stand at a place of a plan. -/
def okE (d i : Nat) (e : Ed) : Bool := (e.set == (((sets d).getD i 0 : Nat) : Int)) && (if i = 0 then e.par == -1 && !e.scan else (parents ((sets d).getD i 0) d).any fun p => ((p : Nat) : Int) == e.par)
def rightGo (d : Nat) : Nat → List Int → List Ed → Bool
  | _, _, [] => true
  | i, seen, e :: r => okE d i e && !(e.scan && seen.contains e.par) && rightGo d (i + 1) (if e.scan then seen ++ [e.par] else seen) r
/-- Whether a plan may be. -/
def rightS (d : Nat) (o : List Ed) : Bool := (o.length == (sets d).length) && rightGo d 0 [] o

theorem okE_pos {d i : Nat} (hi : i ≠ 0) (e : Ed) : okE d i e = true ↔ e.set = (((sets d).getD i 0 : Nat) : Int) ∧ ∃ p : Nat, e.par = (p : Int) ∧ p ∈ parents e.set.toNat d := by
  unfold okE
  rw [if_neg hi, Bool.and_eq_true, beq_iff_eq, List.any_eq_true]
  constructor
  · rintro ⟨h1, p, h2, h3⟩
    rw [beq_iff_eq] at h3
    exact ⟨h1, p, h3.symm, by rw [h1]; simpa using h2⟩
  · rintro ⟨h1, p, h2, h3⟩
    refine ⟨h1, p, ?_, by rw [beq_iff_eq]; exact h2.symm⟩
    rw [h1] at h3
    simpa using h3
theorem rightGo_iff (d : Nat) : ∀ (r : List Ed) (i : Nat) (seen : List Int), i ≠ 0 → i + r.length = (sets d).length →
    (rightGo d i seen r = true ↔ RightAt d ((sets d).drop i) r ∧ ∀ x ∈ (r.filter (·.scan)).map (·.par), x ∉ seen)
  | [], i, seen, hi, hl => by
    have : (sets d).drop i = [] := List.drop_eq_nil_of_le (by simp at hl; omega)
    rw [this]
    simp [rightGo, RightAt]
  | e :: r, i, seen, hi, hl => by
    simp only [List.length_cons] at hl
    have hlt : i < (sets d).length := by omega
    have ih := rightGo_iff d r (i + 1) (if e.scan then seen ++ [e.par] else seen) (by omega) (by omega)
    rw [List.drop_eq_getElem_cons hlt]
    have hg : (sets d).getD i 0 = (sets d)[i] := getD_of_lt _ _ _ hlt
    simp only [rightGo, Bool.and_eq_true]
    rw [okE_pos hi, ih, hg]
    cases hs : e.scan with
    | true =>
      simp only [if_true, Bool.true_and, Bool.not_eq_true', List.contains_eq_mem, decide_eq_false_iff_not]
      unfold RightAt
      rw [List.map_cons, List.map_cons, List.filter_cons_of_pos (by simpa using hs), List.map_cons, List.nodup_cons]
      constructor
      · rintro ⟨⟨⟨h1, h2⟩, h3⟩, ⟨h4, h5, h6⟩, h7⟩
        refine ⟨⟨by rw [h1, h4], fun x hx => ?_, fun hm => ?_, h6⟩, fun x hx => ?_⟩
        · rcases List.mem_cons.1 hx with rfl | hx
          · exact h2
          · exact h5 x hx
        · exact h7 _ hm (by simp)
        · rcases List.mem_cons.1 hx with rfl | hx
          · exact h3
          · exact fun hm => h7 x hx (by simp [hm])
      · rintro ⟨⟨h1, h2, h3, h4⟩, h5⟩
        obtain ⟨h1a, h1b⟩ := List.cons.inj h1
        refine ⟨⟨⟨h1a, h2 e (by simp)⟩, h5 _ (by simp)⟩, ⟨h1b, fun x hx => h2 x (by simp [hx]), h4⟩, fun x hx => ?_⟩
        intro hm
        rcases List.mem_append.1 hm with hm | hm
        · exact h5 x (by simp only [List.mem_cons]; exact .inr hx) hm
        · simp only [List.mem_singleton] at hm
          subst hm
          exact h3 hx
    | false =>
      simp only [Bool.false_and, Bool.not_false, and_true, Bool.false_eq_true, if_false]
      unfold RightAt
      rw [List.map_cons, List.map_cons, List.filter_cons_of_neg (by simpa using hs)]
      constructor
      · rintro ⟨⟨h1, h2⟩, ⟨h4, h5, h6⟩, h7⟩
        refine ⟨⟨by rw [h1, h4], fun x hx => ?_, h6⟩, h7⟩
        rcases List.mem_cons.1 hx with rfl | hx
        · exact h2
        · exact h5 x hx
      · rintro ⟨⟨h1, h2, h4⟩, h5⟩
        obtain ⟨h1a, h1b⟩ := List.cons.inj h1
        exact ⟨⟨h1a, h2 e (by simp)⟩, ⟨h1b, fun x hx => h2 x (by simp [hx]), h4⟩, h5⟩
theorem rightS_iff (d : Nat) (hd : d < 5) (o : List Ed) : rightS d o = true ↔ RightPlan d o := by
  have hs := sets_levels d hd
  have hlen : (sets d).length = (belowS d d).length + 1 := by rw [hs]; rfl
  have hdrop : (sets d).drop 1 = belowS d d := by rw [hs]; rfl
  unfold rightS RightPlan
  cases o with
  | nil =>
    constructor
    · intro h
      rw [Bool.and_eq_true, beq_iff_eq] at h
      simp only [List.length_nil] at h
      omega
    · rintro ⟨e0, r, h, _⟩; cases h
  | cons e r =>
    rw [Bool.and_eq_true, beq_iff_eq, List.length_cons]
    have hz : (sets d).getD 0 0 = 2 ^ d - 1 := by rw [hs]; rfl
    have hok : okE d 0 e = true ↔ e.set = ((2 ^ d - 1 : Nat) : Int) ∧ e.par = -1 ∧ e.scan = false := by
      unfold okE
      rw [if_pos rfl, hz, Bool.and_eq_true, beq_iff_eq, Bool.and_eq_true, beq_iff_eq, Bool.not_eq_true']
    constructor
    · rintro ⟨h1, h2⟩
      simp only [rightGo, Bool.and_eq_true] at h2
      obtain ⟨⟨h3, h4⟩, h5⟩ := h2
      obtain ⟨k1, k2, k3⟩ := hok.1 h3
      rw [k3] at h5
      have := ((rightGo_iff d r 1 [] (by omega) (by omega)).1 h5).1
      rw [hdrop] at this
      exact ⟨e, r, rfl, k1, k2, k3, this⟩
    · rintro ⟨e0, r', h, k1, k2, k3, k4⟩
      obtain ⟨rfl, rfl⟩ := List.cons.inj h
      have hl : r.length = (belowS d d).length := by have := congrArg List.length k4.1; simpa using this
      refine ⟨by omega, ?_⟩
      simp only [rightGo, Bool.and_eq_true]
      refine ⟨⟨hok.2 ⟨k1, k2, k3⟩, by simp [k3]⟩, ?_⟩
      rw [k3]
      exact (rightGo_iff d r 1 [] (by omega) (by omega)).2 ⟨by rw [hdrop]; exact k4, fun x _ => by simp⟩

-- orders
end Go.Proofs.Ytlplaidcdocbmaa.Srt
