-- Cut by pack.py, a program of this session; not trusted: Lean checks it.
import Derived.Test.YtgnkpahnhhmceaaZCore3
/- The plain choice: it is there where enough columns are free; the document's own totals tell the same. -/
namespace Go.Proofs.Ytgnkpahnhhmceaa.Core
open Go.RowKit Go.Proofs.YtgnkpahnhhmceaaW.PrintWords Go.Proofs.YtgnkpahnhhmceaaW.PrintLast Go.Proofs.YtgnkpahnhhmceaaW.PrintMore
set_option linter.unusedVariables false
set_option linter.unusedSimpArgs false

theorem fold_le_acc (r : List Int) (B : Nat → Int) (s : Nat) : ∀ (l : List Nat) (a : Int), l.foldl (step r B s) a ≤ a
  | [], a => Int.le_refl _
  | k :: l, a => by
    rw [List.foldl_cons]
    refine Int.le_trans (fold_le_acc r B s l _) ?_
    unfold step mn
    split
    · exact Int.le_refl _
    · split <;> omega
theorem fold_le_at (r : List Int) (B : Nat → Int) (s k : Nat) (hk : s.testBit k = false) : ∀ (l : List Nat) (a : Int), k ∈ l → l.foldl (step r B s) a ≤ r.getD k 0 + B (s ||| 2 ^ k)
  | [], a, h => by simp at h
  | j :: l, a, h => by
    rw [List.foldl_cons]
    rcases List.mem_cons.1 h with rfl | h
    · refine Int.le_trans (fold_le_acc r B s l _) ?_
      unfold step mn
      rw [if_neg (by simp [hk])]
      split <;> omega
    · exact fold_le_at r B s k hk l _ h
theorem best_le_at {m : Nat} {r : List Int} (rs : List (List Int)) (s k : Nat) (hr : GoodRow m r) (hk : k < m) (hf : s.testBit k = false) : best (r :: rs) s ≤ r.getD k 0 + best rs (s ||| 2 ^ k) :=
  fold_le_at r (best rs) s k hf _ _ (by rw [hr.1]; simpa using hk)
theorem best_attained {m : Nat} {r : List Int} (rs : List (List Int)) (s : Nat) (hr : GoodRow m r) : best (r :: rs) s = HOPE ∨ ∃ k, k < m ∧ s.testBit k = false ∧ best (r :: rs) s = r.getD k 0 + best rs (s ||| 2 ^ k) := by
  show (List.range r.length).foldl (step r (best rs) s) HOPE = HOPE ∨ ∃ k, k < m ∧ s.testBit k = false ∧ (List.range r.length).foldl (step r (best rs) s) HOPE = r.getD k 0 + best rs (s ||| 2 ^ k)
  refine foldl_inv (P := fun a => a = HOPE ∨ ∃ k, k < m ∧ s.testBit k = false ∧ a = r.getD k 0 + best rs (s ||| 2 ^ k)) _ _ _ (.inl rfl) (fun a k hk ha => ?_)
  have hk' : k < m := by rw [← hr.1]; simpa using hk
  unfold step mn
  by_cases h : s.testBit k = true
  · rw [if_pos h]; exact ha
  · rw [if_neg h]
    split
    · exact .inr ⟨k, hk', by simpa using h, rfl⟩
    · exact ha

def frees (m s : Nat) : Nat := ((List.range m).filter (fun k => !s.testBit k)).length
theorem testBit_put (s k j : Nat) : (s ||| 2 ^ k).testBit j = (s.testBit j || decide (k = j)) := by
  rw [Nat.testBit_or, Nat.testBit_two_pow]
theorem frees_put {m s k : Nat} (hk : k < m) (hf : s.testBit k = false) : frees m (s ||| 2 ^ k) + 1 = frees m s := by
  unfold frees
  have hn : ((List.range m).filter (fun k => !s.testBit k)).Nodup := List.nodup_range.filter _
  have hm : k ∈ (List.range m).filter (fun k => !s.testBit k) := by simp [hk, hf]
  have e : (List.range m).filter (fun j => !(s ||| 2 ^ k).testBit j) = ((List.range m).filter (fun k => !s.testBit k)).erase k := by
    rw [hn.erase_eq_filter, List.filter_filter]
    congr 1
    funext j
    rw [testBit_put]
    by_cases h : k = j
    · subst h; simp
    · have h' : ¬ j = k := fun e => h e.symm
      simp [h, h']
  rw [e, List.length_erase_of_mem hm]
  have := List.length_pos_of_mem hm
  omega
theorem frees_zero (m : Nat) : frees m 0 = m := by
  unfold frees
  rw [List.filter_eq_self.2 (by simp)]
  simp

theorem feas (m : Nat) : ∀ (rs : List (List Int)) (s : Nat), rs.length ≤ 12 → Good m rs → rs.length ≤ frees m s → best rs s < HOPE
  | [], s, _, _, _ => by show (0 : Int) < HOPE; decide
  | r :: rs, s, hl, hg, hf => by
    have hl1 : rs.length ≤ 11 := by simpa using hl
    have hf1 : rs.length + 1 ≤ frees m s := by simpa using hf
    have hr := hg r (by simp)
    have hg' : Good m rs := fun r hr => hg r (by simp [hr])
    obtain ⟨k, hk⟩ : ∃ k, k ∈ (List.range m).filter (fun k => !s.testBit k) := List.exists_mem_of_length_pos (by unfold frees at hf1; omega)
    have hk1 : k < m ∧ s.testBit k = false := by simpa using hk
    have hp := frees_put hk1.1 hk1.2
    have ih := feas m rs (s ||| 2 ^ k) (by omega) hg' (by omega)
    have hb := best_bound m rs (s ||| 2 ^ k) (by omega) hg'
    have h1 := best_le_at rs s k hr hk1.1 hk1.2
    have h2 := (hr.2 k).2
    unfold HOPE at *
    omega

theorem find_hit {m : Nat} {r : List Int} {rs : List (List Int)} {s : Nat} (hr : GoodRow m r) (hb : best (r :: rs) s < HOPE) :
    ∃ k, (List.range m).find? (hit r (best rs) (best (r :: rs) s) s) = some k ∧ k < m ∧ s.testBit k = false ∧ r.getD k 0 + best rs (s ||| 2 ^ k) = best (r :: rs) s ∧ ∀ j, j < k → hit r (best rs) (best (r :: rs) s) s j = false := by
  rcases best_attained rs s hr with h | ⟨k, hk, hf, he⟩
  · rw [h] at hb; exact absurd hb (Int.lt_irrefl _)
  · have hs : ((List.range m).find? (hit r (best rs) (best (r :: rs) s) s)).isSome = true := by
      rw [List.find?_isSome]
      exact ⟨k, by simpa using hk, by simp only [hit, Bool.and_eq_true]; exact ⟨by simp [hf], decide_eq_true he.symm⟩⟩
    obtain ⟨j, hj⟩ := Option.isSome_iff_exists.1 hs
    refine ⟨j, hj, ?_⟩
    have hm := List.mem_of_find?_eq_some hj
    have hh := List.find?_some hj
    simp only [hit, Bool.and_eq_true, decide_eq_true_eq] at hh
    refine ⟨by simpa using hm, by simpa using hh.1, hh.2, fun i hi => ?_⟩
    have h3 := (List.find?_range_eq_some.1 hj).2.2 i hi
    simpa using h3

theorem pick_cons {m : Nat} {r : List Int} {rs : List (List Int)} {s k : Nat} (hr : GoodRow m r) (h : (List.range m).find? (hit r (best rs) (best (r :: rs) s) s) = some k) : pick (r :: rs) s = (k : Int) :: pick rs (s ||| 2 ^ k) := by
  show (match (List.range r.length).find? (hit r (best rs) (best (r :: rs) s) s) with | some k => (k : Int) :: pick rs (s ||| 2 ^ k) | none => pick rs s) = _
  rw [hr.1, h]

/-! The document's totals: -1 where there is none. -/
def conv (x : Int) : Int := if x = HOPE then -1 else x
def bestR (rs : List (List Int)) (s : Nat) : Int := conv (best rs s)
def stepR (r : List Int) (B : Nat → Int) (s : Nat) (acc : Int) (k : Nat) : Int :=
  if s.testBit k = true then acc else if B (s ||| 2 ^ k) ≥ 0 then (if acc < 0 then B (s ||| 2 ^ k) + r.getD k 0 else if B (s ||| 2 ^ k) + r.getD k 0 < acc then B (s ||| 2 ^ k) + r.getD k 0 else acc) else acc
theorem step_conv {m : Nat} {r : List Int} {rs : List (List Int)} (s k : Nat) (a : Int) (hr : GoodRow m r) (hl : rs.length ≤ 12) (hg : Good m rs) (ha : 0 ≤ a ∧ a ≤ HOPE) :
    stepR r (bestR rs) s (conv a) k = conv (step r (best rs) s a k) ∧ 0 ≤ step r (best rs) s a k ∧ step r (best rs) s a k ≤ HOPE := by
  have hb := best_bound m rs (s ||| 2 ^ k) hl hg
  have h2 := hr.2 k
  unfold stepR step bestR conv mn
  generalize best rs (s ||| 2 ^ k) = x at *
  generalize r.getD k 0 = c at *
  unfold HOPE at *
  by_cases hk : s.testBit k = true
  · rw [if_pos hk, if_pos hk]
    exact ⟨rfl, ha⟩
  · rw [if_neg hk, if_neg hk]
    refine ⟨?_, ?_⟩
    · repeat' split
      all_goals omega
    · split <;> omega
theorem fold_conv {m : Nat} {r : List Int} {rs : List (List Int)} (s : Nat) (hr : GoodRow m r) (hl : rs.length ≤ 12) (hg : Good m rs) :
    ∀ (l : List Nat) (a : Int), 0 ≤ a ∧ a ≤ HOPE → l.foldl (stepR r (bestR rs) s) (conv a) = conv (l.foldl (step r (best rs) s) a)
  | [], a, _ => rfl
  | k :: l, a, ha => by
    obtain ⟨h1, h2⟩ := step_conv s k a hr hl hg ha
    rw [List.foldl_cons, List.foldl_cons, h1]
    exact fold_conv s hr hl hg l _ h2
theorem bestR_cons {m : Nat} {r : List Int} {rs : List (List Int)} (s : Nat) (hr : GoodRow m r) (hl : rs.length ≤ 12) (hg : Good m rs) :
    (List.range m).foldl (stepR r (bestR rs) s) (-1) = bestR (r :: rs) s := by
  have := fold_conv s hr hl hg (List.range m) HOPE (by decide)
  rw [show conv HOPE = -1 from by decide] at this
  rw [this]
  show conv _ = conv ((List.range r.length).foldl (step r (best rs) s) HOPE)
  rw [hr.1]
def tabR (m : Nat) (rs : List (List Int)) : List Int := (List.range (2 ^ m)).map (bestR rs)
theorem tabR_length (m : Nat) (rs : List (List Int)) : (tabR m rs).length = 2 ^ m := by simp [tabR]
theorem tabR_get (m : Nat) (rs : List (List Int)) (s : Nat) (h : s < 2 ^ m) : rd (tabR m rs) (s : Int) = bestR rs s := by
  rw [rd_nat]
  simp [tabR, h]
theorem tabR_ext (m : Nat) (rs : List (List Int)) (R : List Int) (hR : R.length = 2 ^ m) (h : ∀ t, t < 2 ^ m → R.getD t 0 = bestR rs t) : R = tabR m rs := by
  apply List.ext_getElem (by rw [hR, tabR_length])
  intro i h1 h2
  have := h i (by omega)
  rw [List.getD_eq_getElem?_getD, List.getElem?_eq_getElem h1] at this
  simp [tabR]
  simpa using this
theorem bestR_bound {m : Nat} {rs : List (List Int)} (s : Nat) (hl : rs.length ≤ 12) (hg : Good m rs) : -1 ≤ bestR rs s ∧ bestR rs s ≤ 12000000 := by
  have := best_bound m rs s hl hg
  unfold bestR conv HOPE at *
  split <;> omega
end Go.Proofs.Ytgnkpahnhhmceaa.Core
