-- Cut by pack.py, a program of this session; not trusted: Lean checks it.
import Derived.Test.YtgnkpahnhhmceaaZCore13
import Derived.Test.YtgnkpahnhhmceaaZCore11
/- Choices moved: one row dearer, a column more, columns in another order, a square turned about. -/
namespace Go.Proofs.Ytgnkpahnhhmceaa.Core
set_option linter.unusedVariables false
set_option linter.unusedSimpArgs false

theorem ahead_total : ∀ (a b : List Nat), a.length = b.length → ¬ Ahead a b → ¬ Ahead b a → a = b
  | [], [], _, _, _ => rfl
  | [], _ :: _, h, _, _ => by simp at h
  | _ :: _, [], h, _, _ => by simp at h
  | x :: a, y :: b, h, h1, h2 => by
    have h1' : ¬ (x < y ∨ (x = y ∧ Ahead a b)) := h1
    have h2' : ¬ (y < x ∨ (y = x ∧ Ahead b a)) := h2
    have e : x = y := by omega
    subst e
    rw [ahead_total a b (by simpa using h) (fun hh => h1' (.inr ⟨rfl, hh⟩)) (fun hh => h2' (.inr ⟨rfl, hh⟩))]

theorem good_rowc {m : Nat} {c : List (List Int)} (h : ∀ r ∈ c, RowC m r) : Good m c := by
  intro r hr
  obtain ⟨h1, h2⟩ := h r hr
  refine ⟨h1, fun k => ?_⟩
  by_cases hk : k < r.length
  · have e : r.getD k 0 = r[k] := by simp [hk]
    rw [e]; exact h2 _ (List.getElem_mem hk)
  · rw [List.getD_eq_getElem?_getD, List.getElem?_eq_none (by omega)]; simp
/-- A choice that is there: the first columns. -/
theorem first_fits {m : Nat} {c : List (List Int)} (hcm : c.length ≤ m) : Fits m c 0 (List.range c.length) :=
  fits_of m c 0 _ (by simp) List.nodup_range (fun k hk => ⟨by have := List.mem_range.1 hk; omega, by simp⟩)
theorem tot_le {m : Nat} : ∀ (rs : List (List Int)) (ks : List Nat), Good m rs → tot rs ks ≤ 1000000 * (rs.length : Int)
  | [], ks, _ => by simp [tot]
  | r :: rs, [], _ => by simp [tot]; omega
  | r :: rs, k :: ks, hg => by
    have ih := tot_le rs ks (fun r hr => hg r (by simp [hr]))
    have hr := (hg r (by simp)).2 k
    show r.getD k 0 + tot rs ks ≤ 1000000 * ((r :: rs).length : Int)
    simp only [List.length_cons]
    omega
theorem best_hope {m : Nat} {c : List (List Int)} (hc : c.length ≤ 12) (hcm : c.length ≤ m) (h : ∀ r ∈ c, RowC m r) : best c 0 < HOPE := by
  have h1 := best_le_tot m c 0 _ (good_rowc h) (first_fits hcm)
  have h2 := tot_le (m := m) c (List.range c.length) (good_rowc h)
  unfold HOPE
  omega
/-- The choice, all that is known of it. -/
theorem chosen {m : Nat} {c : List (List Int)} (hc : c.length ≤ 12) (hcm : c.length ≤ m) (h : ∀ r ∈ c, RowC m r) :
    ∃ ks : List Nat, pick c 0 = ks.map (fun k : Nat => (k : Int)) ∧ Fits m c 0 ks ∧ tot c ks = best c 0 ∧ (∀ ls, Fits m c 0 ls → best c 0 ≤ tot c ls) ∧ (∀ ls, Fits m c 0 ls → tot c ls = best c 0 → ¬ Ahead ls ks) := by
  have hb := best_hope hc hcm h
  obtain ⟨ks, h1, h2, h3⟩ := pick_fits m c 0 hc (good_rowc h) hb
  exact ⟨ks, h1, h2, h3, fun ls hl => best_le_tot m c 0 ls (good_rowc h) hl, fun ls hl he => pick_first m c 0 ks ls hc (good_rowc h) hb h1 hl he⟩

/-- Fits looks at the number of rows alone. -/
theorem fits_len {m : Nat} {c d : List (List Int)} (hl : c.length = d.length) {ks : List Nat} (h : Fits m c 0 ks) : Fits m d 0 ks := by
  obtain ⟨h1, h2, h3⟩ := of_fits m c 0 ks h
  exact fits_of m d 0 ks (by omega) h2 h3

-- one row dearer
def dearer (c : List (List Int)) (k : Nat) (w : Int) : List (List Int) := c.set k ((c.getD k []).map (· + w))
theorem tot_dearer {m : Nat} {w : Int} : ∀ (c : List (List Int)) (k : Nat) (ks : List Nat), (∀ r ∈ c, RowC m r) → k < c.length → ks.length = c.length → (∀ j ∈ ks, j < m) → tot (dearer c k w) ks = tot c ks + w
  | [], k, ks, _, hk, _, _ => by simp at hk
  | r :: c, 0, [], _, _, hl, _ => by simp at hl
  | r :: c, 0, j :: ks, h, _, _, hj => by
    show ((r :: c).getD 0 [] |>.map (· + w)).getD j 0 + tot c ks = r.getD j 0 + tot c ks + w
    have hlt : j < r.length := by rw [(h r (by simp)).1]; exact hj j (by simp)
    have e : ((r :: c).getD 0 [] |>.map (· + w)).getD j 0 = r.getD j 0 + w := by simp [hlt]
    rw [e]; omega
  | r :: c, k + 1, [], _, _, hl, _ => by simp at hl
  | r :: c, k + 1, j :: ks, h, hk, hl, hj => by
    have ih := tot_dearer (w := w) c k ks (fun r hr => h r (by simp [hr])) (by simpa using hk) (by simpa using hl) (fun j hj' => hj j (by simp [hj']))
    have e : dearer (r :: c) (k + 1) w = r :: dearer c k w := by
      unfold dearer
      rw [List.set_cons_succ]
      rfl
    rw [e]
    show r.getD j 0 + tot (dearer c k w) ks = r.getD j 0 + tot c ks + w
    rw [ih]; omega
theorem dearer_rows {m : Nat} {w : Int} {c : List (List Int)} {k : Nat} (h : ∀ r ∈ c, RowC m r) (hb : ∀ r ∈ c, ∀ v ∈ r, v ≤ 1000) (hw : 0 ≤ w ∧ w ≤ 1000) (hk : k < c.length) : ∀ r ∈ dearer c k w, RowC m r := by
  intro r hr
  rcases List.mem_or_eq_of_mem_set hr with hr | rfl
  · exact h r hr
  · have e : c.getD k [] = c[k] := by simp [hk]
    have hm := List.getElem_mem hk
    rw [e]
    refine ⟨by simpa using (h _ hm).1, fun v hv => ?_⟩
    obtain ⟨x, hx, rfl⟩ := List.mem_map.1 hv
    have h1 := (h _ hm).2 x hx
    have h2 := hb _ hm x hx
    omega
theorem dearer_pick {m : Nat} {w : Int} {c : List (List Int)} {k : Nat} (hc : c.length ≤ 12) (hcm : c.length ≤ m) (h : ∀ r ∈ c, RowC m r) (hb : ∀ r ∈ c, ∀ v ∈ r, v ≤ 1000) (hw : 0 ≤ w ∧ w ≤ 1000) (hk : k < c.length) :
    pick (dearer c k w) 0 = pick c 0 ∧ best (dearer c k w) 0 = best c 0 + w := by
  have hl : (dearer c k w).length = c.length := by simp [dearer]
  obtain ⟨ks, p1, f1, t1, b1, a1⟩ := chosen hc hcm h
  obtain ⟨ls, p2, f2, t2, b2, a2⟩ := chosen (m := m) (c := dearer c k w) (by omega) (by omega) (dearer_rows h hb hw hk)
  have hks := of_fits m _ _ _ f1
  have hls := of_fits m _ _ _ f2
  have f1' := fits_len (d := dearer c k w) hl.symm f1
  have f2' := fits_len (d := c) hl f2
  have e1 := tot_dearer (w := w) c k ks h hk (by omega) (fun j hj => (hks.2.2 j hj).1)
  have e2 := tot_dearer (w := w) c k ls h hk (by omega) (fun j hj => (hls.2.2 j hj).1)
  have g1 := b2 ks f1'
  have g2 := b1 ls f2'
  have hbest : best (dearer c k w) 0 = best c 0 + w := by omega
  refine ⟨?_, hbest⟩
  rw [p1, p2, ahead_total ls ks (by omega) (a1 ls f2' (by omega)) (a2 ks f1' (by omega))]

-- one more column
theorem tot_congr : ∀ (c d : List (List Int)) (ks : List Nat), c.length = d.length → (∀ i, i < c.length → ∀ j ∈ ks, (d.getD i []).getD j 0 = (c.getD i []).getD j 0) → tot d ks = tot c ks
  | [], [], ks, _, _ => rfl
  | [], _ :: _, _, h, _ => by simp at h
  | _ :: _, [], _, h, _ => by simp at h
  | r :: c, q :: d, [], _, _ => by simp [tot]
  | r :: c, q :: d, k :: ks, hl, h => by
    have ih := tot_congr c d ks (by simpa using hl) (fun i hi j hj => by
      have := h (i + 1) (by simpa using hi) j (by simp [hj])
      simpa using this)
    have h0 := h 0 (by simp) k (by simp)
    show q.getD k 0 + tot d ks = r.getD k 0 + tot c ks
    rw [ih]
    have h0' : q.getD k 0 = r.getD k 0 := by simpa using h0
    rw [h0']
theorem wider_best {m : Nat} {c e : List (List Int)} (hc : c.length ≤ 12) (hcm : c.length ≤ m) (h : ∀ r ∈ c, RowC m r) (hl : e.length = c.length) (he : ∀ r ∈ e, RowC (m + 1) r)
    (hce : ∀ i, i < c.length → ∃ v, e.getD i [] = c.getD i [] ++ [v]) : best e 0 ≤ best c 0 := by
  obtain ⟨ks, p1, f1, t1, b1, a1⟩ := chosen hc hcm h
  obtain ⟨ls, p2, f2, t2, b2, a2⟩ := chosen (m := m + 1) (c := e) (by omega) (by omega) he
  obtain ⟨g1, g2, g3⟩ := of_fits m _ _ _ f1
  have h1 := b2 ks (fits_of (m + 1) e 0 ks (by omega) g2 (fun k hk => ⟨by have := (g3 k hk).1; omega, (g3 k hk).2⟩))
  have h2 : tot e ks = tot c ks := tot_congr c e ks hl.symm (fun i hi j hj => by
    obtain ⟨v, hv⟩ := hce i hi
    have hm : c.getD i [] ∈ c := by
      have e : c.getD i [] = c[i] := by simp [hi]
      rw [e]; exact List.getElem_mem hi
    have hj1 := (g3 j hj).1
    rw [← (h _ hm).1] at hj1
    rw [hv, List.getD_eq_getElem?_getD, List.getElem?_append_left hj1, ← List.getD_eq_getElem?_getD])
  omega

-- sums over an order
-- a square's other way about
-- columns in another order
end Go.Proofs.Ytgnkpahnhhmceaa.Core
