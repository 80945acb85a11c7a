-- Cut by pack.py, a program of this session; not trusted: Lean checks it.
import Derived.Test.YtlplaidcdocbmaaZCore16
import Derived.Test.YtlplaidcdocbmaaZM13
/- Plans by sorting, as plain lists: a level's edges are a choice of columns; the plan is right, costs the least, leaves no cheap parent free. -/
namespace Go.Proofs.Ytlplaidcdocbmaa.Srt
open Go.Proofs.Ytlplaidcdocbmaa.Core Go.Proofs.Ytlplaidcdocbmaa.Mat
set_option linter.unusedVariables false
set_option linter.unusedSimpArgs false

def RowC (m : Nat) (r : List Int) : Prop := r.length = m ∧ ∀ v ∈ r, 0 ≤ v ∧ v ≤ 1000000
theorem right_of {m : Nat} {c : List (List Int)} (hc : c.length ≤ 12) (hm : m ≤ 12) (hcm : c.length ≤ m) (h : ∀ r ∈ c, RowC m r) : right c = true := by
  unfold right
  rw [Bool.and_eq_true, decide_eq_true_eq, List.all_eq_true]
  refine ⟨hc, fun r hr => ?_⟩
  have h1 := h r hr
  have h0 : (rdL c 0).length = m := by
    cases c with
    | nil => simp at hr
    | cons a l => exact (h a (by simp)).1
  simp only [rowOk, Bool.and_eq_true, decide_eq_true_eq, List.all_eq_true]
  refine ⟨⟨⟨by rw [h0, h1.1], by rw [h1.1]; exact hm⟩, by rw [h1.1]; exact hcm⟩, fun v hv => ?_⟩
  have := h1.2 v hv
  simp only [okc, Bool.and_eq_true, decide_eq_true_eq]
  exact this


/-- An edge of a plan: a set, what it is made of, whether by a scan. -/
structure Ed where
  set : Int
  par : Int
  scan : Bool

/-- The sets of one level, in order. -/
def lvl (d l : Nat) : List Nat := (sets d).filter fun s => lev s == l
def ownP (so : Nat → Int) (d s : Nat) : Nat := leastL so (parents s d)
def entry (sc so : Nat → Int) (d : Nat) (A S : List Nat) (i k : Nat) : Int :=
  if k < A.length then (if (parents (S.getD i 0) d).contains (A.getD k 0) then sc (A.getD k 0) else 1000000)
  else if k - A.length = i then so (ownP so d (S.getD i 0)) else 1000000
def costRow (sc so : Nat → Int) (d : Nat) (A S : List Nat) (i : Nat) : List Int := (List.range (A.length + S.length)).map (entry sc so d A S i)
def costM (sc so : Nat → Int) (d : Nat) (A S : List Nat) : List (List Int) := (List.range S.length).map (costRow sc so d A S)
def edgeAt (so : Nat → Int) (d : Nat) (A S : List Nat) (i k : Nat) : Ed :=
  if k < A.length then ⟨(S.getD i 0 : Nat), (A.getD k 0 : Nat), true⟩ else ⟨(S.getD i 0 : Nat), (ownP so d (S.getD i 0) : Nat), false⟩
def edgesAS (sc so : Nat → Int) (d : Nat) (A S : List Nat) : List Ed :=
  (List.range S.length).map fun i => edgeAt so d A S i ((assign (costM sc so d A S)).1.getD i 0).toNat
def edgesS (sc so : Nat → Int) (d l : Nat) : List Ed := edgesAS sc so d (lvl d (l + 1)) (lvl d l)
def planS (sc so : Nat → Int) (d : Nat) : List Ed := ⟨((2 ^ d - 1 : Nat) : Int), -1, false⟩ :: (List.range d).reverse.flatMap (edgesS sc so d)
-- sums
theorem sum_const_le (c : Int) (hc : 0 ≤ c) : ∀ (l : List Int) (n : Nat), l.length ≤ n → (∀ x ∈ l, x ≤ c) → l.sum ≤ c * n
  | [], n, _, _ => by simp; exact Int.mul_nonneg hc (by omega)
  | x :: l, 0, h, _ => by simp at h
  | x :: l, n + 1, h, hx => by
    have h1 := hx x (by simp)
    have h2 := sum_const_le c hc l n (by simpa using h) (fun y hy => hx y (by simp [hy]))
    rw [List.sum_cons]
    have e : c * ((n + 1 : Nat) : Int) = c * n + c := by rw [Int.natCast_add, Int.mul_add]; simp
    rw [e]; omega
theorem tot_zip : ∀ (rs : List (List Int)) (ks : List Nat), tot rs ks = (List.zipWith (fun r k => r.getD k 0) rs ks).sum
  | [], ks => by simp [tot]
  | r :: rs, [] => by simp [tot]
  | r :: rs, k :: ks => by
    show r.getD k 0 + tot rs ks = _
    rw [tot_zip rs ks, List.zipWith_cons_cons, List.sum_cons]
theorem getD_of_lt {α : Type} (l : List α) (i : Nat) (x : α) (h : i < l.length) : l.getD i x = l[i] := by
  simp [h]
theorem zip_range (m : Nat) (f : Nat → Nat → Int) (n : Nat) (ks : List Nat) (hl : ks.length = n) (hk : ∀ k ∈ ks, k < m) :
    List.zipWith (fun r k => r.getD k 0) ((List.range n).map fun i => (List.range m).map (f i)) ks = (List.range n).map fun i => f i (ks.getD i 0) := by
  apply List.ext_getElem (by simp [hl])
  intro i h1 h2
  have hi : i < n := by simpa using h2
  have hik : ks[i]'(by omega) < m := hk _ (List.getElem_mem _)
  simp [show i < ks.length by omega, hik]
theorem tot_costM (sc so : Nat → Int) (d : Nat) (A S : List Nat) (ks : List Nat) (hl : ks.length = S.length) (hk : ∀ k ∈ ks, k < A.length + S.length) :
    tot (costM sc so d A S) ks = ((List.range S.length).map fun i => entry sc so d A S i (ks.getD i 0)).sum := by
  rw [tot_zip]
  unfold costM costRow
  rw [zip_range (A.length + S.length) (entry sc so d A S) S.length ks hl hk]

/-- What the costs of a schema are: a scan is cheap, a sort is dearer, none is dear. -/
def Cheap (sc so : Nat → Int) : Prop := ∀ p, p < 16 → 0 ≤ sc p ∧ sc p ≤ 300 ∧ sc p ≤ so p ∧ so p ≤ 3000
theorem lvl_fin1 : ∀ d : Nat, d < 5 → ∀ l : Nat, l < d → (lvl d (l + 1)).length + (lvl d l).length ≤ 12 ∧ (lvl d l).length ≤ 6 ∧ 1 ≤ (lvl d l).length := by decide +kernel
theorem lvl_fin2 : ∀ d : Nat, d < 5 → ∀ l : Nat, l < d → (lvl d (l + 1)).Nodup ∧ (lvl d l).Nodup := by decide +kernel
theorem lvl_fin3 : ∀ d : Nat, d < 5 → ∀ l : Nat, l < d → ∀ s ∈ lvl d l, s < 16 ∧ s < 2 ^ d ∧ lev s = l ∧ (parents s d).length ≠ 0 := by decide +kernel
theorem lvl_fin4 : ∀ d : Nat, d < 5 → ∀ l : Nat, l < d → ∀ s ∈ lvl d l, ∀ p ∈ parents s d, p < 16 ∧ p ∈ lvl d (l + 1) := by decide +kernel
theorem lvl_fin5 : ∀ d : Nat, d < 5 → ∀ l : Nat, l < d → ∀ s ∈ lvl d (l + 1), s < 16 := by decide +kernel

/-- What the laws of one level need. -/
structure Lev (d : Nat) (A S : List Nat) : Prop where
  wide : A.length + S.length ≤ 12
  few : S.length ≤ 6
  nodA : A.Nodup
  par : ∀ s ∈ S, s < 16 ∧ parents s d ≠ [] ∧ ∀ p ∈ parents s d, p < 16 ∧ p ∈ A
  low : ∀ s ∈ A, s < 16
theorem lev_of (d : Nat) (hd : d < 5) (l : Nat) (hl : l < d) : Lev d (lvl d (l + 1)) (lvl d l) := by
  obtain ⟨h1, h2, h3⟩ := lvl_fin1 d hd l hl
  exact ⟨h1, h2, (lvl_fin2 d hd l hl).1, fun s hs => ⟨(lvl_fin3 d hd l hl s hs).1, fun e => (lvl_fin3 d hd l hl s hs).2.2.2 (by rw [e]; rfl), lvl_fin4 d hd l hl s hs⟩, lvl_fin5 d hd l hl⟩

section
variable {sc so : Nat → Int} {d : Nat} {A S : List Nat}
theorem getD_mem {l : List Nat} {i : Nat} (h : i < l.length) : l.getD i 0 ∈ l := by rw [getD_of_lt l i 0 h]; exact List.getElem_mem h
theorem own_mem (L : Lev d A S) {i : Nat} (hi : i < S.length) : ownP so d (S.getD i 0) ∈ parents (S.getD i 0) d := leastL_mem _ _ (L.par _ (getD_mem hi)).2.1
theorem own_lt (L : Lev d A S) {i : Nat} (hi : i < S.length) : ownP so d (S.getD i 0) < 16 := ((L.par _ (getD_mem hi)).2.2 _ (own_mem L hi)).1
theorem entry_bd (C : Cheap sc so) (L : Lev d A S) {i k : Nat} (hi : i < S.length) (hk : k < A.length + S.length) : 0 ≤ entry sc so d A S i k ∧ entry sc so d A S i k ≤ 1000000 := by
  unfold entry
  split
  · rename_i h
    split
    · have := C _ (L.low _ (getD_mem h)); omega
    · omega
  · split
    · have := C _ (own_lt (so := so) L hi); omega
    · omega
theorem costM_good (C : Cheap sc so) (L : Lev d A S) : ∀ r ∈ costM sc so d A S, RowC (A.length + S.length) r := by
  intro r hr
  obtain ⟨i, hi, rfl⟩ := List.mem_map.1 hr
  refine ⟨by simp [costRow], fun v hv => ?_⟩
  obtain ⟨k, hk, rfl⟩ := List.mem_map.1 hv
  exact entry_bd C L (List.mem_range.1 hi) (List.mem_range.1 hk)
theorem good_of_rowc {m : Nat} {c : List (List Int)} (h : ∀ r ∈ c, RowC m r) : Mat.Good m c := by
  intro r hr
  obtain ⟨h1, h2⟩ := h r hr
  refine ⟨h1, fun k => ?_⟩
  by_cases hk : k < r.length
  · rw [getD_of_lt r k 0 hk]; exact h2 _ (List.getElem_mem hk)
  · rw [List.getD_eq_getElem?_getD, List.getElem?_eq_none (by omega)]; simp
theorem costM_right (C : Cheap sc so) (L : Lev d A S) : right (costM sc so d A S) = true := by
  have hl : (costM sc so d A S).length = S.length := by simp [costM]
  have := L.wide
  exact right_of (m := A.length + S.length) (by omega) (by omega) (by omega) (costM_good C L)

/-- The choice of sorts alone. -/
theorem own_fits (L : Lev d A S) : Fits (A.length + S.length) (costM sc so d A S) 0 ((List.range S.length).map fun i => A.length + i) := by
  refine fits_of _ _ _ _ (by simp [costM]) ?_ ?_
  · unfold List.Nodup
    rw [List.pairwise_map]
    exact List.Pairwise.imp (fun h e => h (by omega)) (List.nodup_range (n := S.length))
  · intro k hk
    obtain ⟨i, hi, rfl⟩ := List.mem_map.1 hk
    have := List.mem_range.1 hi
    exact ⟨by omega, by simp⟩
theorem own_entry {i : Nat} : entry sc so d A S i (A.length + i) = so (ownP so d (S.getD i 0)) := by
  unfold entry
  rw [if_neg (by omega), if_pos (by omega)]
theorem best_low (C : Cheap sc so) (L : Lev d A S) : best (costM sc so d A S) 0 ≤ 18000 := by
  have h := best_le_tot _ _ _ _ (good_of_rowc (costM_good C L)) (own_fits (sc := sc) (so := so) L)
  rw [tot_costM _ _ _ _ _ _ (by simp) (fun k hk => by obtain ⟨i, hi, rfl⟩ := List.mem_map.1 hk; have := List.mem_range.1 hi; omega)] at h
  have h2 := sum_const_le 3000 (by omega) ((List.range S.length).map fun i => entry sc so d A S i (((List.range S.length).map fun i => A.length + i).getD i 0)) 6 (by simpa using L.few) (fun x hx => by
    obtain ⟨i, hi, rfl⟩ := List.mem_map.1 hx
    have hi' := List.mem_range.1 hi
    have e : ((List.range S.length).map fun i => A.length + i).getD i 0 = A.length + i := by simp [hi']
    simp only [e, own_entry]
    have := C _ (own_lt (so := so) L hi')
    omega)
  omega

/-- The choice. -/
theorem choice (C : Cheap sc so) (L : Lev d A S) : ∃ ks : List Nat, (assign (costM sc so d A S)).1 = ks.map (fun k : Nat => (k : Int)) ∧ ks.length = S.length ∧ ks.Nodup ∧ (∀ k ∈ ks, k < A.length + S.length) ∧
    ((List.range S.length).map fun i => entry sc so d A S i (ks.getD i 0)).sum = best (costM sc so d A S) 0 := by
  have hw := L.wide
  have hl : (costM sc so d A S).length = S.length := by simp [costM]
  have hb := best_low C L
  obtain ⟨ks, h1, h2, h3⟩ := pick_fits (A.length + S.length) (costM sc so d A S) 0 (by omega) (good_of_rowc (costM_good C L)) (by unfold HOPE; omega)
  obtain ⟨g1, g2, g3⟩ := of_fits _ _ _ _ h2
  refine ⟨ks, ?_, by omega, g2, fun k hk => (g3 k hk).1, ?_⟩
  · unfold assign
    rw [if_pos (costM_right C L)]
    exact h1
  · rw [← tot_costM _ _ _ _ _ _ (by omega) (fun k hk => (g3 k hk).1)]
    exact h3
/-- Edges of these sets that may be: a parent each; no parent is scanned twice. -/
def RightAt (d : Nat) (S : List Nat) (o : List Ed) : Prop := o.map (·.set) = S.map (fun (s : Nat) => (s : Int)) ∧ (∀ e ∈ o, ∃ p : Nat, e.par = (p : Int) ∧ p ∈ parents e.set.toNat d) ∧ ((o.filter (·.scan)).map (·.par)).Nodup
theorem nodup_filter_map {o : List Ed} : ∀ (hn : ((o.filter (·.scan)).map (·.par)).Nodup) {i j : Nat} {a b : Ed}, o[i]? = some a → o[j]? = some b → a.scan = true → b.scan = true → a.par = b.par → i = j := by
  induction o with
  | nil => intro _ i j a b h; simp at h
  | cons x r ih =>
    intro hn i j a b hi hj ha hb hab
    have key : ∀ {k : Nat} {c : Ed}, r[k]? = some c → c.scan = true → c.par ∈ (r.filter (·.scan)).map (·.par) := fun h1 h2 => List.mem_map.2 ⟨_, List.mem_filter.2 ⟨List.mem_of_getElem? h1, h2⟩, rfl⟩
    by_cases hx : x.scan = true
    · rw [List.filter_cons_of_pos (by simpa using hx), List.map_cons, List.nodup_cons] at hn
      cases i with
      | zero =>
        cases j with
        | zero => rfl
        | succ j =>
          simp only [List.getElem?_cons_zero, Option.some.injEq] at hi
          rw [List.getElem?_cons_succ] at hj
          subst hi
          exact absurd (hab ▸ key hj hb) hn.1
      | succ i =>
        cases j with
        | zero =>
          simp only [List.getElem?_cons_zero, Option.some.injEq] at hj
          rw [List.getElem?_cons_succ] at hi
          subst hj
          exact absurd (hab ▸ key hi ha) hn.1
        | succ j =>
          rw [List.getElem?_cons_succ] at hi hj
          rw [ih hn.2 hi hj ha hb hab]
    · rw [List.filter_cons_of_neg (by simpa using hx)] at hn
      cases i with
      | zero => simp only [List.getElem?_cons_zero, Option.some.injEq] at hi; subst hi; exact absurd ha hx
      | succ i =>
        cases j with
        | zero => simp only [List.getElem?_cons_zero, Option.some.injEq] at hj; subst hj; exact absurd hb hx
        | succ j =>
          rw [List.getElem?_cons_succ] at hi hj
          rw [ih hn hi hj ha hb hab]
end

-- all levels
def below (sc so : Nat → Int) (d n : Nat) : List Ed := (List.range n).reverse.flatMap (edgesS sc so d)
def belowS (d n : Nat) : List Nat := (List.range n).reverse.flatMap (lvl d)
theorem sets_levels : ∀ d : Nat, d < 5 → sets d = (2 ^ d - 1) :: belowS d d := by decide +kernel
/-- What it is for a plan to be right. -/
def RightPlan (d : Nat) (o : List Ed) : Prop := ∃ e0 r, o = e0 :: r ∧ e0.set = ((2 ^ d - 1 : Nat) : Int) ∧ e0.par = -1 ∧ e0.scan = false ∧ RightAt d (belowS d d) r
end Go.Proofs.Ytlplaidcdocbmaa.Srt
